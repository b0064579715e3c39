/-
  Contracts of functions of the program, and plain laws: put together of several texts.
-/
import Derived.Test.YtfjmpninmdjcaaaGreatDoorGd
import Derived.Test.YtfjmpninmdjcaaaGreatDoorGa
import Derived.Test.YtfjmpninmdjcaaaGreatDoorGb
import Derived.Test.YtfjmpninmdjcaaaGreatDoorRows
import Derived.Test.YtfjmpninmdjcaaaGreatDoorGc
import Derived.Shelf.Vars
set_option linter.unusedVariables false
set_option linter.unusedSimpArgs false
set_option linter.unusedSectionVars false
set_option linter.defProp false
set_option maxHeartbeats 8000000
set_option maxRecDepth 20000
namespace Go.Proofs.YtfjmpninmdjcaaaGreatDoor

namespace pF
open E Go.RowKit eM eP e1 e7 ev eQ eR fC fD fI fS ga gz gq hG lK mq ng oh ke dz
set_option maxRecDepth 100000 in
theorem oR:c4 Tryz.prog 69 9 1 16:=⟨Tryz.underlying69,_,_,rfl,rfl,rfl,rfl,rfl⟩
theorem Dn{ul:List cA}{m:bF}(av:c6 m.n=0)(d:m.J=bz)(hw:¬m.w=bz):iH m.n ((ul.map (·.n)).filter (fun x=>decide (x≠m.n)))=if hM (bG ul) m=true then 13 else 0:=by
 rw[wJ av (fun h=>by have:=(List.mem_filter.1 h).2;simp at this)];unfold hM;rw[decide_eq_true (show m.J=bz∧m.w≠bz from⟨d,hw⟩),Bool.true_and,List.any_filter,show(bG ul).map (·.1)=ul.map (·.n)by simp[bG]]
theorem qL{l:dR}{ml:List bF}{j:Nat}{e:Int}(n:j<ml.length)(k:∀q (h:q<j),∀U:q<ml.length,gR l (ml.take q) ml[q]=0)(he:gR l (ml.take j) ml[j]=e)(aA:e≠0):fx l ml=e:=by
 have d:=sY (ml:=ml) (l:=l) (pre:=[]) (j:=j) n (fun i h=>by rw[List.nil_append];exact k i h (by omega)) (by rw[List.nil_append,he];exact aA);rw[List.nil_append,he]at d;rw[fx,if_pos (by rw[d];exact aA),d]
theorem xK(l:dR)(m:bF):(dL l m).length≤l.length+1:=by
 unfold dL;split
 ·have:(ea l m.n).length≤l.length:=List.length_filter_le _ _
  omega
 ·exact wT _ _ _
theorem kZ(l:List cA):(bG l).length=l.length:=List.length_map ..
theorem DL{ml:List bF}{n:aH}{j k:Nat}(d:k<j)(i:k<ml.length)(h:ml[k].n=n):n∈(ml.take j).map (·.n):=
 List.mem_map.2 ⟨ml[k],List.mem_take_iff_getElem.2 ⟨k,by omega,rfl⟩,h⟩
theorem s9{ml:List bF}{n:aH}{j:Nat}(h:∀q,q<j→∀U:q<ml.length,¬ml[q].n=n):n∉(ml.take j).map (·.n):=by
 intro hm;obtain⟨x,d,e⟩:=List.mem_map.1 hm;obtain⟨q,i,rfl⟩:=List.mem_take_iff_getElem.1 d;exact h q (by omega) (by omega) e
set_option maxHeartbeats 1600000 in
theorem Gy(s:cW)(t:b1)(w0:World)(I:Heap)
 (C:bx I dB 33 s.en.v s.ba) (c7:de (bG s.ba)) (gI:s.ba.length≤200) (fm:∀x∈(bG s.ba),x.1.length≤60) (hm:bx I du 66 t.ei.v t.ml) (gE:t.ml.length≤65535) (cj:∀m∈t.ml,m.n.length≤140737488355328):
 aC Tryz.prog w0 41 #[eg s,dG t] I (fun r M=>r= .int .i64 (fx (bG s.ba) t.ml)∧aj I M):=by
 refine aC.aK [eg s,dG t] Tryz.func41 ?_;intro fu aE;have n:aj I I:=W.refl _ _;replace C:=C.bw;have cu:=C.bY;replace hm:=hm.bw;have cv:=hm.bY;refine G.L (fun et=>?_);refine o.aO cq ?_;rintro v2 M ⟨rfl,F,a2,fP,eu⟩;have fH:M.size=I.size+1:=by rw[eu];simp
 replace C:=C.M a2;replace hm:=hm.M a2;replace n:=n.L a2;have fQ:=a2.size;replace F:Var 47 M I.size (bS s):=F;refine o.aO cq ?_;rintro v3 bc ⟨rfl,A,aR,fR,ev⟩;have fI:bc.size=M.size+1:=by rw[ev];simp
 replace C:=C.M aR;replace hm:=hm.M aR;replace F:=F.M aR;replace n:=n.L aR;have fS:=aR.size;replace A:Var 32 bc M.size (c_ t):=A;refine o.ak ?_;refine et (G.t2 (fun ew a3=>G.L (fun ey=>?_)));refine o.ak ?_;refine ey (G.aB (fun _ ez a4=>?_))
 refine G.bg (fun(j:(Nat))=>[(2,.pointer (some ⟨I.size,0,none⟩)),(3,.pointer (some ⟨M.size,0,none⟩)),(5,.int .i64 (j:Int))])
  (fun(j:(Nat)) (H:Heap)=>(j≤t.ml.length)∧(∀q (h:q<j),∀U:q<t.ml.length,gR (bG s.ba) (t.ml.take q) t.ml[q]=0)∧aj bc H)
  (fun(j:(Nat))=>t.ml.length-j) 0 ⟨rfl,rfl,rfl,trivial⟩ ?_ ?_
 ·
  exact⟨(by omega),(fun q h=>absurd h (Nat.not_lt_zero _)),W.refl _ _⟩
 intro j X eA ft eD aS;obtain⟨gC,aM,E⟩:=eA;replace C:=C.M E;replace hm:=hm.M E;replace F:=F.M E;replace A:=A.M E;replace n:=n.L E;have fT:=E.size;refine G.t2 (fun eE eF=>G.L (fun eG=>?_));refine o.V ?_;refine o.v1 (Y.ai A.N rfl bu rfl eo) ?_;refine o.v1 (ar (A.N.drop 2) eB) ?_;refine o.v1 (bb hm dI) ?_;refine o.v1 bJ (o.nil (eG ?_));refine aU (fun eH=>?_) (fun eH=>?_)
 ·
  refine G.skip (eE (G.t2 (fun eJ a5=>G.aB (fun eK _ bd=>G.L (fun cr=>?_)))));refine o.v1 (Y.ai A.N rfl bu rfl eo) ?_;refine o.v1 (ar (A.N.drop 2) eB) ?_;refine o.V ?_;have P:j<t.ml.length:=by omega
  obtain⟨y,L⟩:∃q,q=t.ml[j]:=⟨_,rfl⟩;have a6:y∈t.ml:=by rw[L];exact List.getElem_mem P
  have gJ:=cj y a6;refine o.bR (Y.bL hm (j) rfl dI dO rfl rfl) fun fK a9=>?_;refine o.v1 (Y.cast (v2:= .agg (du y).toArray) (aT a9.N iF dO (e4 _)) (by rw[L])) ?_;refine o.aO (cV mm) ?_;rintro v6 cn ⟨rfl,B,aA,fU,eh⟩;have fy:cn.size=X.size+1:=by rw[eh];simp
  have ei:=(ay.new (cu.mono n.size):ay _ (X.size+1));have dE:=(ay.new (cv.mono n.size):ay _ (X.size+1));have cG:af (I.size+1) (X.size+1):=af.new F.lt;have dJ:af (M.size+1) (X.size+1):=af.new A.lt;have dK:T 0 I.size (X.size+1):=T.new n.size;have dN:T 0 bc.size (X.size+1):=T.new E.size;replace C:=C.M aA;replace hm:=hm.M aA;replace F:=F.M aA;replace A:=A.M aA;replace n:=n.L aA;replace E:=E.L aA;have fW:=aA.size;refine o.s1 (dM B (_) (du y) (kO y) dO (e4 _) ((c9 (e4 _).symm))) fun fB bT=>?_;obtain⟨B,ac⟩:=bT;replace ac:=ac.bs;replace C:=C.ab ac (az.J ei);replace hm:=hm.ab ac (az.J dE);replace F:=F.ab ac (ah.J cG);replace A:=A.ab ac (ah.J dJ);replace n:=n.bo ac (ag.J (aq.q dK));replace E:=E.bo ac (ag.J (aq.q dN));have fX:=ac.size;refine o.nil (cr (G.t2 (fun be dP=>G.L (fun dR=>?_))));refine o.v1 (Y.ai B.N rfl cC rfl bP) ?_;refine o.v1 (ar B.N bN) ?_;refine aW pZ (qV y.n w0 _ (by omega)) (fun fY ej ek=>?_);obtain⟨rfl,aa⟩:=ek;replace C:=C.M aa;replace hm:=hm.M aa;replace F:=F.M aa;replace A:=A.M aa;replace B:=B.M aa;replace n:=n.L aa;replace E:=E.L aa;have fZ:=aa.size;refine o.v1 cU (o.nil (dR ?_));refine aU (fun aK=>?_) (fun aK=>?_)
  ·
   refine G.L (fun bi=>?_);refine o.ak ?_;refine bi ?_;refine G.ret (dP (bd (a5 (aS (a4 (a3 (aE ?_)))))));exact⟨by rw[qL (e:=7) P aM (by rw[←L];unfold gR;rw[if_pos aK]) (by decide)],n⟩
  ·
   refine G.skip (be (G.t2 (fun dT aB=>G.L (fun dV=>?_))));refine o.ak ?_;refine dV (G.aB (fun _ dX dY=>?_))
   refine G.bg (fun(k:(Nat))=>[(2,.pointer (some ⟨I.size,0,none⟩)),(3,.pointer (some ⟨M.size,0,none⟩)),(5,.int .i64 (j:Int)),(6,.pointer (some ⟨X.size,0,none⟩)),(7,.int .i64 (k:Int))])
    (fun(k:(Nat)) (H:Heap)=>(k≤j)∧(∀q,q<k→∀U:q<t.ml.length,¬t.ml[q].n=y.n)∧aj ej H)
    (fun(k:(Nat))=>j-k) 0 ⟨rfl,rfl,rfl,rfl,rfl,trivial⟩ ?_ ?_
   ·
    exact⟨(by omega),(fun q h=>absurd h (Nat.not_lt_zero _)),W.refl _ _⟩
   intro k b8 cy f_ dZ bL;obtain⟨fk,a7,V⟩:=cy;replace C:=C.M V;replace hm:=hm.M V;replace F:=F.M V;replace A:=A.M V;replace B:=B.M V;replace n:=n.L V;replace E:=E.L V;have ga:=V.size;refine G.t2 (fun d_ ea=>G.L (fun br=>?_));refine o.ax 2 ?_;refine o.v1 bJ (o.nil (br ?_));refine aU (fun en=>?_) (fun en=>?_)
   ·
    refine G.skip (d_ (G.t2 (fun eb ec=>G.aB (fun ed _ bv=>G.t1 (fun ee=>?_)))));refine hf ?_;refine o.v1 (Y.ai A.N rfl bu rfl eo) ?_;refine o.v1 (ar (A.N.drop 2) eB) ?_;refine o.V ?_;have bl:k<t.ml.length:=by omega
    obtain⟨z,ab⟩:∃q,q=t.ml[k]:=⟨_,rfl⟩;refine o.bR (Y.bL hm (k) rfl dI dO rfl rfl) fun fC bO=>?_;refine o.v1 (Y.ai bO.N rfl cC rfl bP) ?_;refine o.v1 (Y.cast (v2:=aI z.n) (ar (bO.N.drop 0) bN) (by rw[ab])) ?_;refine o.v1 (Y.ai B.N rfl cC rfl bP) ?_;refine o.v1 (ar B.N bN) ?_;refine o.v1 (Y.jz rfl rfl rfl) (o.nil (ee ?_));refine aU (fun bF=>?_) (fun bF=>?_)
    ·
     refine G.L (fun ef=>?_);refine o.ak ?_;refine ef ?_;refine G.ret (bv (ec (bL (dY (aB (bd (a5 (aS (a4 (a3 (aE ?_)))))))))));exact⟨by rw[qL (e:=18) P aM (by rw[←L];unfold gR;rw[if_neg aK,if_pos (DL (k:=k) (by omega) bl (by rw[←ab];exact bF))]) (by decide)],n⟩
    ·
     refine G.skip (ed (eb (G.region ?_)));refine o.V ?_;refine o.v1 bD ?_;refine o.ak ?_;refine aP.sub (dZ (k+1) _ ?_ ?_) ⟨rfl,rfl,(aD (by omega)),rfl,(aD (by omega)),trivial⟩
     ·exact⟨(by omega),(fun q h U=>by rcases Nat.lt_succ_iff_lt_or_eq.1 h with Z|rfl;exact a7 q Z U;rw[←ab];exact bF),V⟩
     ·first|omega|(simp only;omega)|(simp;omega)
   ·
    have fl:k=j:=by omega
    rw[fl]at a7;refine G.exit (ea (bL (dX ?_)));refine dT (G.t2 (fun c0 c1=>G.t1 (fun c3=>?_)));refine dx (fun ak=>aj b8 ak) [] ?_;have aO:=aj.refl b8;refine O.t1 0 rfl (fun ak R=>aT (F.N.M R) eC di (b4 _)) aO ?_;refine O.t1 1 rfl (fun ak R=>Y.ai (B.N.M R) rfl cC rfl bP) aO ?_;refine O.t1 2 rfl (fun ak R=>ar (B.N.M R) bN) aO ?_;refine O.t1 4 rfl (fun ak R=>Y.ai (B.N.M R) rfl cC rfl a_) aO ?_;refine O.t1 5 rfl (fun ak R=>Y.cast (v2:=bq y.J) (aT (((B.N.drop 1).M R).take 32) b_ a_ (by rw[gY];exact bB _)) (b6 (gY _))) aO ?_;refine O.aX 3 ?_;refine cf vm (uJ s y.n w0 _ C.any) (fun gb er eL=>?_);obtain⟨rfl,aZ⟩:=eL;replace B:=B.M aZ;replace n:=n.L aZ;replace E:=E.L aZ;have gd:=aZ.size;have cw:=aO.L aZ;refine O.cc cw ?_;have b3:=aj.refl er;refine O.t1 6 rfl (fun ak R=>Y.jM rfl Tryz.eqGuardType26 (fun w=>fV 9998 Tryz.underlying26 Tryz.underlying5 cN dS ((hK (bG s.ba) y.n).2) (y.J.2) w) rfl rfl) b3 ?_;refine cx ?_;have gH:=b3;refine c3 ?_;refine aU (fun bg=>?_) (fun bg=>?_)
    ·
     refine G.L (fun c4=>?_);refine o.ak ?_;refine c4 ?_;refine G.ret (c1 (bd (a5 (aS (a4 (a3 (aE ?_)))))));exact⟨by rw[qL (e:=21) P aM (by rw[←L];unfold gR;rw[if_neg aK,if_neg (s9 a7),if_pos (fun e=>bg (congrArg Subtype.val e))]) (by decide)],n⟩
    ·
     refine G.skip (c0 (G.L (fun c8=>?_)));refine o.v1 (Y.ai B.N rfl cC rfl a_) ?_;refine o.v1 (Y.cast (v2:=bq y.w) (aT ((B.N.drop 33).take 32) b_ a_ (by rw[e5];exact bB _)) (b6 (e5 _))) ?_;refine o.v1 (Y.ai B.N rfl cC rfl a_) ?_;refine o.v1 (Y.cast (v2:=bq y.J) (aT ((B.N.drop 1).take 32) b_ a_ (by rw[gY];exact bB _)) (b6 (gY _))) ?_;refine o.v1 (Y.ia rfl Tryz.eqGuardType26 (fun w=>fV 9998 Tryz.underlying26 Tryz.underlying5 cN dS (y.w.2) (y.J.2) w) rfl rfl) (o.nil (c8 ?_));refine aU (fun bE=>?_) (fun bE=>?_)
     ·
      refine G.L (fun da=>?_);refine o.ak ?_;refine da ?_;refine G.ret (bd (a5 (aS (a4 (a3 (aE ?_))))));exact⟨by rw[qL (e:=26) P aM (by rw[←L];unfold gR;rw[if_neg aK,if_neg (s9 a7),if_neg (fun e=>e (Subtype.ext (Classical.not_not.1 bg))),if_pos (Subtype.ext bE)]) (by decide)],n⟩
     ·
      refine G.skip (eK (eJ (G.region ?_)));refine o.V ?_;refine o.v1 bD ?_;refine o.ak ?_;refine aP.sub (eD (j+1) _ ?_ ?_) ⟨rfl,rfl,(aD (by omega)),trivial⟩
      ·exact⟨(by omega),(fun q h U=>by rcases Nat.lt_or_ge q j with Z|Z;exact aM q Z U;obtain rfl:q=j:=(by omega);rw[←L];unfold gR;rw[if_neg aK,if_neg (s9 a7),if_neg (fun e=>e (Subtype.ext (Classical.not_not.1 bg))),if_neg (fun e=>bE (congrArg Subtype.val e))]),E⟩
      ·first|omega|(simp only;omega)|(simp;omega)
 ·
  obtain rfl:j=t.ml.length:=by omega
  have ba:h3 (bG s.ba) [] t.ml=0:=sZ (fun i cg=>by rw[List.nil_append];exact aM i cg cg);have fp:=zz fm ba;refine G.exit (eF (aS (ez ?_)));refine ew (G.L (fun db=>?_));refine o.v1 (Y.ai F.N rfl ca rfl hb) ?_;refine o.v1 (ar (F.N.drop 1) ix) ?_;refine o.ak ?_;refine db (G.t1 (fun dc=>G.L (fun df=>?_)));refine o.ak ?_;refine df (G.aB (fun _ dg _=>?_))
  refine G.bg (fun(bI:(Nat)×(aN)×(List cA)×(Nat→Prop))=>match bI with|(i2,aJ,ul,aQ)=>[(3,.pointer (some ⟨M.size,0,none⟩)),(8,aJ.v),(9,.int .i64 (i2:Int))])
   (fun(i2,aJ,ul,aQ) (H:Heap)=>(i2≤t.ml.length)∧(∀u:Unit,Rd aQ H dB 33 aJ.v ul)∧(bh aQ H.size)∧(bG ul=(t.ml.take i2).foldl dL (bG s.ba))∧(ul.length≤200+i2)∧aj X H)
   (fun(i2,aJ,ul,aQ)=>t.ml.length-i2) (0,s.en,s.ba,fun b=>True∧b<I.size) ⟨rfl,rfl,rfl,trivial⟩ ?_ ?_
  ·
   exact⟨(by omega),(fun _=>C),(fun b e=>Nat.lt_of_lt_of_le e.2 n.size),rfl,(by omega),W.refl _ _⟩
  rintro⟨i2,aJ,ul,aQ⟩ b9 e9 gf dh dj;obtain⟨gA,hu,cz,ai,gD,al⟩:=e9;replace hm:=hm.M al;replace A:=A.M al;replace n:=n.L al;have cb:=al.size;refine G.t2 (fun dk dm=>G.L (fun dp=>?_));refine o.V ?_;refine o.v1 (Y.ai A.N rfl bu rfl eo) ?_;refine o.v1 (ar (A.N.drop 2) eB) ?_;refine o.v1 (bb hm dI) ?_;refine o.v1 bJ (o.nil (dp ?_));refine aU (fun bf=>?_) (fun bf=>?_)
  ·
   refine G.skip (dk (G.t1 (fun dq=>G.aB (fun dt _ _=>G.region ?_))));refine o.V ?_;refine o.v1 (Y.ai A.N rfl bu rfl eo) ?_;refine o.v1 (ar (A.N.drop 2) eB) ?_;refine o.V ?_;have P:i2<t.ml.length:=by omega
   obtain⟨y,L⟩:∃q,q=t.ml[i2]:=⟨_,rfl⟩;refine o.bR (Y.bL hm (i2) rfl dI dO rfl rfl) fun dW dv=>?_;refine o.v1 (Y.cast (v2:= .agg (du y).toArray) (aT dv.N iF dO (e4 _)) (by rw[L])) ?_;refine aW vz (xG _ ul y w0 _ (hu ()).any (by omega)) (fun gh gj dd=>?_);obtain⟨e_,gi,rfl,bA,gn,bQ⟩:=dd;replace al:=al.L bQ;have gp:=bQ.size;have fw:=bA.le;have ck:bG (ku y ul)=(t.ml.take (i2+1)).foldl dL (bG s.ba):=by rw[kp P,←L,←ai];exact xI y ul (by rw[ai];exact kq c7)
   refine o.ak ?_;refine dt (dq (G.region ?_));refine o.V ?_;refine o.v1 bD ?_;refine o.ak ?_;refine aP.sub (dh (i2+1,e_,ku y ul,fun b=>b+1=gi) _ ?_ ?_) ⟨rfl,rfl,(aD (by omega)),trivial⟩
   ·exact⟨(by omega),(fun _=>bA.rd),(bh.of bA.le),ck,(by rw[←kZ,ck,kp P];refine Nat.le_trans (xK _ _) ?_;rw[←ai,kZ];omega),al⟩
   ·first|omega|(simp only;omega)|(simp;omega)
  ·
   obtain rfl:i2=t.ml.length:=by omega
   rw[List.take_length]at ai;refine G.exit (dm (dj (dg ?_)));refine dc (G.t2 (fun dw dy=>G.L (fun dz=>?_)));refine o.V ?_;refine o.v1 (bb (hu ()) gK) ?_;refine o.v1 eY (o.nil (dz ?_));refine aU (fun fc=>?_) (fun fc=>?_)
   ·
    refine G.L (fun dA=>?_);refine o.ak ?_;refine dA ?_;refine G.ret (dy (aE ?_));exact⟨by rw[fx,if_neg (by rw[ba];decide),if_pos (by rw[←ai,kZ];omega)],n⟩
   ·
    have cc:¬200<(t.ml.foldl dL (bG s.ba)).length:=by rw[←ai,kZ];omega
    refine G.skip (dw (G.t2 (fun dC dD=>G.L (fun dF=>?_))));refine o.ak ?_;refine dF (G.aB (fun _ cI cJ=>?_))
    refine G.bg (fun(i3:(Nat))=>[(3,.pointer (some ⟨M.size,0,none⟩)),(8,aJ.v),(10,.int .i64 (i3:Int))])
     (fun(i3:(Nat)) (H:Heap)=>(i3≤t.ml.length)∧(∀m∈t.ml.take i3,hM (t.ml.foldl dL (bG s.ba)) m=false)∧aj b9 H)
     (fun(i3:(Nat))=>t.ml.length-i3) 0 ⟨rfl,rfl,rfl,trivial⟩ ?_ ?_
    ·
     exact⟨(by omega),(fun m h=>by simp at h),W.refl _ _⟩
    intro i3 aX fe gk bR bU;obtain⟨gB,Z,K⟩:=fe;replace hm:=hm.M K;replace A:=A.M K;replace hu:=fun u=>(hu u).M K;replace n:=n.L K;have gq:=K.size;refine G.t2 (fun cK cL=>G.L (fun cO=>?_));refine o.V ?_;refine o.v1 (Y.ai A.N rfl bu rfl eo) ?_;refine o.v1 (ar (A.N.drop 2) eB) ?_;refine o.v1 (bb hm dI) ?_;refine o.v1 bJ (o.nil (cO ?_));refine aU (fun dl=>?_) (fun dl=>?_)
    ·
     refine G.skip (cK (G.t2 (fun bV cP=>G.aB (fun cR cS cX=>G.L (fun cZ=>?_)))));refine o.v1 (Y.ai A.N rfl bu rfl eo) ?_;refine o.v1 (ar (A.N.drop 2) eB) ?_;refine o.V ?_;have P:i3<t.ml.length:=by omega
     obtain⟨y,L⟩:∃q,q=t.ml[i3]:=⟨_,rfl⟩;have a6:y∈t.ml:=by rw[L];exact List.getElem_mem P
     refine o.bR (Y.bL hm (i3) rfl dI dO rfl rfl) fun cF dH=>?_;refine o.v1 (Y.cast (v2:= .agg (du y).toArray) (aT dH.N iF dO (e4 _)) (by rw[L])) ?_;refine o.aO (cV mm) fun gl dn ff=>?_;obtain⟨rfl,Q,bk,gr,eM⟩:=ff;have fD:dn.size=aX.size+1:=by rw[eM];simp
     have eN:=(ay.new (cz.mono (by omega)):ay _ (aX.size+1));have eO:T 0 I.size (aX.size+1):=T.new n.size;have eP:T 0 b9.size (aX.size+1):=T.new K.size;replace hu:=fun u=>(hu u).M bk;replace n:=n.L bk;replace K:=K.L bk;have fJ:=bk.size;refine o.s1 (dM Q (_) (du y) (kO y) dO (e4 _) ((c9 (e4 _).symm))) fun au cD=>?_;obtain⟨Q,aL⟩:=cD;replace aL:=aL.bs;replace hu:=fun u=>(hu u).ab aL (az.J eN);replace n:=n.bo aL (ag.J (aq.q eO));replace K:=K.bo aL (ag.J (aq.q eP));have ds:=aL.size;refine o.nil (cZ (G.t2 (fun ce eQ=>G.L (fun eR=>?_))));refine o.v1 (Y.ai Q.N rfl cC rfl a_) ?_;refine o.v1 (Y.cast (v2:=bq y.J) (aT ((Q.N.drop 1).take 32) b_ a_ (by rw[gY];exact bB _)) (b6 (gY _))) ?_;refine o.v1 (Y.build (v:=bq bz) rfl rfl (by intro w;kernel_rfl)) ?_;refine o.v1 (Y.cast (v2:= .bool (decide (¬y.J=bz))) (Y.jM rfl Tryz.eqGuardType26 (fun w=>fV 9998 Tryz.underlying26 Tryz.underlying5 cN dS (y.J.2) (bz.2) w) rfl rfl) ((congrArg Value.bool (decide_eq_decide.2 ⟨fun h e=>h (congrArg Subtype.val e),fun h e=>h (Subtype.ext e)⟩)))) ?_;refine o.V ?_;refine o.join (d:=96) (v:= .bool (decide (¬(y.J=bz∧y.w≠bz)))) 5 (fun bK=>?_) ?_
     ·
      refine o.bj (d:=91) rfl (fun aY=>?_) (fun aY=>?_)
      ·
       refine o.ax 5 ?_;exact bK _ (congrArg (fun b=>some (Value.bool b)) (by simp[aY])) (ae (ae (ae (ae (ae (bC (congrArg Value.bool (decide_eq_true aY).symm)))))))
      ·
       refine o.ao (Y.ai Q.N rfl cC rfl a_) ?_;refine o.ao (Y.cast (v2:=bq y.w) (aT ((Q.N.drop 33).take 32) b_ a_ (by rw[e5];exact bB _)) (b6 (e5 _))) ?_;refine o.ao (Y.build (v:=bq bz) rfl rfl (by intro w;kernel_rfl)) ?_;refine o.ao (Y.cast (v2:= .bool (decide (y.w=bz))) (Y.ia rfl Tryz.eqGuardType26 (fun w=>fV 9998 Tryz.underlying26 Tryz.underlying5 cN dS (y.w.2) (bz.2) w) rfl rfl) ((congrArg Value.bool (decide_eq_decide.2 ⟨fun e=>Subtype.ext e,fun e=>congrArg Subtype.val e⟩)))) ?_;refine o.dF ?_;exact bK _ (congrArg (fun b=>some (Value.bool b)) (by simp[aY])) (ae (ae (ae (ae (ae (bC (congrArg Value.bool (decide_eq_false aY).symm)))))))
     refine o.nil (eR ?_);refine aU (fun dU=>?_) (fun dU=>?_)
     ·
      have bn:=dU;refine G.exit (eQ (cS ?_));refine bV (G.region ?_);refine o.V ?_;refine o.v1 bD ?_;refine o.ak ?_;refine aP.sub (bR (i3+1) _ ?_ ?_) ⟨rfl,rfl,(aD (by omega)),trivial⟩
      ·exact⟨(by omega),mD Z P (by rw[←L];unfold hM;rw[decide_eq_false bn];rfl),K⟩
      ·first|omega|(simp only;omega)|(simp;omega)
     ·
      have bn:y.J=bz∧¬y.w=bz:=Classical.not_not.1 dU;refine G.skip (ce (G.L (fun ci=>?_)));refine o.ak ?_;refine ci (G.t1 (fun eS=>G.L (fun eT=>?_)));refine o.ak ?_;refine eT (G.aB (fun _ eW _=>?_))
      refine G.bg (fun(bI:(Nat)×(aN)×(Nat)×(List aH))=>match bI with|(k,so,aF,out)=>[(3,.pointer (some ⟨M.size,0,none⟩)),(8,aJ.v),(10,.int .i64 (i3:Int)),(11,.pointer (some ⟨aX.size,0,none⟩)),(12,so.v),(13,.int .i64 (k:Int))])
       (fun(k,so,aF,out) (H:Heap)=>(k≤ul.length)∧(aV aF 9 H gg 1 so.v out)∧(out=((ul.take k).map (·.n)).filter (fun x=>decide (x≠y.n)))∧(out.length≤k)∧(T 0 au.size aF)∧aj au H)
       (fun(k,so,aF,out)=>ul.length-k) (0,cM,0,[]) ⟨rfl,rfl,rfl,rfl,rfl,rfl,trivial⟩ ?_ ?_
      ·
       exact⟨(by omega),aV.nil mM nD,rfl,(by simp),T.refl _ _,W.refl _ _⟩
      rintro⟨k,so,aF,out⟩ fg fh gm bX eX;obtain⟨fk,S,a8,gG,cH,N⟩:=fh;replace hu:=fun u=>(hu u).M N;replace Q:=Q.M N;replace n:=n.L N;replace K:=K.L N;have gu:=N.size;have ct:=S.le;have bo:=cH;refine G.t2 (fun eZ co=>G.L (fun e0=>?_));refine o.ax 2 ?_;refine o.v1 (bb (hu ()) gK) ?_;refine o.v1 bJ (o.nil (e0 ?_));refine aU (fun e1=>?_) (fun e1=>?_)
      ·
       refine G.skip (eZ (G.t1 (fun bY=>G.aB (fun bZ _ _=>G.t1 (fun e2=>?_)))));refine hf ?_;refine o.ax 2 ?_;have bl:k<ul.length:=by omega
       obtain⟨z,ab⟩:∃q,q=ul[k]:=⟨_,rfl⟩;refine o.bR (Y.bL (hu ()) (k) rfl gK hP rfl rfl) fun fE b5=>?_;refine o.v1 (Y.ai b5.N rfl mg rfl bP) ?_;refine o.v1 (Y.cast (v2:=aI z.n) (ar (b5.N.drop 0) bN) (by rw[ab])) ?_;refine o.v1 (Y.ai Q.N rfl cC rfl bP) ?_;refine o.v1 (ar Q.N bN) ?_;refine o.v1 (Y.iT rfl rfl rfl) (o.nil (e2 ?_));refine aU (fun bp=>?_) (fun bp=>?_)
       ·
        refine G.region ?_;refine o.ax 3 ?_;refine o.bR (Y.bL (hu ()) (k) rfl gK hP rfl rfl) fun fF b7=>?_;refine o.v1 (Y.ai b7.N rfl mg rfl bP) ?_;refine o.v1 (Y.cast (v2:=aI z.n) (ar (b7.N.drop 0) bN) (by rw[ab])) ?_;refine o.aO (cT _ ([z.n]) oR mM nD (rfl)) fun gv b0 cs=>?_;obtain⟨fr,am,fG,a0⟩:=cs;have fL:b0.size=fg.size+1:=by rw[a0];simp
        replace S:=S.M am;replace N:=N.L am;have gx:=am.size;refine o.aO (dQ S fr.rd oR (by simp;omega) (by simp;omega)) fun b2 gy bm=>?_;obtain⟨bs,S,bw,bj⟩:=bm;replace bw:T aF b0.size bs:=bw;replace bj:=bj.md;have dr:T 0 au.size bs:=T.L (bo) bw N.size;replace N:=N.bo bj (ag.J (aq.q bo));have gz:=bj.size;have ct:=S.le;obtain⟨e3,rfl⟩:∃s:aN,b2=s.v:=⟨cl b2,S.bl.symm⟩;refine o.ak ?_;refine bZ (bY (G.region ?_));refine o.V ?_;refine o.v1 bD ?_;refine o.ak ?_;refine aP.sub (bX (k+1,e3,bs,out++[z.n]) _ ?_ ?_) ⟨rfl,rfl,(aD (by omega)),rfl,rfl,(aD (by omega)),trivial⟩
        ·exact⟨(by omega),S,by rw[List.take_succ_eq_append_getElem bl,List.map_append,List.filter_append,←a8];simp[←ab,bp],(by simp;omega),dr,N⟩
        ·first|omega|(simp only;omega)|(simp;omega)
       ·
        refine G.skip (bZ (bY (G.region ?_)));refine o.V ?_;refine o.v1 bD ?_;refine o.ak ?_;refine aP.sub (bX (k+1,so,aF,out) _ ?_ ?_) ⟨rfl,rfl,(aD (by omega)),rfl,rfl,(aD (by omega)),trivial⟩
        ·exact⟨(by omega),S,by rw[List.take_succ_eq_append_getElem bl,List.map_append,List.filter_append,←a8];simp[←ab,Classical.not_not.1 bp],(by omega),bo,N⟩
        ·first|omega|(simp only;omega)|(simp;omega)
      ·
       obtain rfl:k=ul.length:=by omega
       rw[List.take_length]at a8;have fq:=nU ba y a6;have cd:iH y.n out=if hM (t.ml.foldl dL (bG s.ba)) y=true then 13 else 0:=by rw[a8,←ai];exact Dn fq bn.1 bn.2
       have fo:∀x∈out,x.length≤140737488355328:=fun x cm=>by
        rw[a8]at cm;obtain⟨z9,cb,fi⟩:=List.mem_map.1 (List.mem_filter.1 cm).1;have fj:=fp (z9.n,z9.i) (by rw[←ai];exact List.mem_map.2 ⟨z9,cb,rfl⟩);rw[←fi];simp only at fj;omega
       refine G.exit (co (eX (eW ?_)));refine eS (G.L (fun e6=>?_));refine o.v1 (Y.ai Q.N rfl cC rfl bP) ?_;refine o.v1 (ar Q.N bN) ?_;refine o.V ?_;refine aW A2 (Gu y.n _ out w0 _ S.rd.any (cj y a6) fo) (fun fM fN e7=>?_);obtain⟨rfl,ap⟩:=e7;replace n:=n.L ap;replace K:=K.L ap;have fO:=ap.size;refine o.v1 cU (o.nil (e6 ?_));refine aU (fun bt=>?_) (fun bt=>?_)
       ·
        refine G.L (fun e8=>?_);refine o.ak ?_;refine e8 ?_;refine G.ret (cX (cP (bU (cJ (dD (aE ?_))))));exact⟨by have a1:hM (t.ml.foldl dL (bG s.ba)) y=true:=(by cases a1:hM (t.ml.foldl dL (bG s.ba)) y with|true=>rfl|false=>exact absurd (by rw[cd,a1];rfl) bt);rw[fx,if_neg (by rw[ba];decide),if_neg cc,wH a6 a1],n⟩
       ·
        refine G.skip (cR (bV (G.region ?_)));refine o.V ?_;refine o.v1 bD ?_;refine o.ak ?_;refine aP.sub (bR (i3+1) _ ?_ ?_) ⟨rfl,rfl,(aD (by omega)),trivial⟩
        ·exact⟨(by omega),mD Z P (by rw[←L];cases a1:hM (t.ml.foldl dL (bG s.ba)) y with|false=>rfl|true=>exact absurd (by rw[cd,a1];decide) bt),K⟩
        ·first|omega|(simp only;omega)|(simp;omega)
    ·
     refine G.exit (cL (bU (cI ?_)));refine dC (G.L (fun ep=>?_));refine o.ak ?_;refine ep ?_;refine G.ret (aE ?_);exact⟨by obtain rfl:i3=t.ml.length:=(by omega);rw[List.take_length]at Z;rw[fx,if_neg (by rw[ba];decide),if_neg cc,wI Z],n⟩
end pF

namespace pG
open E Go.RowKit eM eP e1 e7 ev eQ eR fC fD fI fS ga gz gq hG lK mq ng oh ke mr ni pF dz
section
variable {s : eA} {t : b1}
theorem Cr(h:eF t=1):eI s t=1:=by unfold eI;rw[if_pos (by rw[h];decide),h]
theorem Cs(i:eF t=0)(h:fw t≠0):eI s t=7:=by
 have e:fw t=7:=by
  unfold fw at h⊢;split
  ·rename_i d
   rw[if_pos d]at h;rcases p5 t.an with e|e
   ·exact absurd e h
   ·exact e
  ·rename_i d;rw[if_neg d]at h;exact absurd rfl h
 unfold eI;rw[if_neg (by rw[i];decide),if_pos h,e]
theorem Ct(d:eF t=0)(i:fw t=0)(h:fx s.b8 t.ml≠0):eI s t=fx s.b8 t.ml:=by unfold eI;rw[if_neg (by rw[d];decide),if_neg (by rw[i];decide),if_pos h]
theorem Cu(d:eF t=0)(i:fw t=0)(U:fx s.b8 t.ml=0)(h:gl t≠0):eI s t=gl t:=by unfold eI;rw[if_neg (by rw[d];decide),if_neg (by rw[i];decide),if_neg (by rw[U];decide),if_pos h]
theorem p3(d:eF t=0)(i:fw t=0)(U:fx s.b8 t.ml=0)(j:gl t=0):eI s t=ig s.gD t.el:=by unfold eI;rw[if_neg (by rw[d];decide),if_neg (by rw[i];decide),if_neg (by rw[U];decide),if_neg (by rw[j];decide)]
end
theorem xp{el:List bA}(h:ie el=0):∀x∈el,¬x.k=bz∧x.d.length≤65536:=fun x i=>by
 have d:=o0 h x i;unfold gE at d;split at d
 ·cases d
 ·rename_i U
  split at d
  ·cases d
  ·exact⟨U,by omega⟩
theorem p_(l:List bA):(cn l).length=l.length:=List.length_map ..
theorem xr{l:jH}{el:List bA}{i:Nat}{e:Int}(k:i<el.length)(j:∀x∈el.take i,gE x=0)(he:gE el[i]=e)(aA:e≠0):ig l el=e:=by
 have d:=sN k j (by rw[he];exact aA);rw[ig,if_pos (by rw[d,he];exact aA),d,he]
set_option maxHeartbeats 1600000 in
theorem tp(s:cW)(t:b1)(F aR:Nat→Prop)(w0:World)(I:Heap)
 (al:eS F I s) (bj:bh F I.size) (n:e2 aR I t) (cv:bh aR I.size) (ok:s.m.Ok) (K:lh t):
 aC Tryz.prog w0 20 #[eg s,dG t] I (fun r B=>r= .int .i64 (eI s.m t)∧aj I B):=by
 refine aC.aK [eg s,dG t] Tryz.func20 ?_;intro cT C;have k:aj I I:=W.refl _ _;have dW:=n.m.len;have dQ:=n.e.len;have aO:=K.an;have z2:=K.br;have cP:s.ba.length≤200:=by have:=ok.g_;rwa[show s.m.b8=bG s.ba from rfl,kZ]at this
 have dX:s.el.length≤500:=by have:=ok.iN;rwa[show s.m.gD=cn s.el from rfl,p_]at this
 refine G.L (fun cC=>?_);refine o.aO cq ?_;rintro v2 B ⟨rfl,A,af,dx,cD⟩;have dH:B.size=I.size+1:=by rw[cD];simp
 replace al:=al.M af;replace n:=n.M af;replace k:=k.L af;have dy:=af.size;replace A:Var 47 B I.size (bS s):=A;refine o.aO cq ?_;rintro v3 Q ⟨rfl,j,ap,dz,cG⟩;have dJ:Q.size=B.size+1:=by rw[cG];simp
 replace al:=al.M ap;replace n:=n.M ap;replace A:=A.M ap;replace k:=k.L ap;have dC:=ap.size;replace j:Var 32 Q B.size (c_ t):=j;refine o.ak ?_;refine cC (G.t2 (fun bv cH=>G.L (fun cI=>?_)));refine o.v1 (Y.ai j.N rfl bu rfl cX) ?_;refine o.v1 (ar j.N dA) ?_;refine o.v1 eL ?_;refine o.V ?_;refine o.join (d:=16) (v:= .bool (decide (t.bE=false∧t.al=false))) 4 (fun aN=>?_) ?_
 ·
  refine o.split (d:=12) rfl (fun aE=>?_) (fun aE=>?_)
  ·
   refine o.ao (Y.ai j.N rfl bu rfl cX) ?_;refine o.ao (ar (j.N.drop 3) dA) ?_;refine o.ao eL ?_;refine o.N ?_;exact aN _ (congrArg (fun b=>some (Value.bool b)) (by cases aL:t.bE<;>cases U:t.al<;>simp_all)) (ae (ae (ae (ae (bC (congrArg Value.bool aE.symm))))))
  ·
   refine o.ax 4 ?_;exact aN _ (congrArg (fun b=>some (Value.bool b)) (by cases aL:t.bE<;>simp_all)) (ae (ae (ae (ae (bC (congrArg Value.bool aE.symm))))))
 refine o.V ?_;refine o.join (d:=22) (v:= .bool (decide ((t.bE=false∧t.al=false)∧(t.ml.length:Int)=0))) 5 (fun aQ=>?_) ?_
 ·
  refine o.bj (d:=17) rfl (fun R=>?_) (fun R=>?_)
  ·
   refine o.ao (Y.ai j.N rfl bu rfl eo) ?_;refine o.ao (ar (j.N.drop 2) eB) ?_;refine o.ao (bb n.m dI) ?_;refine o.ao b9 ?_;refine o.N ?_;exact aQ _ (congrArg (fun b=>some (Value.bool b)) (decide_eq_decide.2 ⟨fun h=>⟨R,h⟩,fun h=>h.2⟩)) (ae (ae (ae (ae (ae (bC (congrArg Value.bool (decide_eq_true R).symm)))))))
  ·
   refine o.ax 5 ?_;exact aQ _ (congrArg (fun b=>some (Value.bool b)) ((decide_eq_false (fun h=>R h.1)).symm)) (ae (ae (ae (ae (ae (bC (congrArg Value.bool (decide_eq_false R).symm)))))))
 refine o.V ?_;refine o.join (d:=28) (v:= .bool (decide (((t.bE=false∧t.al=false)∧(t.ml.length:Int)=0)∧(t.el.length:Int)=0))) 5 (fun aS=>?_) ?_
 ·
  refine o.bj (d:=23) rfl (fun S=>?_) (fun S=>?_)
  ·
   refine o.ao (Y.ai j.N rfl bu rfl dv) ?_;refine o.ao (ar j.N.fX dV) ?_;refine o.ao (bb n.e cu) ?_;refine o.ao b9 ?_;refine o.N ?_;exact aS _ (congrArg (fun b=>some (Value.bool b)) (decide_eq_decide.2 ⟨fun h=>⟨S,h⟩,fun h=>h.2⟩)) (ae (ae (ae (ae (ae (bC (congrArg Value.bool (decide_eq_true S).symm)))))))
  ·
   refine o.ax 5 ?_;exact aS _ (congrArg (fun b=>some (Value.bool b)) ((decide_eq_false (fun h=>S h.1)).symm)) (ae (ae (ae (ae (ae (bC (congrArg Value.bool (decide_eq_false S).symm)))))))
 refine o.nil (cI ?_);refine aU (fun ag=>?_) (fun ag=>?_)
 ·
  refine G.L (fun cJ=>?_);refine o.ak ?_;refine cJ ?_;refine G.ret (cH (C ?_));exact⟨(congrArg (Value.int .i64) (Cr (by unfold eF;rw[if_pos ⟨ag.1.1.1,ag.1.1.2,List.eq_nil_of_length_eq_zero (by omega),List.eq_nil_of_length_eq_zero (by omega)⟩]))).symm,k⟩
 ·
  have E:eF t=0:=by
   unfold eF;rw[if_neg];rintro⟨aL,U,cK,cL⟩;exact ag ⟨⟨⟨aL,U⟩,by rw[cK];rfl⟩,by rw[cL];rfl⟩
  refine G.skip (bv ?_)
  refine G.bm (fun(_:Unit)=>[(2,.pointer (some ⟨I.size,0,none⟩)),(3,.pointer (some ⟨B.size,0,none⟩))])
   (fun(_:Unit) (H:Heap)=>(fw t=0)∧aj Q H) (fun _ bk bV=>?_) ?_
  ·
   have aq:aj Q Q:=W.refl _ _;refine G.L (fun bl=>?_);refine o.v1 (Y.ai j.N rfl bu rfl cX) ?_;refine o.v1 (ar j.N dA) ?_;refine o.V ?_;refine o.join (d:=35) (v:= .bool (decide (t.bE=true∧¬t.an=[]))) 4 (fun aX=>?_) ?_
   ·
    refine o.split (d:=31) rfl (fun T=>?_) (fun T=>?_)
    ·
     refine o.ao (Y.ai j.N rfl bu rfl bP) ?_;refine o.ao (ar (j.N.drop 1) bN) ?_;refine o.ao (Y.iT rfl rfl rfl) ?_;refine o.N ?_;exact aX _ (congrArg (fun b=>some (Value.bool b)) (by simp[T])) (ae (ae (ae (ae (bC (congrArg Value.bool T.symm))))))
    ·
     refine o.ax 4 ?_;exact aX _ (congrArg (fun b=>some (Value.bool b)) (by simp[T])) (ae (ae (ae (ae (bC (congrArg Value.bool T.symm))))))
   refine o.V ?_;refine o.bj (d:=36) rfl (fun ah=>?_) (fun ah=>?_)
   ·
    refine o.ao (Y.ai j.N rfl bu rfl bP) ?_;refine o.ao (ar (j.N.drop 1) bN) ?_;refine o.call rfl pZ rfl bd rfl rfl (qV t.an w0 _ (by omega)) (fun dD dE bX=>?_);obtain⟨rfl,au⟩:=bX;replace k:=k.L au;replace aq:=aq.L au;have c3:=au.size;refine o.ao cU ?_;refine o.N ?_;refine o.nil (bl ?_);refine aU (fun aF=>?_) (fun aF=>?_)
    ·
     refine G.L (fun bZ=>?_);refine o.ak ?_;refine bZ ?_;refine G.ret (bV (C ?_));exact⟨(congrArg (Value.int .i64) (Cs E (by unfold fw;rw[if_pos ah];exact aF))).symm,k⟩
    ·
     refine G.skip ?_;refine aP.sub (bk () _ ?_) ⟨rfl,rfl,trivial⟩;exact⟨by unfold fw;rw[if_pos ah];exact Classical.not_not.1 aF,aq⟩
   ·
    refine o.ax 5 ?_;refine o.nil (bl ?_);refine dw ?_;refine G.skip ?_;refine aP.sub (bk () _ ?_) ⟨rfl,rfl,trivial⟩;exact⟨by unfold fw;rw[if_neg ah],aq⟩
  ·
   intro _ cZ bQ;obtain⟨P,L⟩:=bQ;replace al:=al.M L;replace n:=n.M L;replace A:=A.M L;replace j:=j.M L;replace k:=k.L L;have c4:=L.size;refine G.L (fun b2=>?_);refine o.v1 (aT A.N eC di (b4 _)) ?_;refine o.v1 (aT j.N fj ef (dg _)) ?_;refine aW BQ (Gy s t w0 _ al.r.any ok.fa cP ok.ba n.m.any K.ml K.iN) (fun c8 aH b3=>?_);obtain⟨rfl,N⟩:=b3;replace al:=al.M N;replace n:=n.M N;replace A:=A.M N;replace j:=j.M N;replace k:=k.L N;have c9:=N.size;refine o.ak ?_;refine b2 (G.t2 (fun b5 b7=>G.L (fun bx=>?_)));refine o.V ?_;refine o.v1 cU (o.nil (bx ?_));refine aU (fun aI=>?_) (fun aI=>?_)
   ·
    refine G.L (fun bA=>?_);refine o.aQ 2 ?_;refine bA ?_;refine G.ret (b7 (C ?_));exact⟨(congrArg (Value.int .i64) (Ct (s:=s.m) E P aI)).symm,k⟩
   ·
    have aa:fx (bG s.ba) t.ml=0:=Classical.not_not.1 aI;refine G.skip (b5 ?_)
    refine G.bm (fun(_:Unit)=>[(2,.pointer (some ⟨I.size,0,none⟩)),(3,.pointer (some ⟨B.size,0,none⟩))])
     (fun(_:Unit) (H:Heap)=>(gl t=0)∧aj aH H) (fun _ bc bE=>?_) ?_
    ·
     have ak:aj aH aH:=W.refl _ _;refine G.L (fun bF=>?_);refine o.v1 (Y.ai j.N rfl bu rfl cX) ?_;refine o.v1 (ar (j.N.drop 3) dA) ?_;refine o.V ?_;refine o.join (d:=55) (v:= .bool (decide (t.al=true∧¬t.q.k=0))) 5 (fun aY=>?_) ?_
     ·
      refine o.split (d:=50) rfl (fun V=>?_) (fun V=>?_)
      ·
       refine o.ao (Y.ai j.N rfl bu rfl cS) ?_;refine o.ao (Y.ai (j.N.drop 4) rfl bt rfl b0) ?_;refine o.ao (ar j.N.n4 cj) ?_;refine o.ao cU ?_;refine o.N ?_;exact aY _ (congrArg (fun b=>some (Value.bool b)) (by simp[V])) (ae (ae (ae (ae (ae (bC (congrArg Value.bool V.symm)))))))
      ·
       refine o.ax 5 ?_;exact aY _ (congrArg (fun b=>some (Value.bool b)) (by simp[V])) (ae (ae (ae (ae (ae (bC (congrArg Value.bool V.symm)))))))
     refine o.nil (bF ?_);refine aU (fun X=>?_) (fun X=>?_)
     ·
      refine G.L (fun bI=>?_);refine o.v1 (Y.ai j.N rfl bu rfl cS) ?_;refine o.v1 (Y.cast (v2:=er t.q) (aT ((j.N.drop 4).take 70) h9 cS (by rw[jc];exact ee _)) (b6 (jc t))) ?_;refine aW BR (CX t.q w0 _ n.q.any (by omega)) (fun da de b8=>?_);obtain⟨rfl,am⟩:=b8;replace k:=k.L am;replace ak:=ak.L am;have df:=am.size;refine o.ak ?_;refine bI (G.L (fun bK=>?_));refine o.V ?_;refine o.v1 cU (o.nil (bK ?_));refine aU (fun aJ=>?_) (fun aJ=>?_)
      ·
       refine G.L (fun bL=>?_);refine o.aQ 2 ?_;refine bL ?_;refine G.ret (bE (C ?_));exact⟨(congrArg (Value.int .i64) ((Cu (s:=s.m) E P aa (by unfold gl;rw[if_pos X];exact aJ)).trans (by unfold gl;rw[if_pos X]))).symm,k⟩
      ·
       refine G.skip ?_;refine aP.sub (bc () _ ?_) ⟨rfl,rfl,trivial⟩;exact⟨by unfold gl;rw[if_pos X];exact Classical.not_not.1 aJ,ak⟩
     ·
      refine G.skip ?_;refine aP.sub (bc () _ ?_) ⟨rfl,rfl,trivial⟩;exact⟨by unfold gl;rw[if_neg X],ak⟩
    ·
     intro _ bU bR;obtain⟨aA,M⟩:=bR;replace al:=al.M M;replace n:=n.M M;replace A:=A.M M;replace j:=j.M M;replace k:=k.L M;have dh:=M.size;refine G.t2 (fun a0 bf=>G.L (fun a2=>?_));refine o.ak ?_;refine a2 (G.aB (fun _ a3 bg=>?_))
     refine G.bg (fun(i:(Nat))=>[(2,.pointer (some ⟨I.size,0,none⟩)),(3,.pointer (some ⟨B.size,0,none⟩)),(6,.int .i64 (i:Int))])
      (fun(i:(Nat)) (H:Heap)=>(i≤t.el.length)∧(∀x∈t.el.take i,gE x=0)∧aj bU H)
      (fun(i:(Nat))=>t.el.length-i) 0 ⟨rfl,rfl,rfl,trivial⟩ ?_ ?_
     ·
      exact⟨(by omega),(fun x h=>by simp at h),W.refl _ _⟩
     intro i dj cb dk a4 aK;obtain⟨dR,Z,ac⟩:=cb;replace al:=al.M ac;replace n:=n.M ac;replace A:=A.M ac;replace j:=j.M ac;replace k:=k.L ac;have dF:=ac.size;refine G.t2 (fun a5 bp=>G.L (fun bs=>?_));refine o.V ?_;refine o.v1 (Y.ai j.N rfl bu rfl dv) ?_;refine o.v1 (ar j.N.fX dV) ?_;refine o.v1 (bb n.e cu) ?_;refine o.v1 bJ (o.nil (bs ?_));refine aU (fun cc=>?_) (fun cc=>?_)
     ·
      refine G.skip (a5 (G.t2 (fun bw aZ=>G.aB (fun a9 _ a1=>G.t2 (fun bO cm=>G.L (fun cr=>?_))))));refine o.v1 (Y.ai j.N rfl bu rfl dv) ?_;refine o.v1 (ar j.N.fX dV) ?_;refine o.V ?_;have az:i<t.el.length:=by omega
      obtain⟨y,O⟩:∃q,q=t.el[i]:=⟨_,rfl⟩;have cM:y∈t.el:=by rw[O];exact List.getElem_mem az
      refine o.bR (Y.bL n.e (i) rfl cu ck rfl rfl) fun dm a6=>?_;refine o.v1 (Y.ai a6.N rfl eX rfl a_) ?_;refine o.v1 (Y.cast (v2:=bq y.k) (aT ((a6.N.drop 0).take 32) b_ a_ (by rw[eN];exact bB _)) ((by rw[O];exact b6 (eN _)))) ?_;refine o.v1 (Y.build (v:=bq bz) rfl rfl (by intro w;kernel_rfl)) ?_;refine o.v1 (Y.cast (v2:= .bool (decide (y.k=bz))) (Y.ia rfl Tryz.eqGuardType26 (fun w=>fV 9998 Tryz.underlying26 Tryz.underlying5 cN dS (y.k.2) (bz.2) w) rfl rfl) ((congrArg Value.bool (decide_eq_decide.2 ⟨fun e=>Subtype.ext e,fun e=>congrArg Subtype.val e⟩)))) (o.nil (cr ?_));refine aU (fun ai=>?_) (fun ai=>?_)
      ·
       refine G.L (fun ct=>?_);refine o.ak ?_;refine ct ?_;refine G.ret (cm (a1 (aZ (aK (bg (bf (C ?_)))))));exact⟨(congrArg (Value.int .i64) ((p3 (s:=s.m) E P aa aA).trans (xr az Z (by rw[←O];unfold gE;rw[if_pos ai]) (by decide)))).symm,k⟩
      ·
       refine G.skip (bO (G.L (fun bT=>?_)));refine o.v1 (Y.ai j.N rfl bu rfl dv) ?_;refine o.v1 (ar j.N.fX dV) ?_;refine o.V ?_;refine o.bR (Y.bL n.e (i) rfl cu ck rfl rfl) fun dp a7=>?_;refine o.v1 (Y.ai a7.N rfl eX rfl db) ?_;refine o.v1 (Y.cast (v2:=y.v.v) (ar (a7.N.ji) eD) (by rw[O])) ?_;refine o.v1 (bb (n.d y cM) dc) ?_;refine o.v1 eY (o.nil (bT ?_));refine aU (fun cd=>?_) (fun cd=>?_)
       ·
        refine G.L (fun be=>?_);refine o.ak ?_;refine be ?_;refine G.ret (a1 (aZ (aK (bg (bf (C ?_))))));exact⟨(congrArg (Value.int .i64) ((p3 (s:=s.m) E P aa aA).trans (xr az Z (by rw[←O];unfold gE;rw[if_neg ai,if_pos (by omega)]) (by decide)))).symm,k⟩
       ·
        refine G.skip (a9 (bw (G.region ?_)));refine o.V ?_;refine o.v1 bD ?_;refine o.ak ?_;refine aP.sub (a4 (i+1) _ ?_ ?_) ⟨rfl,rfl,(aD (by omega)),trivial⟩
        ·exact⟨(by omega),mD Z az (by rw[←O];unfold gE;rw[if_neg ai,if_neg (by omega)]),ac⟩
        ·first|omega|(simp only;omega)|(simp;omega)
     ·
      obtain rfl:i=t.el.length:=by omega
      rw[List.take_length]at Z;have aM:ie t.el=0:=sO Z;have bo:=xp aM;refine G.exit (bp (aK (a3 ?_)));refine a0 (G.t2 (fun bY cw=>G.L (fun cx=>?_)));refine o.v1 (Y.ai A.N rfl ca rfl dv) ?_;refine o.v1 (ar A.N.hQ dV) ?_;refine o.v1 (Y.ai j.N rfl bu rfl dv) ?_;refine o.v1 (ar j.N.fX dV) ?_;refine aW vu (yx _ _ s.el t.el F w0 _ al.e (bj.mono k.size) n.e.any al.d (bj.mono k.size) (fun y hy=>(n.d y hy).any) (by omega) (by have:=K.el;omega) (fun x ab=>by have:=(bo x ab).2;omega) (fun x ab=>(bo x ab).1)) (fun dK dL cf=>?_);obtain⟨dM,dY,dN,rfl,cR,c0,dq,c1,dr,bn,ay⟩:=cf;replace n:=n.M ay;replace j:=j.M ay;replace k:=k.L ay;have ce:=ay.size;refine o.v1 (bb (cR ()) cu) ?_;refine o.v1 eY (o.nil (cx ?_));refine aU (fun cg=>?_) (fun cg=>?_)
      ·
       refine G.L (fun bi=>?_);refine o.ak ?_;refine bi ?_;refine G.ret (cw (C ?_));exact⟨(congrArg (Value.int .i64) ((p3 (s:=s.m) E P aa aA).trans (by rw[ig,if_neg (by rw[aM];decide),if_pos (by rw[show s.m.gD=cn s.el from rfl,←bn,p_];omega)]))).symm,k⟩
      ·
       have bm:eI s.m t=0:=(p3 (s:=s.m) E P aa aA).trans (by rw[ig,if_neg (by rw[aM];decide),if_neg (by rw[show s.m.gD=cn s.el from rfl,←bn,p_];omega)]);have ab:=si K bm;have dT:=K.l3;refine G.skip (bY (G.L (fun cy=>?_)));refine o.v1 (aT j.N fj ef (dg _)) ?_;refine aW BS (C5 t aR w0 _ n (cv.mono k.size) ab ⟨aO,z2⟩) (fun dO dP cl=>?_);obtain⟨dU,ci,rfl,a8,dt,ba⟩:=cl;replace k:=k.L ba;have du:=ba.size;have cV:=a8.le;refine o.V ?_;refine o.v1 cO ?_;refine o.v1 cO ?_;refine o.aQ 2 ?_;refine cy (G.t1 (fun aB=>G.L (fun cz=>?_)));refine o.V ?_;refine o.v1 ((cU).fm (by simp)) ?_;refine o.ax 2 ?_;refine o.ao (bb a8.rd dc) ?_;refine o.ao ((eY).fm (by omega)) ?_;refine o.dF ?_;refine o.nil (cz ?_);refine dw ?_;refine G.skip (aB (G.L (fun cA=>?_)));refine o.ak ?_;refine cA ?_;refine G.ret (C ?_);exact⟨by rw[bm],k⟩
end pG

namespace rD
open E Go.RowKit eM eP e1 e7 ev eQ eR fC fD fI fS ga gz gq hG lK mq ng oh ke mr ni pF pG dz
set_option maxRecDepth 100000 in
theorem l0:c4 Tryz.prog 27 129 33 40:=⟨Tryz.underlying27,_,_,rfl,rfl,rfl,rfl,rfl⟩
theorem ay.jy{F aR:Nat→Prop}{k h:Nat}(x:∀b,aR b→F b∨h≤b)(d:ay F k)(i:k≤h):ay aR k:=fun b e U=>(x b e).elim (fun e=>d b e U) (fun e=>by omega)
theorem xh(l:List e8):(cp l).length=l.length:=List.length_map ..
set_option maxHeartbeats 1600000 in
theorem yl(s:cW)(t:b1)(F b_:Nat→Prop)(w0:World)(I:Heap)
 (al:eS F I s) (aJ:bh F I.size) (n:e2 b_ I t) (dJ:bh b_ I.size) (ok:s.m.Ok) (av:eI s.m t=0) (b3:lh t):
 aC Tryz.prog w0 25 #[eg s,dG t] I (fun r V=>∃b8:cW,∃bF:Nat→Prop,r=eg b8∧(∀u:Unit,eS bF V b8)∧(bh bF V.size)∧(∀b,bF b→F b∨I.size≤b)∧(b8.m=s.m.ap t)∧aj I V):=by
 refine aC.enter (args:=[eg s,dG t]) Tryz.func25 rfl rfl rfl ?_;intro eX eO;have k:aj I I:=W.refl _ _;have ef:=p2 av;have gi:=b3.a6;have gj:=b3.ml;have gk:=b3.el;have cC:=xp ef.gD;have gg:s.ba.length≤200:=by have:=ok.g_;rwa[show s.m.b8=bG s.ba from rfl,kZ]at this
 have gh:s.el.length≤500:=by have:=ok.iN;rwa[show s.m.gD=cn s.el from rfl,p_]at this
 have gb:s.bW.length≤200:=by have bC:=congrArg List.length ok.cL;rw[List.length_map,List.length_map,show s.m.b8=bG s.ba from rfl,show s.m.dK=cp s.bW from rfl,kZ,xh]at bC;omega
 refine G.L (fun c1=>?_);refine o.aO cq ?_;rintro v2 V ⟨rfl,aZ,bz,fI,c3⟩;have e7:V.size=I.size+1:=by rw[c3];simp
 replace al:=al.M bz;replace n:=n.M bz;replace k:=k.L bz;have fJ:=bz.size;replace aZ:Var 47 V I.size (bS s):=aZ;refine o.aO cq ?_;rintro v3 E ⟨rfl,j,a3,fK,dH⟩;have fT:E.size=V.size+1:=by rw[dH];simp
 replace al:=al.M a3;replace n:=n.M a3;replace aZ:=aZ.M a3;replace k:=k.L a3;have fL:=a3.size;replace j:Var 32 E V.size (c_ t):=j;refine o.aO (cV kC) ?_;rintro v4 A ⟨rfl,B,a0,fM,ed⟩;have fU:A.size=E.size+1:=by rw[ed];simp
 have b2:=(ay.new (aJ.mono k.size):ay _ (E.size+1));have dK:T 0 I.size (E.size+1):=T.new k.size;replace al:=al.M a0;replace n:=n.M a0;replace aZ:=aZ.M a0;replace j:=j.M a0;replace k:=k.L a0;have fN:=a0.size;refine o.nil (c1 (G.L (fun ce=>?_)));refine o.v1 (aT aZ.N eC di (b4 _)) ?_;refine o.aO (cV kC) ?_;rintro v5 cH ⟨rfl,d,a2,fO,eh⟩;have fV:cH.size=A.size+1:=by rw[eh];simp
 have ab:=(ay.new (aJ.mono k.size):ay _ (A.size+1));have aL:=(ay.new (dJ.mono k.size):ay _ (A.size+1));have aM:af (V.size+1) (A.size+1):=af.new j.lt;have aO:af (E.size+1) (A.size+1):=af.new B.lt;have aQ:T 0 I.size (A.size+1):=T.new k.size;replace al:=al.M a2;replace n:=n.M a2;replace j:=j.M a2;replace B:=B.M a2;replace k:=k.L a2;have fP:=a2.size;refine o.s1 (dM d (_) (bS s) (jT _) di (b4 _) ((c9 (b4 _).symm))) fun bs dN=>?_;obtain⟨d,am⟩:=dN;replace am:=am.bs;replace al:=al.ab am (az.J ab);replace n:=n.ab am (az.J aL);replace j:=j.ab am (ah.J aM);replace B:=B.ab am (ah.J aO);replace k:=k.bo am (ag.J (aq.q aQ));have fQ:=am.size;refine o.nil (ce ?_)
 refine G.cut (fun(K:(List UInt8))=>[(3,.pointer (some ⟨V.size,0,none⟩)),(4,.pointer (some ⟨E.size,0,none⟩)),(5,.pointer (some ⟨A.size,0,none⟩))])
  (fun(K:(List UInt8)) (H:Heap)=>(Var 47 H A.size (bS {s with an:=K}))∧(K=if t.bE=true then t.an else s.an)∧W (aE [(A.size+1)]) bs H) (fun _ cu _=>?_) ?_
 ·
  have bw:W (aE [(A.size+1)]) bs bs:=W.refl _ _;have cI:=T.refl (A.size+1) bs.size;refine G.L (fun dU=>?_);refine o.v1 (Y.ai j.N rfl bu rfl cX) ?_;refine o.v1 (ar j.N dA) (o.nil (dU ?_));refine cK (fun bU=>?_) (fun bU=>?_)
  ·
   refine G.region ?_;refine o.v1 (Y.ai j.N rfl bu rfl bP) ?_;refine o.v1 (ar (j.N.drop 1) bN) ?_;refine o.v1 (Y.ai d.N rfl ca rfl bP) ?_;refine o.s1 (dj d 0 (bS {s with an:=t.an}) (rfl) bP (by rw[b4];omega) ((y5 _))) fun ci dP=>?_;obtain⟨d,bq⟩:=dP;replace bq:=bq.bs;replace bw:=bw.aJ bq (ag.J (aq.r cI));have fR:=bq.size;refine o.nil ?_;refine aP.sub (cu (t.an) _ ?_) ⟨rfl,rfl,rfl,trivial⟩;exact⟨d,by rw[if_pos bU],bw⟩
  ·
   refine G.skip ?_;refine aP.sub (cu (s.an) _ ?_) ⟨rfl,rfl,rfl,trivial⟩;exact⟨d,by rw[if_neg (by simp[bU])],bw⟩
 ·
  intro K cf cL;obtain⟨d,eJ,a6⟩:=cL;replace al:=al.ab a6 (az.J ab);replace n:=n.ab a6 (az.J aL);replace j:=j.ab a6 (ah.J aM);replace B:=B.ab a6 (ah.J aO);replace k:=k.bo a6 (ag.J (aq.q aQ));have fj:=a6.size;refine G.t1 (fun ei=>G.L (fun ej=>?_));refine o.ak ?_;refine ej (G.aB (fun _ et _=>?_))
  refine G.bg (fun(b9:(Nat)×(aN)×(List cA)×(Nat→Prop)×(aN)×(List e8)×(Nat→Prop))=>match b9 with|(i,R,ul,aA,O,C,P)=>[(3,.pointer (some ⟨V.size,0,none⟩)),(4,.pointer (some ⟨E.size,0,none⟩)),(5,.pointer (some ⟨A.size,0,none⟩)),(6,.int .i64 (i:Int))])
   (fun(i,R,ul,aA,O,C,P) (H:Heap)=>(i≤t.ml.length)∧(Var 47 H A.size (bS {s with an:=K,en:=R,ba:=ul,cw:=O,bW:=C}))∧(∀u:Unit,Rd aA H dB 33 R.v ul)∧(bh aA H.size)∧(ay aA (A.size+1))∧(ay aA (E.size+1))∧(∀u:Unit,Rd P H ek 2 O.v C)∧(bh P H.size)∧(ay P (A.size+1))∧(ay P (E.size+1))∧(∀y∈C,Rd P H dt 65 y.v.v y.l)∧(bh P H.size)∧(ay P (A.size+1))∧(ay P (E.size+1))∧(∀b,aA b→F b∨I.size≤b)∧(∀b,P b→F b∨I.size≤b)∧(bG ul=(t.ml.take i).foldl dL s.m.b8)∧(cp C=(t.ml.take i).foldl hl s.m.dK)∧(ul.length≤200+i)∧W (aE [(A.size+1)]) cf H)
   (fun(i,R,ul,aA,O,C,P)=>t.ml.length-i) (0,s.en,s.ba,F,s.cw,s.bW,F) ⟨rfl,rfl,rfl,rfl,trivial⟩ ?_ ?_
  ·
   exact⟨(by omega),d,(fun _=>al.r),(aJ.mono (by omega)),(ab),(b2),(fun _=>al.g),(aJ.mono (by omega)),(ab),(b2),al.n,(aJ.mono (by omega)),(ab),(b2),(fun b e=>Or.inl e),(fun b e=>Or.inl e),rfl,rfl,(by omega),W.refl _ _⟩
  rintro⟨i,R,ul,aA,O,C,P⟩ a4 eu eW ev co;obtain⟨f_,d,hu,fc,bI,eQ,M,a5,g1,g2,N,cO,bH,eP,c0,bQ,a_,a8,gd,L⟩:=eu;replace al:=al.ab L (az.J ab);replace n:=n.ab L (az.J aL);replace j:=j.ab L (ah.J aM);replace B:=B.ab L (ah.J aO);replace k:=k.bo L (ag.J (aq.q aQ));have fk:=L.size;have cg:=T.refl (A.size+1) cf.size
  have ga:C.length=ul.length:=by
   have bC:=congrArg List.length (qv (ml:=t.ml.take i) ok.cL);rw[List.length_map,List.length_map,←a8,←a_,xh,kZ]at bC;exact bC
  have eK:∀y∈C,y.l.length≤100:=fun y hy=>sX (ml:=t.ml.take i) ok.bW (y.n,y.l) (by rw[←a8];exact List.mem_map.2 ⟨y,hy,rfl⟩);refine G.t2 (fun ew ey=>G.L (fun dR=>?_));refine o.V ?_;refine o.v1 (Y.ai j.N rfl bu rfl eo) ?_;refine o.v1 (ar (j.N.drop 2) eB) ?_;refine o.v1 (bb n.m dI) ?_;refine o.v1 bJ (o.nil (dR ?_));refine aU (fun ez=>?_) (fun ez=>?_)
  ·
   refine G.skip (ew (G.t1 (fun br=>G.aB (fun dS _ _=>G.t1 (fun dT=>?_)))));refine iW 7 (fun eY eG=>?_);refine o.v1 (Y.ai d.N rfl ca rfl hb) ?_;refine o.v1 (ar (d.N.drop 1) ix) ?_;refine o.v1 (Y.ai j.N rfl bu rfl eo) ?_;refine o.v1 (ar (j.N.drop 2) eB) ?_;refine o.V ?_;have bE:i<t.ml.length:=by omega
   obtain⟨y,bn⟩:∃q,q=t.ml[i]:=⟨_,rfl⟩;have gf:y∈t.ml:=by rw[bn];exact List.getElem_mem bE
   refine o.bR (Y.bL n.m (i) rfl dI dO rfl rfl) fun cs dW=>?_;refine o.v1 (Y.cast (v2:= .agg (du y).toArray) (aT dW.N iF dO (e4 _)) (by rw[bn])) ?_;refine o.nil (eG _ ?_);refine aW vz (xG _ ul y w0 _ (hu ()).any (by omega)) (fun fl dE eD=>?_);obtain⟨bv,bA,rfl,ai,bK,aR⟩:=eD;have dX:af (E.size+1) bA:=af.app (af.z) B.lt bK;have bL:af (A.size+1) bA:=af.app (af.z) d.lt bK;have dY:T 0 I.size bA:=T.L (T.refl 0 _) bK k.size;replace n:=n.M aR;replace j:=j.M aR;replace d:=d.M aR;replace M:=fun u=>(M u).M aR;replace N:=fun y Q=>(N y Q).M aR;replace L:=L.bc aR;have fm:=aR.size;have e0:=ai.le;have cD:bG (ku y ul)=(t.ml.take (i+1)).foldl dL s.m.b8:=by rw[kp bE,←bn,←a_];exact xI y ul (by rw[a_];exact kq ok.fa)
   refine o.v1 (Y.ai d.N rfl ca rfl hb) ?_;refine o.s1 (dj d 1 (bS {s with an:=K,en:=bv,ba:=ku y ul,cw:=O,bW:=C}) (rfl) hb (by rw[b4];omega) ((tN _ _))) fun bm dZ=>?_;obtain⟨d,au⟩:=dZ;replace au:=au.bs;replace n:=n.ab au (az.J aL);replace j:=j.ab au (ah.J aM);replace M:=fun u=>(M u).ab au (az.J g1);replace N:=fun y Q=>(N y Q).ab au (az.J bH);replace ai:=ai.ab au (ah.J bL.symm);replace L:=L.aJ au (ag.J (aq.r cg));have dr:=au.size;refine o.nil (dT ?_);refine iW 7 (fun eZ eH=>?_);refine o.v1 (Y.ai d.N rfl ca rfl fW) ?_;refine o.v1 (ar (d.N.drop 2) hx) ?_;refine o.v1 (Y.ai j.N rfl bu rfl eo) ?_;refine o.v1 (ar (j.N.drop 2) eB) ?_;refine o.V ?_;refine o.bR (Y.bL n.m (i) rfl dI dO rfl rfl) fun fX c4=>?_;refine o.v1 (Y.cast (v2:= .agg (du y).toArray) (aT c4.N iF dO (e4 _)) (by rw[bn])) ?_;refine o.nil (eH _ ?_);refine aW B3 (Ew _ C y P w0 _ (M ()) (a5.mono (by omega)) N (cO.mono (by omega)) (by omega) eK) (fun fo fp eE=>?_);obtain⟨cv,cG,eF,rfl,b7,cM,bV,cN,bc,eM,bx⟩:=eE;replace d:=d.M bx;replace ai:=ai.M bx;replace L:=L.bc bx;have fY:=bx.size;have cb:=(ay.jy bc (g1) (by omega));have c8:=(ay.jy bc (g2) (by omega));have cc:=(ay.jy bc (g1) (by omega));have da:=(ay.jy bc (g2) (by omega));refine o.v1 (Y.ai d.N rfl ca rfl fW) ?_;refine o.s1 (dj d 2 (bS {s with an:=K,en:=bv,ba:=ku y ul,cw:=cv,bW:=cG}) (rfl) fW (by rw[b4];omega) ((q8 _ _))) fun fr db=>?_;obtain⟨d,aY⟩:=db;replace aY:=aY.bs;replace ai:=ai.ab aY (ah.J bL.symm);replace b7:=fun u=>(b7 u).ab aY (az.J cb);replace bV:=fun y Q=>(bV y Q).ab aY (az.J cc);replace L:=L.aJ aY (ag.J (aq.r cg));have ft:=aY.size;refine o.nil (dS (br (G.region ?_)));refine o.V ?_;refine o.v1 bD ?_;refine o.ak ?_;refine aP.sub (ev (i+1,bv,ku y ul,fun b=>b+1=bA,cv,cG,eF) _ ?_ ?_) ⟨rfl,rfl,rfl,(aD (by omega)),trivial⟩
   ·exact⟨(by omega),d,(fun _=>ai.rd),(bh.of ai.le),(ay.of (bL.symm)),(ay.of (dX.symm)),b7,(cM.mono (by omega)),(cb),(c8),bV,(cN.mono (by omega)),(cc),(da),(fun b e=>Or.inr (by have b5:=(dY);unfold T at b5;omega)),(fun b e=>(bc b e).elim (bQ b) (fun e=>Or.inr (by omega))),cD,by rw[eM (by rw[a8];exact qo ok.c7),a8,kp bE,←bn],(by rw[←kZ,cD,kp bE];refine Nat.le_trans (xK _ _) ?_;rw[←a_,kZ];omega),L⟩
   ·first|omega|(simp only;omega)|(simp;omega)
  ·
   obtain rfl:i=t.ml.length:=by omega
   rw[List.take_length]at a_ a8;refine G.exit (ey (co (et ?_)));refine ei ?_
   refine G.cut (fun(b9:(cZ)×(Nat→Prop))=>match b9 with|(Z,aK)=>[(3,.pointer (some ⟨V.size,0,none⟩)),(4,.pointer (some ⟨E.size,0,none⟩)),(5,.pointer (some ⟨A.size,0,none⟩))])
    (fun(Z,aK) (H:Heap)=>(Var 47 H A.size (bS {s with an:=K,en:=R,ba:=ul,cw:=O,bW:=C,q:=Z}))∧(∀u:Unit,Rd aK H c2 33 Z.cd.v Z.a6)∧(bh aK H.size)∧(ay aK (A.size+1))∧(ay aK (E.size+1))∧(∀b,aK b→F b∨I.size≤b)∧(Z.p=if t.al=true then(if t.q.k=0 then hE else t.q.p)else s.m.q)∧W (aE [(A.size+1)]) a4 H) (fun _ bO _=>?_) ?_
   ·
    have ac:W (aE [(A.size+1)]) a4 a4:=W.refl _ _;have bR:=T.refl (A.size+1) a4.size;refine G.L (fun dc=>?_);refine o.v1 (Y.ai j.N rfl bu rfl cX) ?_;refine o.v1 (ar (j.N.drop 3) dA) (o.nil (dc ?_));refine cK (fun bi=>?_) (fun bi=>?_)
    ·
     refine G.L (fun de=>?_);refine o.v1 (Y.build (v:=er hE) rfl rfl (by intro w;kernel_rfl)) ?_;refine o.v1 (Y.ai d.N rfl ca rfl cS) ?_;refine o.s1 (S.var d (_) (bS {s with an:=K,en:=R,ba:=ul,cw:=O,bW:=C,q:=hE}) rfl rfl rfl rfl ((ko _)) cS (ee _) (by rw[b4];exact Nat.le_of_ble_eq_true rfl) ((q9 _))) fun fe a9=>?_;obtain⟨d,aF⟩:=a9;replace aF:=aF.bs;replace n:=n.ab aF (az.J aL);replace j:=j.ab aF (ah.J aM);replace B:=B.ab aF (ah.J aO);replace k:=k.bo aF (ag.J (aq.q aQ));replace ac:=ac.aJ aF (ag.J (aq.r bR));have fu:=aF.size;refine o.nil (de (G.L (fun df=>?_)));refine o.v1 (Y.ai j.N rfl bu rfl cS) ?_;refine o.v1 (Y.ai (j.N.drop 4) rfl bt rfl b0) ?_;refine o.v1 (ar j.N.n4 cj) ?_;refine o.v1 cU (o.nil (df ?_));refine aU (fun d_=>?_) (fun d_=>?_)
     ·
      refine G.L (fun dg=>?_);refine o.v1 (Y.ai j.N rfl bu rfl cS) ?_;refine o.v1 (Y.cast (v2:=er t.q) (aT ((j.N.drop 4).take 70) h9 cS (by rw[jc];exact ee _)) (b6 (jc t))) ?_;refine o.v1 (Y.ai d.N rfl ca rfl cS) ?_;refine o.s1 (S.var d (_) (bS {s with an:=K,en:=R,ba:=ul,cw:=O,bW:=C,q:=t.q}) rfl rfl rfl rfl ((ko _)) cS (ee _) (by rw[b4];exact Nat.le_of_ble_eq_true rfl) ((q9 _))) fun a7 cP=>?_;obtain⟨d,aH⟩:=cP;replace aH:=aH.bs;replace n:=n.ab aH (az.J aL);replace j:=j.ab aH (ah.J aM);replace B:=B.ab aH (ah.J aO);replace k:=k.bo aH (ag.J (aq.q aQ));replace ac:=ac.aJ aH (ag.J (aq.r bR));have fw:=aH.size;refine o.nil (dg (G.region ?_));refine o.aO (cT _ (([]:List fE)) l0 hX mN (rfl)) fun cy ck ea=>?_;obtain⟨ak,aS,fx,dh⟩:=ea;have e1:ck.size=a7.size+1:=by rw[dh];simp
      have dk:af (E.size+1) (a7.size+1):=af.new B.lt;have cx:af (A.size+1) (a7.size+1):=af.new d.lt;have dm:T 0 I.size (a7.size+1):=T.new k.size;have dp:T 0 a4.size (a7.size+1):=T.new ac.size;replace n:=n.M aS;replace j:=j.M aS;replace B:=B.M aS;replace d:=d.M aS;replace k:=k.L aS;replace ac:=ac.bc aS;have fy:=aS.size;refine o.v1 (Y.ai j.N rfl bu rfl cS) ?_;refine o.v1 (Y.ai (j.N.drop 4) rfl bt rfl ep) ?_;refine o.v1 (ar j.N.rh fi) ?_;refine o.aO (dQ ak n.q l0 (by simp;omega) (by simp;omega)) fun cm fq eb=>?_;obtain⟨bl,ak,bd,bg⟩:=eb;replace bd:T (a7.size+1) ck.size bl:=bd;replace bg:=bg.md;have dq:af (E.size+1) bl:=af.app (dk) B.lt bd;have cz:af (A.size+1) bl:=af.app (cx) d.lt bd;have dw:T 0 I.size bl:=T.L (dm) bd k.size;replace d:=d.ab bg (ah.J cx);replace ac:=ac.aJ bg (ag.J (aq.q dp));have fB:=bg.size;have e9:=ak.le;rw[List.nil_append]at ak;obtain⟨cr,rfl⟩:∃s:aN,cm=s.v:=⟨cl cm,ak.bl.symm⟩;refine o.v1 (Y.ai d.N rfl ca rfl cS) ?_;refine o.v1 (Y.ai (d.N.drop 3) rfl bt rfl ep) ?_;refine o.s1 (dj d 69 (bS {s with an:=K,en:=R,ba:=ul,cw:=O,bW:=C,q:={t.q with cd:=cr}}) (rfl) ep (by rw[b4];omega) ((tO _ _))) fun e3 bT=>?_;obtain⟨d,bk⟩:=bT;replace bk:=bk.bs;replace ak:=ak.ab bk (ah.J cz.symm);replace ac:=ac.aJ bk (ag.J (aq.r bR));have fC:=bk.size;refine o.nil ?_;refine aP.sub (bO ({t.q with cd:=cr},fun b=>b+1=bl) _ ?_) ⟨rfl,rfl,rfl,trivial⟩;exact⟨d,(fun _=>ak.rd),(bh.of ak.le),(ay.of (cz.symm)),(ay.of (dq.symm)),(fun b e=>Or.inr (by have b5:=(dw);unfold T at b5;omega)),by rw[if_pos bi,if_neg (by omega)];rfl,ac⟩
     ·
      refine G.skip ?_;refine aP.sub (bO (hE,fun _=>False) _ ?_) ⟨rfl,rfl,rfl,trivial⟩;exact⟨d,(fun _=>Rd.nil _ _ _ _),(fun b e=>e.elim),(fun b e=>e.elim),(fun b e=>e.elim),(fun b e=>e.elim),by rw[if_pos bi,if_pos (by omega)];rfl,ac⟩
    ·
     refine G.skip ?_;refine aP.sub (bO (s.q,F) _ ?_) ⟨rfl,rfl,rfl,trivial⟩;exact⟨d,(fun _=>al.q),(aJ.mono (by omega)),(ab),(b2),(fun b e=>Or.inl e),by rw[if_neg (by simp[bi])];rfl,ac⟩
   ·
    rintro⟨Z,aK⟩ ff cJ;obtain⟨d,aX,e_,eR,eT,cR,eN,ae⟩:=cJ;replace al:=al.ab ae (az.J ab);replace n:=n.ab ae (az.J aL);replace j:=j.ab ae (ah.J aM);replace B:=B.ab ae (ah.J aO);replace hu:=fun u=>(hu u).ab ae (az.J bI);replace M:=fun u=>(M u).ab ae (az.J g1);replace N:=fun y Q=>(N y Q).ab ae (az.J bH);replace k:=k.bo ae (ag.J (aq.q aQ));have fD:=ae.size;refine G.L (fun dx=>?_);refine o.v1 (Y.ai d.N rfl ca rfl dv) ?_;refine o.v1 (ar d.N.hQ dV) ?_;refine o.v1 (Y.ai j.N rfl bu rfl dv) ?_;refine o.v1 (ar j.N.fX dV) ?_;refine aW vu (yx _ _ s.el t.el F w0 _ al.e (aJ.mono (by omega)) n.e.any al.d (aJ.mono (by omega)) (fun y hy=>(n.d y hy).any) (by omega) (by omega) (fun x bX=>by have:=(cC x bX).2;omega) (fun x bX=>(cC x bX).1)) (fun fS fZ ec=>?_);obtain⟨aB,bo,bf,rfl,bp,fg,bj,fh,a1,eL,aI⟩:=ec;replace B:=B.M aI;replace d:=d.M aI;replace hu:=fun u=>(hu u).M aI;replace M:=fun u=>(M u).M aI;replace N:=fun y Q=>(N y Q).M aI;replace aX:=fun u=>(aX u).M aI;replace k:=k.L aI;have fF:=aI.size;have dy:=(ay.jy a1 (ab) (by omega));have dz:=(ay.jy a1 (b2) (by omega));have dC:=(ay.jy a1 (ab) (by omega));have dD:=(ay.jy a1 (b2) (by omega));refine o.v1 (Y.ai d.N rfl ca rfl dv) ?_;refine o.s1 (dj d 73 (bS {s with an:=K,en:=R,ba:=ul,cw:=O,bW:=C,q:=Z,ct:=aB,el:=bo}) (rfl) dv (by rw[b4];omega) ((tM _ _))) fun e5 be=>?_;obtain⟨d,X⟩:=be;replace X:=X.bs;replace B:=B.ab X (ah.J aO);replace hu:=fun u=>(hu u).ab X (az.J bI);replace M:=fun u=>(M u).ab X (az.J g1);replace N:=fun y Q=>(N y Q).ab X (az.J bH);replace aX:=fun u=>(aX u).ab X (az.J eR);replace bp:=fun u=>(bp u).ab X (az.J dy);replace bj:=fun x bZ=>(bj x bZ).ab X (az.J dC);replace k:=k.bo X (ag.J (aq.q aQ));have fG:=X.size;refine o.nil (dx (G.L (fun dF=>?_)));refine o.v1 (aT d.N eC di (b4 _)) ?_;refine o.s1 (dM B (_) (bS {s with an:=K,en:=R,ba:=ul,cw:=O,bW:=C,q:=Z,ct:=aB,el:=bo}) (jT _) di (b4 _) ((c9 (b4 _).symm))) fun e6 bY=>?_;obtain⟨B,aa⟩:=bY;replace aa:=aa.bs;replace hu:=fun u=>(hu u).ab aa (az.J eQ);replace M:=fun u=>(M u).ab aa (az.J g2);replace N:=fun y Q=>(N y Q).ab aa (az.J eP);replace aX:=fun u=>(aX u).ab aa (az.J eT);replace bp:=fun u=>(bp u).ab aa (az.J dz);replace bj:=fun x bZ=>(bj x bZ).ab aa (az.J dD);replace k:=k.bo aa (ag.J (aq.q dK));have fH:=aa.size;refine o.nil (dF ?_);refine G.ret (eO .ret (.inr rfl) _ _ _ (j6 rfl rfl B.N eC di (b4 _)) ?_);exact⟨{s with an:=K,en:=R,ba:=ul,cw:=O,bW:=C,q:=Z,ct:=aB,el:=bo},_,rfl,(fun _=>(⟨(hu ()).imp (fun b _ e=>c0 b e),(M ()).imp (fun b _ e=>bQ b e),(fun y hy=>(N y hy).imp (fun b _ e=>bQ b e)),(aX ()).imp (fun b _ e=>cR b e),(bp ()).imp (fun b _ e=>((a1 b e).elim Or.inl (fun e=>Or.inr (by omega)))),(fun y hy=>(bj y hy).imp (fun b _ e=>((a1 b e).elim Or.inl (fun e=>Or.inr (by omega)))))⟩:eS (fun b=>F b∨I.size≤b) _ {s with an:=K,en:=R,ba:=ul,cw:=O,bW:=C,q:=Z,ct:=aB,el:=bo}).bw),(fun b e=>e.2),(fun b e=>e.1),by show eA.mk K (bG ul) (cp C) Z.p (cn bo)=_;rw[a_,a8,eN,eL,eJ];rfl,k⟩
end rD

namespace pB
open E Go.RowKit dz
def jN(n:Nat):List UInt8:=[UInt8.ofNat (n/2^24),UInt8.ofNat (n/2^16),UInt8.ofNat (n/2^8),UInt8.ofNat n]
def ln(v:Nat)(l:List UInt8):Nat:=l.foldl (fun v x=>v*256+x.toNat) v
theorem uM(n:Nat):(jN n).length=4:=rfl
theorem Fu(n:Nat)(h:n<18446744073709551616):cm 4 (UInt64.ofNat n)=jN n:=by
 have e:∀j,(iS (UInt64.ofNat n) j).toNat=n/2^j:=fun j=>by rw[tD,UInt64.toNat_ofNat',Nat.mod_eq_of_lt h]
 simp only[cm,e,jN];simp
theorem uS:∀(l:List UInt8) (v:Nat),ln v l<(v+1)*256^l.length
 |[],v=>by simp[ln]
 |x::l,v=>by
  have d:=x.toNat_lt;have:=uS l (v*256+x.toNat);have e:ln v (x::l)=ln (v*256+x.toNat) l:=rfl;rw[e,List.length_cons,Nat.pow_succ];refine Nat.lt_of_lt_of_le this ?_;have:v*256+x.toNat+1≤(v+1)*256:=by omega
  calc (v*256+x.toNat+1)*256^l.length≤((v+1)*256)*256^l.length:=Nat.mul_le_mul_right _ this
   _=(v+1)*(256^l.length*256):=by rw[Nat.mul_assoc,Nat.mul_comm 256]
theorem AG(l:List UInt8)(h:l.length≤4):ln 0 l<4294967296:=by
 have:=uS l 0;have U:256^l.length≤256^4:=Nat.pow_le_pow_right (by decide) h;omega
theorem td(a:Nat)(x:UInt8):a*2^8|||x.toNat=a*256+x.toNat:=by
 rw[Nat.mul_comm,←Nat.two_pow_add_eq_or_of_lt x.toNat_lt]
end pB

namespace my
open E Go.RowKit
def il(x:UInt32)(j:Nat):UInt32:=jA x j|||m7 x (32-j)
theorem Ak:∀j:Nat,j<32→0<j→(UInt64.ofNat (18446744073709551616-j)&&&UInt64.ofNat 31)=UInt64.ofNat (32-j):=by decide+kernel
theorem Gz(x:UInt32)(j:Nat)(w0:World)(I:Heap)
 (n:0<j) (q:j<32):
 aC Tryz.prog w0 280 #[.int .u32 x.toNat,.int .i64 (-(j:Int))] I (fun r d=>r= .int .u32 (il x j).toNat∧d=I):=by
 refine aC.aK [.int .u32 x.toNat,.int .i64 (-(j:Int))] Tryz.func280 ?_;intro A t;refine G.L (fun i=>?_);refine o.ak ?_;refine i (G.L (fun k=>?_));refine o.V ?_;refine o.v1 (Y.conv rfl gn ua rfl) ?_;rw[show IntKind.u64.wrap (-(j:Int))=((UInt64.ofNat (18446744073709551616-j)).toNat:Int)by rw[wrap_u64,UInt64.toNat_ofNat'];omega];refine o.v1 (Y.Al (b:=(UInt64.ofNat 31)) rfl rfl rfl) ?_;rw[Ak j q n];refine o.ak ?_;refine k (G.L (fun ac=>?_));refine o.ax 2 ?_;refine o.v1 (Y.q5 (32-j) rfl rfl rfl (by rw[UInt64.toNat_ofNat'];omega) (by omega)) ?_;refine o.ax 2 ?_;refine o.v1 (Y.Ht (a:=(UInt64.ofNat 32)) rfl rfl rfl) ?_;rw[show UInt64.ofNat 32-UInt64.ofNat (32-j)=UInt64.ofNat j from UInt64.toNat_inj.1 (by rw[UInt64.toNat_sub,UInt64.toNat_ofNat',UInt64.toNat_ofNat',UInt64.toNat_ofNat'];omega)];refine o.v1 (Y.q6 (j) rfl rfl rfl (by rw[UInt64.toNat_ofNat'];omega) (by omega)) ?_;refine o.v1 (Y.qR rfl rfl rfl) ?_;refine o.ak ?_;refine ac ?_;refine G.ret (t ?_);exact⟨by rw[il,UInt32.or_comm],rfl⟩
theorem k6(x:UInt32)(j:Nat)(w0:World)(I:Heap)
 (n:0<j) (q:j<32):
 aC Tryz.prog w0 278 #[.int .u32 x.toNat,.int .i64 j] I (fun r d=>r= .int .u32 (il x j).toNat∧d=I):=by
 refine aC.aK [.int .u32 x.toNat,.int .i64 j] Tryz.func278 ?_;intro B t;refine G.L (fun i=>?_);refine o.ak ?_;refine i (G.L (fun k=>?_));refine o.ax 2 ?_;refine o.v1 (Y.neg rfl rfl) ?_;rw[IntWalk.i64_in _ (by omega),Int.zero_sub];refine aW BN (Gz x j w0 I n q) ?_;rintro C A ⟨rfl,rfl⟩;refine o.ak ?_;refine k ?_;refine G.ret (t ?_);exact⟨rfl,rfl⟩
def n_(a b c d:UInt8):UInt32:=m7 (UInt32.ofNat a.toNat) 24|||m7 (UInt32.ofNat b.toNat) 16|||m7 (UInt32.ofNat c.toNat) 8|||UInt32.ofNat d.toNat
theorem Ia(v:Value)(l:List UInt8)(w0:World)(I:Heap)
 (d:bx I a1 1 v l) (H:4≤l.length):
 aC Tryz.prog w0 277 #[v] I (fun r i=>r= .int .u32 (n_ l[0] l[1] l[2] l[3]).toNat∧i=I):=by
 refine aC.aK [v] Tryz.func277 ?_;intro A x;refine G.L (fun ac=>?_);refine o.ak ?_;refine ac (G.t1 (fun n=>?_));refine hf ?_;refine o.V ?_;refine o.bR (Y.indexAddr d (0) rfl dc cN rfl rfl (by first|rfl|omega) (by first|omega|(simp;omega)|(simp;done))) fun E q=>?_;refine o.v1 (ar q dS) ?_;refine o.v1 (Y.p7 rfl jD pv rfl) ?_;refine o.v1 (Y.q5 (24) rfl rfl rfl (by first|rfl|omega) (by omega)) ?_;refine o.V ?_;refine o.bR (Y.indexAddr d (1) rfl dc cN rfl rfl (by first|rfl|omega) (by first|omega|(simp;omega)|(simp;done))) fun F t=>?_;refine o.v1 (ar t dS) ?_;refine o.v1 (Y.p7 rfl jD pv rfl) ?_;refine o.v1 (Y.q5 (16) rfl rfl rfl (by first|rfl|omega) (by omega)) ?_;refine o.v1 (Y.qR rfl rfl rfl) ?_;refine o.V ?_;refine o.bR (Y.indexAddr d (2) rfl dc cN rfl rfl (by first|rfl|omega) (by first|omega|(simp;omega)|(simp;done))) fun B j=>?_;refine o.v1 (ar j dS) ?_;refine o.v1 (Y.p7 rfl jD pv rfl) ?_;refine o.v1 (Y.q5 (8) rfl rfl rfl (by first|rfl|omega) (by omega)) ?_;refine o.v1 (Y.qR rfl rfl rfl) ?_;refine o.V ?_;refine o.bR (Y.indexAddr d (3) rfl dc cN rfl rfl (by first|rfl|omega) (by first|omega|(simp;omega)|(simp;done))) fun C k=>?_;refine o.v1 (ar k dS) ?_;refine o.v1 (Y.p7 rfl jD pv rfl) ?_;refine o.v1 (Y.qR rfl rfl rfl) ?_;refine o.ak ?_;refine n ?_;refine G.ret (x ?_);exact⟨rfl,rfl⟩
end my

namespace lM
open E Go.RowKit my
abbrev fh(x:UInt32):Value:= .int .u32 x.toNat
abbrev hI(x:UInt8):Value:= .int .u8 x.toNat
structure gb where
 a:UInt32
 b:UInt32
 c:UInt32
 d:UInt32
 e:UInt32
 f:UInt32
 g:UInt32
 h:UInt32
abbrev gb.list(s:gb):List UInt32:=[s.a,s.b,s.c,s.d,s.e,s.f,s.g,s.h]
abbrev gb.cells(s:gb):List Value:=[fh s.a,fh s.b,fh s.c,fh s.d,fh s.e,fh s.f,fh s.g,fh s.h]
def one(s:gb)(k w:UInt32):UInt32:=s.h+(il s.e 6^^^il s.e 11^^^il s.e 25)+(s.e&&&s.f^^^ ~~~s.e&&&s.g)+k+w
def two(s:gb):UInt32:=(il s.a 2^^^il s.a 13^^^il s.a 22)+(s.a&&&s.b^^^s.a&&&s.c^^^s.b&&&s.c)
def pe(s:gb)(k w:UInt32):gb:=⟨one s k w+two s,s.a,s.b,s.c,s.d+one s k w,s.e,s.f,s.g⟩
def grow(w:List UInt32):List UInt32:=w++[w.getD (w.length-16) 0+(il (w.getD (w.length-15) 0) 7^^^il (w.getD (w.length-15) 0) 18^^^jA (w.getD (w.length-15) 0) 3)+w.getD (w.length-7) 0+(il (w.getD (w.length-2) 0) 17^^^il (w.getD (w.length-2) 0) 19^^^jA (w.getD (w.length-2) 0) 10)]
def q3(w0:List UInt32):Nat→List UInt32
 |0=>w0
 |n+1=>grow (q3 w0 n)
def nE(b:List UInt8)(n:Nat):List UInt32:=(List.range n).map (fun i=>n_ (b.getD (4*i) 0) (b.getD (4*i+1) 0) (b.getD (4*i+2) 0) (b.getD (4*i+3) 0))
def jG:List UInt32:=[0x428a2f98,0x71374491,0xb5c0fbcf,0xe9b5dba5,0x3956c25b,0x59f111f1,0x923f82a4,0xab1c5ed5,0xd807aa98,0x12835b01,0x243185be,0x550c7dc3,0x72be5d74,0x80deb1fe,0x9bdc06a7,0xc19bf174,0xe49b69c1,0xefbe4786,0xfc19dc6,0x240ca1cc,0x2de92c6f,0x4a7484aa,0x5cb0a9dc,0x76f988da,0x983e5152,0xa831c66d,0xb00327c8,0xbf597fc7,0xc6e00bf3,0xd5a79147,0x6ca6351,0x14292967,0x27b70a85,0x2e1b2138,0x4d2c6dfc,0x53380d13,0x650a7354,0x766a0abb,0x81c2c92e,0x92722c85,0xa2bfe8a1,0xa81a664b,0xc24b8b70,0xc76c51a3,0xd192e819,0xd6990624,0xf40e3585,0x106aa070,0x19a4c116,0x1e376c08,0x2748774c,0x34b0bcb5,0x391c0cb3,0x4ed8aa4a,0x5b9cca4f,0x682e6ff3,0x748f82ee,0x78a5636f,0x84c87814,0x8cc70208,0x90befffa,0xa4506ceb,0xbef9a3f7,0xc67178f2]
def tt(s:gb)(w:List UInt32):Nat→gb
 |0=>s
 |n+1=>pe (tt s w n) (jG.getD n 0) (w.getD n 0)
def uz(s t:gb):gb:=⟨s.a+t.a,s.b+t.b,s.c+t.c,s.d+t.d,s.e+t.e,s.f+t.f,s.g+t.g,s.h+t.h⟩
def compress(s:gb)(b:List UInt8):gb:=uz s (tt s (q3 (nE b 16) 48) 64)
theorem GA (w0:World)(I:Heap)
 :
 aC Tryz.prog w0 279 #[] I (fun r i=>r= .agg (jG.map fh).toArray∧aj I i):=by
 refine aC.enter (args:=[]) Tryz.func279 rfl rfl rfl ?_;intro B q;refine G.L (fun n=>?_);refine o.aO (cV zR) ?_;rintro F j ⟨rfl,d,A,E,C⟩;replace d:Var 335 j I.size (List.replicate 64 (fh 0)):=d;refine o.nil (n (G.L (fun ac=>?_)));refine o.v1 (Y.build (v:= .agg (jG.map fh).toArray) rfl rfl (by intro w;kernel_rfl)) ?_;refine o.s1 (S.var d (jG.map fh) (jG.map fh) rfl rfl rfl rfl (by intro u hu;obtain⟨x,_,rfl⟩:=List.mem_map.1 hu;rfl) yM (rfl) (Nat.le_of_ble_eq_true rfl) (by kernel_rfl)) fun ad k=>?_;obtain⟨d,t⟩:=k;refine o.nil (ac ?_);refine G.ret (q .ret (.inr rfl) _ _ _ (j6 rfl rfl d.N z6 yM (by first|rfl|simp)) ?_);exact⟨rfl,A.trans t (fun _ _ e=>e) (fun b aw e=>by omega)⟩
end lM

namespace mz
open E Go.RowKit my lM
theorem l4(w:List UInt32)(j:Nat)(h:j<w.length):(w.map fh)[j]?=some (fh (w.getD j 0)):=by simp[h]
theorem map_set(w:List UInt32)(j:Nat)(x:UInt32):(w.map fh).set (0+j) (fh x)=(w.set j x).map fh:=by rw[Nat.zero_add,List.map_set]
theorem tU{α:Type}(w:List α)(j:Nat)(x:α)(h:j<w.length):(w.set j x).take (j+1)=w.take j++[x]:=by
 rw[List.take_succ_eq_append_getElem (by simpa using h),List.take_set];rw[List.set_eq_of_length_le (by simp;omega)];simp
theorem getD_take(w:List UInt32)(j k:Nat)(h:j<k):(w.take k).getD j 0=w.getD j 0:=by
 simp[List.getD,List.getElem?_take,h]
theorem Dl(b:List UInt8)(n:Nat):nE b (n+1)=nE b n++[n_ (b.getD (4*n) 0) (b.getD (4*n+1) 0) (b.getD (4*n+2) 0) (b.getD (4*n+3) 0)]:=by
 unfold nE;rw[List.range_succ,List.map_append];rfl
def mY(w:List UInt32)(i:Nat):UInt32:=w.getD (i-16) 0+(il (w.getD (i-15) 0) 7^^^il (w.getD (i-15) 0) 18^^^jA (w.getD (i-15) 0) 3)+w.getD (i-7) 0+(il (w.getD (i-2) 0) 17^^^il (w.getD (i-2) 0) 19^^^jA (w.getD (i-2) 0) 10)
theorem DA(w:List UInt32)(i:Nat)(j:16≤i)(h:i≤w.length):grow (w.take i)=w.take i++[mY w i]:=by
 unfold grow mY;have d:(w.take i).length=i:=by simp;omega
 rw[d,getD_take w (i-16) i (by omega),getD_take w (i-15) i (by omega),getD_take w (i-7) i (by omega),getD_take w (i-2) i (by omega)]
abbrev av(s:List UInt32)(wt:List UInt8)(n:Nat)(au:UInt64):List Value:=s.map fh++wt.map hI++[.int .i64 n,.int .u64 au.toNat]
theorem lu{s:List UInt32}{wt:List UInt8}{n:Nat}{au:UInt64}(al:s.length=8)(hw:wt.length=64):(av s wt n au).length=74:=by simp[al,hw]
theorem wX{s:List UInt32}{wt:List UInt8}{n:Nat}{au:UInt64}(al:s.length=8)(i:Nat)(x:UInt8)(h:wt[i]?=some x):((av s wt n au).drop 8)[i]?=(a1 x)[0]?∧(a1 x).length=1:=by
 refine⟨?_,rfl⟩;have d:=(List.getElem?_eq_some_iff.1 h).1;have:(s.map fh).length=8:=by simpa using al
 rw[av,List.append_assoc,List.drop_left' this,List.getElem?_append_left (by simpa using d)];simp[h]
theorem qs{s:List UInt32}{wt:List UInt8}{n:Nat}{au:UInt64}(al:s.length=8)(hw:wt.length=64):(av s wt n au)[72]?=some (.int .i64 n):=by
 rw[av,List.getElem?_append_right (by simp[al,hw])];simp[al,hw]
theorem wV{s:List UInt32}{wt:List UInt8}{n:Nat}{au:UInt64}(al:s.length=8)(hw:wt.length=64):(av s wt n au)[73]?=some (.int .u64 au.toNat):=by
 rw[av,List.getElem?_append_right (by simp[al,hw])];simp[al,hw]
theorem wW{s:List UInt32}{wt:List UInt8}{n m:Nat}{au:UInt64}(al:s.length=8)(hw:wt.length=64):(av s wt n au).set 72 (.int .i64 m)=av s wt m au:=by
 rw[av,List.set_append_right _ _ (by simp[al,hw])];simp[al,hw]
theorem DD{s:List UInt32}{wt:List UInt8}{n:Nat}{au be:UInt64}(al:s.length=8)(hw:wt.length=64):(av s wt n au).set 73 (.int .u64 be.toNat)=av s wt n be:=by
 rw[av,List.set_append_right _ _ (by simp[al,hw])];simp[al,hw]
theorem DG{s:List UInt32}{wt:List UInt8}{n:Nat}{au:UInt64}(i:Nat)(d:i<s.length):(av s wt n au)[i]?=some (fh (s.getD i 0)):=by
 rw[av,List.append_assoc,List.getElem?_append_left (by simpa using d)];simp[d]
theorem DE{s:List UInt32}{wt:List UInt8}{n:Nat}{au:UInt64}(i:Nat)(d:i<s.length)(x:UInt32):(av s wt n au).set (0+i) (fh x)=av (s.set i x) wt n au:=by
 rw[av,List.append_assoc,List.set_append_left _ _ (by simpa using d),Nat.zero_add,←List.append_assoc,av,List.map_set]
theorem H_(wt:List UInt8)(i:Nat)(h:wt.length=64)(d:i<16)(n:4≤((wt.take 64).drop (4*i)).length):n_ ((wt.take 64).drop (4*i))[0] ((wt.take 64).drop (4*i))[1] ((wt.take 64).drop (4*i))[2] ((wt.take 64).drop (4*i))[3]=n_ (wt.getD (4*i) 0) (wt.getD (4*i+1) 0) (wt.getD (4*i+2) 0) (wt.getD (4*i+3) 0):=by
 have:∀j,j<4→∀(U:j<((wt.take 64).drop (4*i)).length),((wt.take 64).drop (4*i))[j]=wt.getD (4*i+j) 0:=by
  intro j k U;rw[List.getElem_drop,List.getElem_take];simp[List.getD,show 4*i+j<wt.length by omega]
 rw[this 0 (by omega),this 1 (by omega),this 2 (by omega),this 3 (by omega)];rfl
def lR(a b:List UInt32)(i:Nat):List UInt32:=(List.zipWith (·+ ·) (a.take i) (b.take i))++a.drop i
theorem Ab(a b:List UInt32)(i:Nat)(d:a.length=8)(aw:b.length=8)(j:i≤8):(lR a b i).length=8:=by simp[lR,d,aw];omega
theorem Aa(a b:List UInt32)(i:Nat)(d:a.length=8)(aw:b.length=8)(k:i<8):(lR a b i).getD i 0=a.getD i 0:=by
 have j:(List.zipWith (·+ ·) (a.take i) (b.take i)).length=i:=by simp[d,aw];omega
 simp only[lR,List.getD];rw[List.getElem?_append_right (by omega),j,Nat.sub_self,List.getElem?_drop,Nat.add_zero]
theorem Ac(a b:List UInt32)(i:Nat)(d:a.length=8)(aw:b.length=8)(j:i<8):(lR a b i).set i (a.getD i 0+b.getD i 0)=lR a b (i+1):=by
 have k:(List.zipWith (·+ ·) (a.take i) (b.take i)).length=i:=by simp[d,aw];omega
 unfold lR;rw[List.set_append_right _ _ (by omega),k,Nat.sub_self,List.drop_eq_getElem_cons (show i<a.length by omega),List.set_cons_zero,List.take_succ_eq_append_getElem (show i<a.length by omega),List.take_succ_eq_append_getElem (show i<b.length by omega),List.zipWith_append (by simp;omega),List.append_assoc];simp[List.getD,d,aw,j]
theorem AJ(aw:Nat)(st:gb)(wt:List UInt8)(n:Nat)(au:UInt64)(w0:World)(I:Heap)
 (A:Var 356 I aw (av st.list wt n au)) (hw:wt.length=64):
 aC Tryz.prog w0 273 #[.pointer (some ⟨aw,0,none⟩)] I (fun r K=>r= .tuple #[]∧Var 356 K aw (av (compress st wt).list wt 0 au)∧W (fun c=>c=aw) I K):=by
 refine aC.enter (args:=[.pointer (some ⟨aw,0,none⟩)]) Tryz.func273 rfl rfl rfl ?_;intro cP cH;have dq:=A.lt;have cI:st.list.length=8:=rfl;refine G.L (fun bG=>?_);refine o.aO (cV zR) ?_;rintro v2 K ⟨rfl,B,X,c4,bI⟩;replace A:=A.M X;replace B:Var 335 K I.size ((List.replicate 64 (0:UInt32)).map fh):=B;have c8:K.size=I.size+1:=by rw[bI];simp
 refine o.nil (bG (G.t1 (fun bK=>G.L (fun bL=>?_))));refine o.V (o.nil (bL ?_));refine G.aB (fun _ bN _=>?_)
 refine G.bg (fun(V:(Nat)×(List UInt32))=>match V with|(i,w)=>[(0,.pointer (some ⟨aw,0,none⟩)),(2,.pointer (some ⟨I.size,0,none⟩)),(14,.int .i64 i)])
  (fun(i,w) (H:Heap)=>i≤16∧w.length=64∧w.take i=nE wt i∧Var 335 H I.size (w.map fh)∧W (fun c=>c=I.size) K H)
  (fun(i,w)=>16-i) (0,List.replicate 64 0) ⟨rfl,rfl,rfl,trivial⟩ ?_ ?_
 ·
  exact⟨by omega,by simp,rfl,B,W.refl _ _⟩
 rintro⟨i,w⟩ H1 bO cO bP bQ;obtain⟨cz,aa,E,B,hm⟩:=bO;replace A:=A.up hm (by omega);refine G.L (fun bR=>?_);refine o.v1 bJ (o.nil (bR ?_));refine G.t2 (fun bS bU=>?_);refine aU (fun bV=>?_) (fun bV=>?_)
 ·
  refine G.skip (bS (G.t1 (fun bX=>G.aB (fun bZ _ _=>G.L (fun aJ=>?_)))));refine o.aQ 2 ?_;refine aJ (G.region ?_);refine o.ax 3 ?_;refine o.v1 (Y.ai A.N rfl iV rfl yN) ?_;refine o.V ?_;refine o.v1 (Y.jx rfl rfl rfl (by omega)) ?_;refine o.aK (g:=fun v=>v) (Y.pn (F:=fun c=>c=aw) (f:=a1) (xs:=wt) (A.N.drop 8) rfl A.lt (hw) (fun i x h=>wX cI i x h) (4*i) (64) rfl (fun w=> .inl (zw w)) cN rfl (.inr ⟨_,_,_,rfl,rfl,by first|rfl|omega⟩) (.inl ⟨rfl,rfl⟩) (by omega) (by omega) (by decide)) fun ce cL=>?_;refine aW BL (Ia _ _ w0 H1 cL.any (by simp;omega)) (fun c9 c_ b1=>?_);obtain⟨rfl,rfl⟩:=b1;rw[H_ wt i hw (by omega)];refine o.v1 (eZ B.N (i) mf ey) ?_;refine o.s1 (dj B (0+(i)) (_) (rfl) ey (by simp;omega) (map_set w i _)) fun cU aK=>?_;obtain⟨B,ak⟩:=aK;replace hm:=hm.trans ak (fun _ _ e=>e) (fun _ _ e=>e);refine o.nil (bZ (bX (G.region ?_)));refine o.v1 bD ?_;refine o.V (o.nil ?_);refine aP.sub (bP (i+1,w.set i (n_ (wt.getD (4*i) 0) (wt.getD (4*i+1) 0) (wt.getD (4*i+2) 0) (wt.getD (4*i+3) 0))) _ ?_ ?_) ⟨rfl,rfl,(aD (by omega)),trivial⟩
  ·exact⟨by omega,by simp[aa],by rw[tU _ _ _ (by omega),Dl,E],B,hm⟩
  ·show 16-(i+1)<16-i;omega
 ·
  have cC:i=16:=by omega
  subst cC;refine G.exit (bU (bQ (bN ?_)));refine bK (G.t1 (fun aL=>G.L (fun aM=>?_)));refine o.ak ?_;refine aM (G.aB (fun _ aN _=>?_))
  refine G.bg (fun(V:(Nat)×(List UInt32))=>match V with|(i,w)=>[(0,.pointer (some ⟨aw,0,none⟩)),(2,.pointer (some ⟨I.size,0,none⟩)),(4,.int .i64 i)])
   (fun(i,w) (H:Heap)=>16≤i∧i≤64∧w.length=64∧w.take i=q3 (nE wt 16) (i-16)∧Var 335 H I.size (w.map fh)∧W (fun c=>c=I.size) H1 H)
   (fun(i,w)=>64-i) (16,w) ⟨rfl,rfl,rfl,trivial⟩ ?_ ?_
  ·
   exact⟨by omega,by omega,aa,E,B,W.refl _ _⟩
  rintro⟨i,w⟩ Q b2 dU aO aQ;obtain⟨cA,cz,aa,E,B,T⟩:=b2;replace A:=A.up T (by omega);refine G.t2 (fun aR aS=>G.L (fun aX=>?_));refine o.V ?_;refine o.v1 bJ (o.nil (aX ?_));refine aU (fun b3=>?_) (fun b3=>?_)
  ·
   refine G.skip (aR (G.t1 (fun aY=>G.aB (fun aZ _ _=>G.t1 (fun a6=>?_)))));refine hf ?_;refine o.V ?_;refine o.v1 fH ?_;refine o.v1 (Y.oz B.N (i-15) rfl mf ey rfl rfl (by omega) (by first|omega|(simp;omega)|(simp;done))) ?_;refine o.v1 (ar (B.N.at (i-15) (l4 w (i-15) (by omega))) e9) ?_;refine o.V ?_;refine o.v1 fH ?_;refine o.v1 (Y.oz B.N (i-2) rfl mf ey rfl rfl (by omega) (by first|omega|(simp;omega)|(simp;done))) ?_;refine o.v1 (ar (B.N.at (i-2) (l4 w (i-2) (by omega))) e9) ?_;refine o.aQ 2 ?_;refine a6 ?_;refine dx (fun j=>aj Q j) [29] ?_;have k:=aj.refl Q;refine O.V 0 rfl k ?_;refine O.V 1 rfl k ?_;refine O.t1 2 rfl (fun j d=>fH) k ?_;refine O.t1 3 rfl (fun j d=>Y.oz (B.N.M d) (i-16) rfl mf ey rfl rfl (by omega) (by first|omega|(simp;omega)|(simp;done))) k ?_;refine O.t1 4 rfl (fun j d=>ar ((B.N.at (i-16) (l4 w (i-16) (by omega))).M d) e9) k ?_;refine O.V 5 rfl k ?_;refine O.V 7 rfl k ?_;refine O.V 10 rfl k ?_;refine O.t1 11 rfl (fun j d=>Y.q6 (3) rfl rfl rfl (by first|rfl|omega) (by omega)) k ?_;refine O.V 14 rfl k ?_;refine O.t1 15 rfl (fun j d=>fH) k ?_;refine O.t1 16 rfl (fun j d=>Y.oz (B.N.M d) (i-7) rfl mf ey rfl rfl (by omega) (by first|omega|(simp;omega)|(simp;done))) k ?_;refine O.t1 17 rfl (fun j d=>ar ((B.N.at (i-7) (l4 w (i-7) (by omega))).M d) e9) k ?_;refine O.V 19 rfl k ?_;refine O.V 21 rfl k ?_;refine O.V 24 rfl k ?_;refine O.t1 25 rfl (fun j d=>Y.q6 (10) rfl rfl rfl (by first|rfl|omega) (by omega)) k ?_;refine O.aX 6 ?_;refine cf kI (k6 _ 7 w0 _ (by omega) (by omega)) (fun ci b4 b5=>?_);obtain⟨rfl,rfl⟩:=b5;have a7:=aj.refl b4;have ap:=k.L a7;refine⟨.inr ap,?_⟩;refine O.aX 8 ?_;refine cf kI (k6 _ 18 w0 _ (by omega) (by omega)) (fun da b6 b7=>?_);obtain⟨rfl,rfl⟩:=b7;have a8:=aj.refl b6;have ac:=ap.L a8;refine⟨.inr ac,?_⟩;refine O.t1 9 rfl (fun j d=>Y.kA rfl rfl rfl) ac ?_;refine O.t1 12 rfl (fun j d=>Y.kA rfl rfl rfl) ac ?_;refine O.t1 13 rfl (fun j d=>Y.ki rfl rfl rfl) ac ?_;refine O.t1 18 rfl (fun j d=>Y.ki rfl rfl rfl) ac ?_;refine O.aX 20 ?_;refine cf kI (k6 _ 17 w0 _ (by omega) (by omega)) (fun db b8 b9=>?_);obtain⟨rfl,rfl⟩:=b9;have a_:=aj.refl b8;have aq:=ac.L a_;refine⟨.inr aq,?_⟩;refine O.aX 22 ?_;refine cf kI (k6 _ 19 w0 _ (by omega) (by omega)) (fun dc b_ ca=>?_);obtain⟨rfl,rfl⟩:=ca;have ba:=aj.refl b_;have ad:=aq.L ba;refine⟨.inr ad,?_⟩;refine O.t1 23 rfl (fun j d=>Y.kA rfl rfl rfl) ad ?_;refine O.t1 26 rfl (fun j d=>Y.kA rfl rfl rfl) ad ?_;refine O.t1 27 rfl (fun j d=>Y.ki rfl rfl rfl) ad ?_;refine O.t1 28 rfl (fun j d=>eZ (B.N.M d) (i) mf ey) ad ?_;refine O.aX 29 ?_;refine gL rfl (dj B (0+(i)) (_) (rfl) ey (by simp;omega) (map_set w i _)) (fun cS bk=>?_);obtain⟨B,ak⟩:=bk;refine⟨.inl rfl,?_⟩;refine cx ?_;have aA:=ad;refine aZ (aY (G.region ?_));refine o.V ?_;refine o.v1 bD ?_;refine o.ak ?_;refine aP.sub (aO (i+1,w.set i (mY w i)) _ ?_ ?_) ⟨rfl,rfl,(aD (by omega)),trivial⟩
   ·exact⟨by omega,by omega,by simp[aa],by rw[tU _ _ _ (by omega),E,show i+1-16=(i-16)+1 by omega,q3,←E,DA w i cA (by omega)],B,T.trans ak (fun _ _ e=>e) (fun _ _ e=>e)⟩
   ·show 64-(i+1)<64-i;omega
  ·
   have ai:i=64:=by omega
   subst ai;rw[List.take_of_length_le (by omega)]at E;refine G.exit (aS (aQ (aN ?_)));refine aL (G.L (fun bb=>?_));refine o.ax 2 ?_;refine o.v1 (Y.ai A.N rfl iV rfl lD) ?_;refine o.v1 (aT (A.N.take 8) rK lD (rfl)) ?_;have dr:=B.lt;refine o.aO (cV Ij) ?_;rintro dD cM ⟨rfl,t,R,de,df⟩;replace A:=A.M R;replace B:=B.M R;refine o.s1 (S.var t (st.cells) (st.cells) rfl rfl rfl rfl (by simp[Value.oneCell']) lD (rfl) (Nat.le_of_ble_eq_true rfl) (rfl)) fun c0 bn=>?_;obtain⟨t,P⟩:=bn;replace A:=A.up P (by omega);replace B:=B.up P (by omega);refine o.nil (bb (G.t1 (fun bc=>G.L (fun bd=>?_))));refine aW BM (GA w0 _) (fun co bt bu=>?_);obtain⟨rfl,L⟩:=bu;replace A:=A.M L;replace B:=B.M L;replace t:=t.M L;refine o.V (o.nil (bd ?_));refine G.aB (fun _ bf _=>?_)
   refine G.bg (fun(V:(Nat)×(gb))=>match V with|(i,q)=>[(0,.pointer (some ⟨aw,0,none⟩)),(2,.pointer (some ⟨I.size,0,none⟩)),(7,.pointer (some ⟨Q.size,0,none⟩)),(72,.agg (jG.map fh).toArray),(73,.int .i64 i)])
    (fun(i,q) (H:Heap)=>i≤64∧q=tt st w i∧Var 336 H Q.size q.cells∧W (fun c=>c=Q.size) bt H)
    (fun(i,q)=>64-i) (0,st) ⟨rfl,rfl,rfl,rfl,rfl,trivial⟩ ?_ ?_
   ·
    exact⟨by omega,rfl,t,W.refl _ _⟩
   rintro⟨i,q⟩ ab bw dg bg bh;obtain⟨dp,a0,t,M⟩:=bw;replace A:=A.up M (by omega);replace B:=B.up M (by omega);refine G.L (fun a2=>?_);refine o.v1 bJ (o.nil (a2 ?_));refine G.t2 (fun a3 a4=>?_);refine aU (fun bx=>?_) (fun bx=>?_)
   ·
    refine G.skip (a3 (G.t1 (fun a5=>G.aB (fun aF _ _=>G.L (fun aH=>?_)))));refine o.V ?_;refine o.v1 (Y.rR (i) rfl mf ey e9 rfl rfl (by first|rfl|omega) (by omega) (by rw[List.getElem?_toArray];exact l4 jG i (by simp[jG];omega))) ?_;refine o.aQ 2 ?_;refine aH (G.t1 (fun aI=>?_));refine dx (fun j=>aj ab j) [] ?_;have k:=aj.refl ab;refine O.t1 0 rfl (fun j d=>eZ (t.N.M d) (7) fY ey) k ?_;refine O.t1 1 rfl (fun j d=>ar ((t.N.drop 7).M d) e9) k ?_;refine O.t1 2 rfl (fun j d=>eZ (t.N.M d) (4) fY ey) k ?_;refine O.t1 3 rfl (fun j d=>ar ((t.N.drop 4).M d) e9) k ?_;refine O.t1 5 rfl (fun j d=>eZ (t.N.M d) (4) fY ey) k ?_;refine O.t1 6 rfl (fun j d=>ar ((t.N.drop 4).M d) e9) k ?_;refine O.t1 9 rfl (fun j d=>eZ (t.N.M d) (4) fY ey) k ?_;refine O.t1 10 rfl (fun j d=>ar ((t.N.drop 4).M d) e9) k ?_;refine O.t1 14 rfl (fun j d=>eZ (t.N.M d) (4) fY ey) k ?_;refine O.t1 15 rfl (fun j d=>ar ((t.N.drop 4).M d) e9) k ?_;refine O.t1 16 rfl (fun j d=>eZ (t.N.M d) (5) fY ey) k ?_;refine O.t1 17 rfl (fun j d=>ar ((t.N.drop 5).M d) e9) k ?_;refine O.t1 18 rfl (fun j d=>Y.ov rfl rfl rfl) k ?_;refine O.t1 19 rfl (fun j d=>eZ (t.N.M d) (4) fY ey) k ?_;refine O.t1 20 rfl (fun j d=>ar ((t.N.drop 4).M d) e9) k ?_;refine O.t1 21 rfl (fun j d=>Y.Fm rfl rfl) k ?_;refine O.t1 22 rfl (fun j d=>eZ (t.N.M d) (6) fY ey) k ?_;refine O.t1 23 rfl (fun j d=>ar ((t.N.drop 6).M d) e9) k ?_;refine O.t1 24 rfl (fun j d=>Y.ov rfl rfl rfl) k ?_;refine O.t1 25 rfl (fun j d=>Y.kA rfl rfl rfl) k ?_;refine O.V 27 rfl k ?_;refine O.V 29 rfl k ?_;refine O.t1 30 rfl (fun j d=>eZ (B.N.M d) (i) mf ey) k ?_;refine O.t1 31 rfl (fun j d=>ar ((B.N.at (i) (l4 w i (by omega))).M d) e9) k ?_;refine O.aX 4 ?_;refine cf kI (k6 _ 6 w0 _ (by omega) (by omega)) (fun dh bz bA=>?_);obtain⟨rfl,rfl⟩:=bA;have a9:=aj.refl bz;have ay:=k.L a9;refine⟨.inr ay,?_⟩;refine O.aX 7 ?_;refine cf kI (k6 _ 11 w0 _ (by omega) (by omega)) (fun di bC bE=>?_);obtain⟨rfl,rfl⟩:=bE;have bj:=aj.refl bC;have af:=ay.L bj;refine⟨.inr af,?_⟩;refine O.t1 8 rfl (fun j d=>Y.kA rfl rfl rfl) af ?_;refine O.aX 11 ?_;refine cf kI (k6 _ 25 w0 _ (by omega) (by omega)) (fun cs ag bF=>?_);obtain⟨rfl,rfl⟩:=bF;have cb:=aj.refl ag;have C:=af.L cb;refine⟨.inr C,?_⟩;refine O.t1 12 rfl (fun j d=>Y.kA rfl rfl rfl) C ?_;refine O.t1 13 rfl (fun j d=>Y.ki rfl rfl rfl) C ?_;refine O.t1 26 rfl (fun j d=>Y.ki rfl rfl rfl) C ?_;refine O.t1 28 rfl (fun j d=>Y.ki rfl rfl rfl) C ?_;refine O.t1 32 rfl (fun j d=>Y.ki rfl rfl rfl) C ?_;refine O.t1 33 rfl (fun j d=>ej) C ?_;refine cx ?_;have aA:=C;refine aI (G.t1 (fun cc=>?_));refine dx (fun j=>aj ag j) [] ?_;have k:=aj.refl ag;refine O.t1 0 rfl (fun j d=>eZ (t.N.M d) (0) fY ey) k ?_;refine O.t1 1 rfl (fun j d=>ar (t.N.M d) e9) k ?_;refine O.t1 3 rfl (fun j d=>eZ (t.N.M d) (0) fY ey) k ?_;refine O.t1 4 rfl (fun j d=>ar (t.N.M d) e9) k ?_;refine O.t1 7 rfl (fun j d=>eZ (t.N.M d) (0) fY ey) k ?_;refine O.t1 8 rfl (fun j d=>ar (t.N.M d) e9) k ?_;refine O.t1 11 rfl (fun j d=>eZ (t.N.M d) (0) fY ey) k ?_;refine O.t1 12 rfl (fun j d=>ar (t.N.M d) e9) k ?_;refine O.t1 13 rfl (fun j d=>eZ (t.N.M d) (1) fY ey) k ?_;refine O.t1 14 rfl (fun j d=>ar ((t.N.drop 1).M d) e9) k ?_;refine O.t1 15 rfl (fun j d=>Y.ov rfl rfl rfl) k ?_;refine O.t1 16 rfl (fun j d=>eZ (t.N.M d) (0) fY ey) k ?_;refine O.t1 17 rfl (fun j d=>ar (t.N.M d) e9) k ?_;refine O.t1 18 rfl (fun j d=>eZ (t.N.M d) (2) fY ey) k ?_;refine O.t1 19 rfl (fun j d=>ar ((t.N.drop 2).M d) e9) k ?_;refine O.t1 20 rfl (fun j d=>Y.ov rfl rfl rfl) k ?_;refine O.t1 21 rfl (fun j d=>Y.kA rfl rfl rfl) k ?_;refine O.t1 22 rfl (fun j d=>eZ (t.N.M d) (1) fY ey) k ?_;refine O.t1 23 rfl (fun j d=>ar ((t.N.drop 1).M d) e9) k ?_;refine O.t1 24 rfl (fun j d=>eZ (t.N.M d) (2) fY ey) k ?_;refine O.t1 25 rfl (fun j d=>ar ((t.N.drop 2).M d) e9) k ?_;refine O.t1 26 rfl (fun j d=>Y.ov rfl rfl rfl) k ?_;refine O.t1 27 rfl (fun j d=>Y.kA rfl rfl rfl) k ?_;refine O.aX 2 ?_;refine cf kI (k6 _ 2 w0 _ (by omega) (by omega)) (fun cT bT be=>?_);obtain⟨rfl,rfl⟩:=be;have bo:=aj.refl bT;have al:=k.L bo;refine⟨.inr al,?_⟩;refine O.aX 5 ?_;refine cf kI (k6 _ 13 w0 _ (by omega) (by omega)) (fun cW bY cd=>?_);obtain⟨rfl,rfl⟩:=cd;have bp:=aj.refl bY;have ae:=al.L bp;refine⟨.inr ae,?_⟩;refine O.t1 6 rfl (fun j d=>Y.kA rfl rfl rfl) ae ?_;refine O.aX 9 ?_;refine cf kI (k6 _ 22 w0 _ (by omega) (by omega)) (fun c3 cg bi=>?_);obtain⟨rfl,rfl⟩:=bi;have bq:=aj.refl cg;have N:=ae.L bq;refine⟨.inr N,?_⟩;refine O.t1 10 rfl (fun j d=>Y.kA rfl rfl rfl) N ?_;refine O.t1 28 rfl (fun j d=>Y.ki rfl rfl rfl) N ?_;refine O.t1 29 rfl (fun j d=>ej) N ?_;refine cx ?_;have aA:=N;refine cc (G.region ?_);refine o.ax 2 ?_;refine o.v1 (Y.ki rfl rfl rfl) ?_;refine o.v1 (eZ t.N (0) fY ey) ?_;refine o.v1 (ar t.N e9) ?_;refine o.v1 (eZ t.N (1) fY ey) ?_;refine o.v1 (ar (t.N.drop 1) e9) ?_;refine o.v1 (eZ t.N (2) fY ey) ?_;refine o.v1 (ar (t.N.drop 2) e9) ?_;refine o.v1 (eZ t.N (3) fY ey) ?_;refine o.v1 (ar (t.N.drop 3) e9) ?_;refine o.V ?_;refine o.v1 (Y.ki rfl rfl rfl) ?_;refine o.v1 (eZ t.N (4) fY ey) ?_;refine o.v1 (ar (t.N.drop 4) e9) ?_;refine o.v1 (eZ t.N (5) fY ey) ?_;refine o.v1 (ar (t.N.drop 5) e9) ?_;refine o.v1 (eZ t.N (6) fY ey) ?_;refine o.v1 (ar (t.N.drop 6) e9) ?_;refine o.v1 (Y.build (v:= .agg (pe q (jG.getD i 0) (w.getD i 0)).cells.toArray) rfl rfl (by intro w;kernel_rfl)) ?_;refine o.s1 (S.var t ((pe q (jG.getD i 0) (w.getD i 0)).cells) ((pe q (jG.getD i 0) (w.getD i 0)).cells) rfl rfl rfl rfl (by simp[Value.oneCell']) lD (rfl) (Nat.le_of_ble_eq_true rfl) (rfl)) fun cX bl=>?_;obtain⟨t,cJ⟩:=bl;refine o.nil (aF (a5 (G.region ?_)));refine o.v1 bD ?_;refine o.V (o.nil ?_);refine aP.sub (bg (i+1,pe q (jG.getD i 0) (w.getD i 0)) _ ?_ ?_) ⟨rfl,rfl,rfl,rfl,(aD (by omega)),trivial⟩
    ·exact⟨by omega,by rw[a0];rfl,t,M.trans cJ (fun _ _ e=>e) (fun _ _ e=>e)⟩
    ·show 64-(i+1)<64-i;omega
   ·
    have ai:i=64:=by omega
    subst ai;rw[E]at a0;have cy:(uz st q).list=(compress st wt).list:=by rw[a0];rfl
    refine G.exit (a4 (bh (bf ?_)));refine bc (G.t1 (fun aB=>G.L (fun cj=>?_)));refine o.v1 (aT t.N rK lD (rfl)) ?_;refine o.V (o.nil (cj ?_));refine G.aB (fun _ ck _=>?_)
    refine G.bg (fun(i:(Nat))=>[(0,.pointer (some ⟨aw,0,none⟩)),(160,.agg q.cells.toArray),(161,.int .i64 i)])
     (fun(i:(Nat)) (H:Heap)=>i≤8∧Var 356 H aw (av (lR st.list q.list i) wt n au)∧W (fun c=>c=aw) ab H)
     (fun(i:(Nat))=>8-i) 0 ⟨rfl,rfl,rfl,trivial⟩ ?_ ?_
    ·
     exact⟨by omega,A,W.refl _ _⟩
    intro i dk cv bm cl cm;obtain⟨cD,A,Z⟩:=cv;have ah:=Ab st.list q.list i rfl rfl cD;refine G.L (fun cn=>?_);refine o.v1 bJ (o.nil (cn ?_));refine G.t2 (fun cq br=>?_);refine aU (fun cr=>?_) (fun cr=>?_)
    ·
     refine G.skip (cq (G.t1 (fun ct=>G.aB (fun cu _ _=>G.L (fun bv=>?_)))));refine o.V ?_;refine o.v1 (Y.rR (i) rfl fY ey e9 rfl rfl (by first|rfl|omega) (by omega) (by rw[List.getElem?_toArray];exact l4 q.list i (by simp;omega))) ?_;refine o.aQ 2 ?_;refine bv ?_;refine iW 11 (fun cR cw=>?_);refine o.ax 3 ?_;refine o.v1 (Y.ai A.N rfl iV rfl lD) ?_;refine o.v1 (eZ A.N (i) fY ey) ?_;refine o.v1 (ar (A.N.at (i) (DG i (by omega))) e9) ?_;rw[Aa st.list q.list i rfl rfl (by omega)];refine o.V ?_;refine o.v1 (Y.ki rfl rfl rfl) ?_;refine o.bH ?_;refine o.v1 (Y.ai A.N rfl iV rfl lD) ?_;refine o.v1 (eZ A.N (i) fY ey) ?_;refine o.nil (cw _ ?_);refine o.s1 (dj A (0+(i)) (_) (rfl) ey (by rw[lu ah hw];omega) (DE i (by omega) _)) fun cZ am=>?_;obtain⟨A,cK⟩:=am;refine o.nil (cu (ct (G.region ?_)));refine o.v1 bD ?_;refine o.V (o.nil ?_);refine aP.sub (cl (i+1) _ ?_ ?_) ⟨rfl,rfl,(aD (by omega)),trivial⟩
     ·exact⟨by omega,by rw[←Ac st.list q.list i rfl rfl (by omega)];exact A,Z.trans cK (fun _ _ e=>e) (fun _ _ e=>e)⟩
     ·omega
    ·
     have cG:i=8:=by omega
     subst cG;refine G.exit (br (cm (ck ?_)));refine aB (G.region ?_);refine o.ax 2 ?_;refine o.v1 (Y.ai A.N rfl iV rfl b0) ?_;refine o.s1 (dj A 72 (_) (rfl) b0 (by rw[lu ah hw];omega) (wW (m:=0) ah hw)) fun c1 bs=>?_;obtain⟨A,aE⟩:=bs;refine o.nil ?_;refine cH .normal (.inl rfl) _ _ _ (iR rfl) ?_;refine⟨rfl,by rw[←cy];exact A,⟨by have:=X.size;have:=hm.size;have:=T.size;have:=R.size;have:=P.size;have:=L.size;have:=M.size;have:=Z.size;have:=aE.size;omega,fun b dm az=>?_⟩⟩;have dt:=X.size;have du:=hm.size;have dv:=T.size;have dw:=R.size;have dy:=P.size;have dz:=L.size;have dA:=M.size;have dC:=Z.size;rw[aE.same b (by omega) az,Z.same b (by omega) az,M.same b (by omega) (by omega),L.same b (by omega) (fun e=>e),P.same b (by omega) (by omega),R.same b (by omega) (fun e=>e),T.same b (by omega) (by omega),hm.same b (by omega) (by omega),X.same b (by omega) (fun e=>e)]
end mz

namespace nk
open E Go.RowKit my lM mz
def eu:gb:=⟨0x6a09e667,0xbb67ae85,0x3c6ef372,0xa54ff53a,0x510e527f,0x9b05688c,0x1f83d9ab,0x5be0cd19⟩
def run(s:gb)(b:List UInt8):gb×List UInt8:=if h:b.length<64 then(s,b)else run (compress s (b.take 64)) (b.drop 64)
termination_by b.length
decreasing_by simp; omega
theorem k1(s:gb)(b:List UInt8)(h:b.length<64):run s b=(s,b):=by rw[run,dif_pos h]
theorem pf(s:gb)(b:List UInt8)(h:64≤b.length):run s b=run (compress s (b.take 64)) (b.drop 64):=by rw[run,dif_neg (by omega)]
theorem GK:∀(n:Nat) (s:gb) (b:List UInt8),b.length≤n→(run s b).2.length<64:=by
 intro n
 induction n with
 |zero=>intro s b h;rw[k1 s b (by omega)];simp;omega
 |succ n ih=>
  intro s b h;by_cases aw:b.length<64
  ·rw[k1 s b aw];exact aw
  ·rw[pf s b (by omega)];exact ih _ _ (by simp;omega)
theorem GF:∀(n:Nat) (s:gb) (a b:List UInt8),a.length≤n→run s (a++b)=run (run s a).1 ((run s a).2++b):=by
 intro n
 induction n with
 |zero=>intro s a b h;rw[k1 s a (by omega)]
 |succ n ih=>
  intro s a b h;by_cases d:a.length<64
  ·rw[k1 s a d]
  ·rw[pf s a (by omega),pf s (a++b) (by simp;omega),List.take_append_of_le_length (by omega),List.drop_append_of_le_length (by omega)]
   exact ih _ _ _ (by simp;omega)
theorem yI(s:gb)(a b:List UInt8):run s (a++b)=run (run s a).1 ((run s a).2++b):=GF _ s a b (Nat.le_refl _)
theorem yJ(s:gb)(b:List UInt8):(run s b).2.length<64:=GK _ s b (Nat.le_refl _)
theorem DF{s:List UInt32}{wt xs:List UInt8}{n m:Nat}{au:UInt64}(al:s.length=8)(hw:wt.length=64)(h:m+xs.length≤64):ed (av s wt n au) (8+m) (xs.flatMap a1)=av s (wt.take m++xs++wt.drop (m+xs.length)) n au:=by
 have d:(s.map fh).length=8:=by simpa using al
 have i:(xs.flatMap a1).length=xs.length:=by rw[length_flatMap eE,Nat.mul_one]
 have e:∀(wt:List UInt8),av s wt n au=s.map fh++(wt.map hI++[.int .i64 n,.int .u64 au.toNat]):=fun wt=>by rw[av,List.append_assoc]
 rw[ed,i,e,e,List.take_append,List.take_of_length_le (by omega),d,show 8+m-8=m by omega,List.drop_append,List.drop_of_length_le (by omega),d,List.nil_append,show 8+m+xs.length-8=m+xs.length by omega];rw[List.take_append_of_le_length (by simp;omega),List.drop_append_of_le_length (by simp;omega),oO];simp[List.map_append,List.map_take,List.map_drop]
structure jq (H:Heap) (aw:Nat) (m:List UInt8) (au:UInt64):Prop where
 ex:∃wt:List UInt8,wt.length=64∧Var 356 H aw (av (run eu m).1.list wt (run eu m).2.length au)∧wt.take (run eu m).2.length=(run eu m).2
theorem jq.M{H aa:Heap}{aw:Nat}{m:List UInt8}{au:UInt64}(h:jq H aw m au)(s:aj H aa):jq aa aw m au:=let⟨wt,d,U,i⟩:=h.ex;⟨wt,d,U.M s,i⟩
theorem jq.up{H aa:Heap}{aw:Nat}{m:List UInt8}{au:UInt64}{S:Nat→Prop}(h:jq H aw m au)(s:W S H aa)(j:¬S aw):jq aa aw m au:=let⟨wt,d,U,i⟩:=h.ex;⟨wt,d,U.up s j,i⟩
theorem jq.lt{H:Heap}{aw:Nat}{m:List UInt8}{au:UInt64}(h:jq H aw m au):aw<H.size:=let⟨_,_,U,_⟩:=h.ex;U.lt
def cat(l:List (aN×List UInt8)):List UInt8:=l.flatMap (·.2)
theorem vF(l:List (aN×List UInt8))(k:Nat)(h:k<l.length):cat (l.take (k+1))=cat (l.take k)++(l[k]).2:=by
 unfold cat;rw[List.take_succ_eq_append_getElem h,List.flatMap_append];simp
theorem s6 (w0:World)(I:Heap)
 :
 aC Tryz.prog w0 256 #[] I (fun r d=>r= .pointer (some ⟨I.size,0,none⟩)∧jq d I.size [] 0∧aj I d∧d.size=I.size+1):=by
 refine aC.aK [] Tryz.func256 ?_;intro t q;refine G.L (fun k=>?_);refine o.ak ?_;refine k (G.L (fun n=>?_));refine o.v1 (Y.build (v:= .agg (eu.list.map fh).toArray) rfl rfl (by intro w;kernel_rfl)) ?_;refine o.v1 (Y.build (v:= .agg (av eu.list (List.replicate 64 0) 0 0).toArray) rfl rfl (by intro w;kernel_rfl)) ?_;refine o.aO cq ?_;rintro v3 j ⟨rfl,i,ac,x,ad⟩;replace i:Var 356 j I.size (av eu.list (List.replicate 64 0) 0 0):=i;refine o.ak ?_;refine n ?_;refine G.ret (q ?_);exact⟨rfl,⟨List.replicate 64 0,by simp,by rw[k1 eu [] (by simp)];exact i,by rw[k1 eu [] (by simp)];rfl⟩,ac,by rw[ad];simp⟩
theorem GN{c x wt:List UInt8}{n:Nat}(aA:(run eu c).2.length=n)(aw:wt.take n=(run eu c).2)(hw:wt.length=64)(h:n+x.length<64):run eu (c++x)=((run eu c).1,wt.take n++x):=by
 rw[yI,k1 _ _ (by simp;omega),aw]
theorem GJ{c x wt:List UInt8}{n:Nat}(aA:(run eu c).2.length=n)(aw:wt.take n=(run eu c).2)(hw:wt.length=64)(h:n+x.length=64):run eu (c++x)=(compress (run eu c).1 (wt.take n++x++wt.drop (n+x.length)),[]):=by
 have d:(wt.take n++x).length=64:=by simp;omega
 rw[yI,←aw,pf _ _ (by omega),List.take_of_length_le (by omega),List.drop_of_length_le (by omega),k1 _ _ (by simp),List.drop_of_length_le (show wt.length≤n+x.length by omega),List.append_nil]
theorem DZ{wt x:List UInt8}{n:Nat}(hw:wt.length=64)(h:n+x.length≤64):(wt.take n++x++wt.drop (n+x.length)).length=64∧(wt.take n++x++wt.drop (n+x.length)).take (n+x.length)=wt.take n++x:=by
 have d:(wt.take n++x).length=n+x.length:=by simp;omega
 exact⟨by simp;omega,List.take_left' d⟩
theorem rm(aw:Nat)(M:Value)(m:List UInt8)(au:UInt64)(l:List (aN×List UInt8))(w0:World)(I:Heap)
 (E:jq I aw m au) (Q:Rd (fun b=>b≠aw) I iG 1 M l) (bd:∀x∈l,Rd (fun b=>b≠aw) I a1 1 x.1.v x.2):
 aC Tryz.prog w0 257 #[.pointer (some ⟨aw,0,none⟩),M] I (fun r R=>r= .tuple #[]∧jq R aw (m++cat l) (au+UInt64.ofNat (cat l).length)∧W (fun c=>c=aw) I R):=by
 refine aC.enter (args:=[.pointer (some ⟨aw,0,none⟩),M]) Tryz.func257 rfl rfl rfl ?_;intro bg ba;have bx:=Q.len;refine G.L (fun aZ=>?_);refine o.V ?_;refine o.v1 (bb Q h7) ?_;refine o.V (o.nil (aZ ?_));refine G.aB (fun _ a6 _=>?_)
 refine G.bg (fun(k:(Nat))=>[(0,.pointer (some ⟨aw,0,none⟩)),(7,M),(8,.int .i64 l.length),(9,.int .i64 k)])
  (fun(k:(Nat)) (H:Heap)=>k≤l.length∧jq H aw (m++cat (l.take k)) (au+UInt64.ofNat (cat (l.take k)).length)∧W (fun c=>c=aw) I H)
  (fun(k:(Nat))=>l.length-k) 0 ⟨rfl,rfl,rfl,rfl,trivial⟩ ?_ ?_
 ·
  exact⟨by omega,by simpa[cat]using E,W.refl _ _⟩
 intro k bl ae od af ag;obtain⟨bu,E,hm⟩:=ae;obtain⟨wt,j,d,C⟩:=E.ex;have O:=Q.up hm (fun _ _ q U=>q U);refine G.L (fun ah=>?_);refine o.v1 bJ (o.nil (ah ?_));refine G.t2 (fun ai ak=>?_);refine aU (fun al=>?_) (fun al=>?_)
 ·
  refine G.skip (ai (G.t1 (fun aq=>G.aB (fun ay _ _=>G.L (fun az=>?_)))));refine o.bR (Y.indexAddr O (k) rfl h7 db rfl rfl (by first|rfl|omega) (by first|omega|(simp;omega)|(simp;done))) fun bj aL=>?_;refine o.v1 (ar aL eD) ?_;have B:=(bd l[k] (List.getElem_mem _)).up hm (fun _ _ q U=>q U);have bc:=B.len;refine o.ak ?_;refine az (G.L (fun aB=>?_));refine o.ax 2 ?_;refine o.v1 (Y.ai d.N rfl iV rfl qY) ?_;refine o.v1 (ar (d.N.at 73 (wV rfl j)) uu) ?_;refine o.V ?_;refine o.v1 (bb B dc) ?_;refine o.v1 (Y.hA rfl gn gU rfl) ?_;refine o.v1 (Y.Ae rfl rfl rfl) ?_;refine o.bH ?_;refine o.v1 (Y.ai d.N rfl iV rfl qY) ?_;refine o.s1 (dj d 73 (_) (rfl) qY (by rw[lu rfl j];omega) (DD rfl j)) fun bt aK=>?_;obtain⟨d,ab⟩:=aK;replace hm:=hm.trans ab (fun _ _ e=>e) (fun _ _ e=>e);replace B:=B.up ab (fun _ _ q U=>q U);refine o.nil (aB (G.aB (fun _ aM _=>?_)))
  refine G.bg (fun(bf:(Value)×(List UInt8)×(List UInt8)×(List UInt8))=>match bf with|(v,r,c,wt)=>[(0,.pointer (some ⟨aw,0,none⟩)),(5,v),(7,M),(8,.int .i64 l.length),(9,.int .i64 k)])
   (fun(v,r,c,wt) (H:Heap)=>wt.length=64∧Var 356 H aw (av (run eu c).1.list wt (run eu c).2.length (au+UInt64.ofNat (cat (l.take k)).length+UInt64.ofNat (l[k]).2.length))∧wt.take (run eu c).2.length=(run eu c).2∧Rd (fun b=>b≠aw) H a1 1 v r∧c++r=m++cat (l.take k)++(l[k]).2∧W (fun c=>c=aw) I H)
   (fun(v,r,c,wt)=>r.length) ((l[k]).1.v,(l[k]).2,m++cat (l.take k),wt) ⟨rfl,rfl,rfl,rfl,rfl,trivial⟩ ?_ ?_
  ·
   exact⟨j,d,C,B,rfl,hm⟩
  rintro⟨v,r,c,wt⟩ bm aE bn S aO;obtain⟨j,d,C,t,N,hm⟩:=aE;have bc:=t.len;refine G.t2 (fun aQ aR=>G.L (fun am=>?_));refine o.V ?_;refine o.v1 (bb t dc) ?_;refine o.v1 eY (o.nil (am ?_));refine aU (fun aF=>?_) (fun aF=>?_)
  ·
   refine G.skip (aQ (G.aB (fun ac _ _=>G.t1 (fun aS=>?_))));have a_:=yJ eu c;obtain⟨n,aA⟩:∃n,(run eu c).2.length=n:=⟨_,rfl⟩;rw[aA]at d C a_;obtain⟨gk,bw⟩:∃gk,min r.length (64-n)=gk:=⟨_,rfl⟩;have P:(r.take gk).length=gk:=by simp;omega
   obtain⟨A,a8⟩:=DZ (x:=r.take gk) (n:=n) j (by omega);refine iW 9 (fun bh a7=>?_);refine o.ax 2 ?_;refine o.v1 (Y.ai d.N rfl iV rfl yN) ?_;refine o.ax 2 ?_;refine o.v1 (Y.ai d.N rfl iV rfl b0) ?_;refine o.v1 (ar (d.N.at 72 (qs rfl j)) cj) ?_;refine o.v1 ((Y.yU (F:=fun c=>c=aw) (f:=a1) (xs:=wt) (d.N.drop 8) rfl d.lt (j) (fun i x h=>wX rfl i x h) (n) (64) rfl (fun w=> .inl (zw w)) cN rfl (.inr ⟨_,_,_,rfl,rfl,by first|rfl|omega⟩) (.inl ⟨rfl,rfl⟩) (by omega) (by omega) (by decide)).1 _) ?_;rw[if_neg (by omega)];refine o.V ?_;refine o.nil (a7 _ ?_);refine o.aO (Z.copy (off:=8+n) d t eE fK rfl Tryz.underlying57 cN rfl rfl (by rw[lu rfl j];omega) (gk) (by omega)) fun bo bp aH=>?_;obtain⟨rfl,d,T⟩:=aH;rw[DF rfl j (by omega)]at d;replace t:=t.up T (fun _ _ q U=>q U);replace hm:=hm.trans T (fun _ _ e=>e) (fun _ _ e=>e);refine o.ak ?_;refine aS (G.L (fun ap=>?_));refine o.ax 2 ?_;refine o.v1 (Y.ai d.N rfl iV rfl b0) ?_;refine o.v1 (ar (d.N.at 72 (qs rfl A)) cj) ?_;refine o.V ?_;refine o.v1 bD ?_;refine o.bH ?_;refine o.v1 (Y.ai d.N rfl iV rfl b0) ?_;refine o.s1 (dj d 72 (av (run eu c).1.list (wt.take n++r.take gk++wt.drop (n+(r.take gk).length)) (n+gk) (au+UInt64.ofNat (cat (l.take k)).length+UInt64.ofNat (l[k]).2.length)) (rfl) b0 (by rw[lu rfl A];omega) (by rw[←wW (m:=n+gk) (n:=n) rfl A,Int.natCast_add])) fun bk aT=>?_;obtain⟨d,X⟩:=aT;replace t:=t.up X (fun _ _ q U=>q U);replace hm:=hm.trans X (fun _ _ e=>e) (fun _ _ e=>e);refine o.nil (ap (G.L (fun aX=>?_)));refine o.ax 2 ?_;refine o.aK (g:=fun v=>v) (Y.slice t (gk) (_) rfl dc cN rfl (.inr ⟨_,_,_,rfl,rfl,by first|rfl|omega⟩) (.inl ⟨rfl,rfl⟩) (by omega) (by omega)) fun aa L=>?_;rw[List.take_length]at L;refine o.ak ?_;refine aX (G.L (fun aY=>?_));refine o.ax 2 ?_;refine o.v1 (Y.ai d.N rfl iV rfl b0) ?_;refine o.v1 (ar (d.N.at 72 (qs rfl A)) cj) ?_;refine o.v1 b9 (o.nil (aY ?_));refine aU (fun aI=>?_) (fun aI=>?_)
   ·
    refine G.region ?_;refine o.V ?_;refine aW BK (AJ aw _ _ _ _ w0 _ d A) (fun bq bs aJ=>?_);obtain⟨rfl,d,V⟩:=aJ;replace L:=L.up V (fun _ _ q U=>q U);replace hm:=hm.trans V (fun _ _ e=>e) (fun _ _ e=>e);refine o.nil (ac ?_);have K:=GJ (x:=r.take gk) (c:=c) (wt:=wt) aA C j (by omega);refine aP.sub (S (aa,r.drop gk,c++r.take gk,wt.take n++r.take gk++wt.drop (n+(r.take gk).length)) _ ?_ ?_) ⟨rfl,rfl,rfl,(aD (by omega)),(aD (by omega)),trivial⟩
    ·exact⟨A,by rw[K];exact d,by rw[K];rfl,L,by rw[List.append_assoc,List.take_append_drop];exact N,hm⟩
    ·show(r.drop gk).length<r.length;rw[List.length_drop];omega
   ·
    refine G.skip (ac ?_);have K:=GN (x:=r.take gk) (c:=c) (wt:=wt) aA C j (by omega);have O:(wt.take n++r.take gk).length=n+gk:=by rw[List.length_append,List.length_take];omega
    refine aP.sub (S (aa,r.drop gk,c++r.take gk,wt.take n++r.take gk++wt.drop (n+(r.take gk).length)) _ ?_ ?_) ⟨rfl,rfl,rfl,(aD (by omega)),(aD (by omega)),trivial⟩
    ·exact⟨A,by rw[K];simp only;rw[O];exact d,by rw[K];simp only;rw[O];simpa only[P]using a8,L,by rw[List.append_assoc,List.take_append_drop];exact N,hm⟩
    ·show(r.drop gk).length<r.length;rw[List.length_drop];omega
  ·
   have B:r=[]:=List.eq_nil_of_length_eq_zero (by omega);subst B;rw[List.append_nil]at N;subst N;refine G.exit (aR (aO (aM ?_)));refine ay (aq (G.region ?_));refine o.v1 bD ?_;refine o.V (o.nil ?_);refine aP.sub (af (k+1) _ ?_ ?_) ⟨rfl,rfl,(aD (by omega)),(aD (by omega)),trivial⟩
   ·exact⟨by omega,⟨wt,j,by rw[vF l k (by omega),←List.append_assoc,List.length_append,UInt64.ofNat_add,←UInt64.add_assoc];exact d,by rw[vF l k (by omega),←List.append_assoc];exact C⟩,hm⟩
   ·omega
 ·
  refine G.exit (ak (ag (a6 ?_)));refine ba .normal (.inl rfl) _ _ _ (iR rfl) ?_;have P:k=l.length:=by omega
  subst P;rw[List.take_length]at E;exact⟨rfl,E,hm⟩
end nk

namespace rG
open E Go.RowKit my lM mz nk
def cm:Nat→UInt64→List UInt8
 |0,_=>[]
 |j+1,x=>UInt8.ofNat (iS x (8*j)).toNat::cm j x
theorem dT:∀(n:Nat) (x:UInt64),(cm n x).length=n
 |0,_=>rfl
 |n+1,x=>by rw[cm,List.length_cons,dT]
end rG

namespace oo
open E Go.RowKit my lM mz nk rG
def l8(n:Nat):Nat:=(119-n%64)%64
def iP(n:Nat):List UInt8:=0x80::(List.replicate (l8 n) 0++cm 8 (UInt64.ofNat (8*n)))
def lz(s:List UInt32):List UInt8:=(List.range 32).map (fun i=>UInt8.ofNat (jA (s.getD (i/4) 0) (24-8*(i%4))).toNat)
theorem x6(s:List UInt32):(lz s).length=32:=by simp[lz]
def sumOf(m:List UInt8):List UInt8:=lz (run eu (m++iP m.length)).1.list
theorem lE(m:List UInt8):(sumOf m).length=32:=x6 _
theorem EE(w:List UInt8)(j:Nat)(x:UInt8):(w.map hI).set (0+j) (hI x)=(w.set j x).map hI:=by rw[Nat.zero_add,List.map_set]
theorem Hz(w r:List UInt8)(i:Nat)(x:UInt8)(h:w.take i=r.take i)(k:i<w.length)(n:r[i]?=some x):(w.set i x).take (i+1)=r.take (i+1):=by
 have U:=(List.getElem?_eq_some_iff.1 n);obtain⟨d,j⟩:=U;rw[tU _ _ _ k,h,List.take_succ_eq_append_getElem d,j]
theorem FI(s:List UInt32)(i:Nat)(h:i<32):(lz s)[i]?=some (UInt8.ofNat (jA (s.getD (i/4) 0) (24-8*(i%4))).toNat):=by
 simp[lz,h]
end oo

namespace rH
open E Go.RowKit my lM mz nk rG oo
set_option maxRecDepth 100000 in
theorem dC:c4 Tryz.prog 57 5 1 1:=⟨Tryz.underlying57,_,_,rfl,rfl,rfl,rfl,rfl⟩
set_option maxRecDepth 100000 in
theorem lv:c4 Tryz.prog 104 57 1 24:=⟨Tryz.underlying104,_,_,rfl,rfl,rfl,rfl,rfl⟩
theorem Is:∀w,(zeroValue 356).run Tryz.prog w= .ok (.agg (av (List.replicate 8 0) (List.replicate 64 0) 0 0).toArray) w:=fun w=>by kernel_rfl
theorem Hc{cs d:List Value}(h:cs.length=d.length):ed cs 0 d=d:=by simp[ed,←h]
theorem DC(s:List UInt32)(wt:List UInt8)(n:Nat)(au:UInt64):∀u∈av s wt n au,u.oneCell'=true:=by
 intro u hu;simp only[av,List.mem_append,List.mem_map,List.mem_cons,List.not_mem_nil,or_false]at hu;rcases hu with(⟨x,_,rfl⟩|⟨x,_,rfl⟩)|rfl|rfl<;>rfl
theorem GM:∀(n:Nat) (s:gb) (b:List UInt8),b.length≤n→(run s b).2.length=b.length%64:=by
 intro n
 induction n with
 |zero=>intro s b h;rw[k1 s b (by omega)];simp only;omega
 |succ n ih=>
  intro s b h;by_cases aw:b.length<64
  ·rw[k1 s b aw];simp only;omega
  ·rw[pf s b (by omega),ih _ _ (by simp;omega)];simp;omega
theorem GL(s:gb)(b:List UInt8):(run s b).2.length=b.length%64:=GM _ s b (Nat.le_refl _)
theorem FP(z:Nat):(List.replicate (1+z) (0:UInt8)).set 0 0x80=0x80::List.replicate z 0:=by rw[Nat.add_comm,List.replicate_succ,List.set_cons_zero]
theorem FH(s:List UInt32)(i k:Nat)(d:i<8)(j:k<4):(lz s)[4*i+k]?=some (UInt8.ofNat (jA (s.getD i 0) (24-8*k)).toNat):=by
 rw[FI s _ (by omega),show(4*i+k)/4=i by omega,show(4*i+k)%4=k by omega]
theorem F0(aw:Nat)(m:List UInt8)(w0:World)(I:Heap)
 (aK:jq I aw m (UInt64.ofNat m.length)) (dm:m.length≤1099511627776):
 aC Tryz.prog w0 258 #[.pointer (some ⟨aw,0,none⟩)] I (fun r L=>r= .agg ((sumOf m).map hI).toArray∧W (fun c=>False) I L):=by
 refine aC.enter (args:=[.pointer (some ⟨aw,0,none⟩)]) Tryz.func258 rfl rfl rfl ?_;intro cn cg;obtain⟨wt,T,E,aM⟩:=aK.ex;have cd:=yJ eu m;have cf:=GL eu m;obtain⟨n,aA⟩:∃n,(run eu m).2.length=n:=⟨_,rfl⟩;have cb:=aM;rw[aA]at E aM cd cf;have cu:=E.lt;have cv:=aK.lt;have A:W (fun c=>False) I I:=W.refl _ _;refine G.L (fun b2=>?_);refine o.aO (cV nc) ?_;rintro v2 L ⟨rfl,B,aq,cA,b3⟩;have cX:L.size=I.size+1:=by rw[b3];simp
 replace E:=E.M aq;replace A:=A.trans aq (fun b t d=>d) (fun b t d=>d.elim);have cC:=aq.size;have cr:=B.lt;replace B:Var 26 L I.size ((List.replicate 32 (0:UInt8)).map hI):=B;refine o.nil (b2 (G.L (fun b4=>?_)));refine o.ax 2 ?_;refine o.v1 (aT E.N z7 yO (lu rfl T)) ?_;refine o.aO (cV Is) ?_;rintro v3 az ⟨rfl,C,ae,cD,b5⟩;have br:az.size=L.size+1:=by rw[b5];simp
 replace E:=E.M ae;replace A:=A.trans ae (fun b t d=>d) (fun b t d=>d.elim);replace B:=B.M ae;have cG:=ae.size;have ct:=C.lt;replace C:Var 356 az L.size (av (List.replicate 8 0) (List.replicate 64 0) 0 0):=C;refine o.s1 (S.var C (av (run eu m).1.list wt n (UInt64.ofNat m.length)) (av (run eu m).1.list wt n (UInt64.ofNat m.length)) rfl rfl rfl rfl (DC _ _ _ _) yO (lu rfl T) (Nat.le_of_ble_eq_true rfl) (Hc (by rw[lu (by simp) (by simp),lu rfl T]))) fun ai aY=>?_;obtain⟨C,ah⟩:=aY;replace E:=E.up ah (by omega);replace A:=A.trans ah (fun b t d=>d) (fun b t d=>by omega);replace B:=B.up ah (by omega);have cH:=ah.size;refine o.nil (b4 (G.t1 (fun b6=>?_)));have dp:l8 m.length=(119-m.length%64)%64:=rfl;refine G.region ?_;refine o.v1 (Y.ai C.N rfl iV rfl b0) ?_;refine o.v1 (ar (C.N.at 72 (qs rfl T)) cj) ?_;refine o.v1 fH ?_;refine o.v1 (Y.Gi rfl rfl rfl (by omega)) ?_;refine o.v1 bD ?_;refine o.aO (Z.ED (1+l8 m.length) ((0:UInt8)) rfl dC zS rfl eE fK rfl rfl (by first|rfl|omega) (by omega) (by omega)) fun b7 b8 bv=>?_;obtain⟨ac,X,cZ,aZ⟩:=bv;have cS:b8.size=ai.size+1:=by rw[aZ];simp
 replace E:=E.M X;replace A:=A.trans X (fun b t d=>d) (fun b t d=>d.elim);replace B:=B.M X;replace C:=C.M X;have cR:=X.size;have au:=ac.le;refine o.ak ?_;refine b6 (G.L (fun b9=>?_));refine o.V ?_;refine o.v1 (mj ac (0) dc cN) ?_;refine o.s1 (S.FO ac (0) 0 ((0x80:UInt8)) rfl rfl rfl rfl cN (by first|omega|(simp;omega)|(simp;done)) (by decide) (rfl)) fun aH a6=>?_;obtain⟨ac,ad⟩:=a6;replace E:=E.up ad (by omega);replace A:=A.trans ad (fun b t d=>d) (fun b t d=>by omega);replace B:=B.up ad (by omega);replace C:=C.up ad (by omega);have c0:=ad.size;rw[FP]at ac;refine o.nil (b9 (G.t1 (fun ca=>G.L (fun bu=>?_))));refine o.ak ?_;refine bu (G.aB (fun _ bw _=>?_))
 refine G.bg (fun(ab:(Nat)×(Value)×(Nat)×(List UInt8))=>match ab with|(j,O,Q,ys)=>[(0,.pointer (some ⟨aw,0,none⟩)),(2,.pointer (some ⟨I.size,0,none⟩)),(3,.pointer (some ⟨L.size,0,none⟩)),(4,O),(5,.int .i64 (8*(j:Int)-8))])
  (fun(j,O,Q,ys) (H:Heap)=>(j≤8)∧(aV Q 5 H a1 1 O ys)∧(Q=0∨Q=ai.size+1∨aH.size<Q)∧(ys++cm j (UInt64.ofNat (8*m.length))=(0x80::List.replicate (l8 m.length) (0:UInt8))++cm 8 (UInt64.ofNat (8*m.length)))∧W (fun c=>c=ai.size) aH H)
  (fun(j,O,Q,ys)=>j) (8,b7,ai.size+1,(0x80::List.replicate (l8 m.length) (0:UInt8))) ⟨rfl,rfl,rfl,rfl,rfl,trivial⟩ ?_ ?_
 ·
  exact⟨(by omega),ac,(by omega),rfl,W.refl _ _⟩
 rintro⟨j,O,Q,ys⟩ bi bx ck bz bA;obtain⟨di,ac,dk,V,K⟩:=bx;replace E:=E.up K (by omega);replace A:=A.trans K (fun b t d=>d) (fun b t d=>by omega);replace B:=B.up K (by omega);replace C:=C.up K (by omega);have c1:=K.size;have au:=ac.le;have dt:ys.length+j=l8 m.length+9:=by have:=congrArg List.length V;simpa[dT]using this
 have dq:l8 m.length<64:=by rw[l8];omega
 refine G.t2 (fun bC bE=>G.L (fun a7=>?_));refine o.V ?_;refine o.v1 dJ (o.nil (a7 ?_));refine aU (fun bF=>?_) (fun bF=>?_)
 ·
  obtain⟨j,rfl⟩:∃q,j=q+1:=⟨j-1,by omega⟩;refine G.skip (bC (G.t1 (fun a8=>G.aB (fun ba _ _=>G.region ?_))));refine o.ax 3 ?_;refine o.v1 (Y.ai E.N rfl iV rfl qY) ?_;refine o.v1 (ar (E.N.at 73 (wV rfl T)) uu) ?_;refine o.v1 (Y.cast (v2:= .int .u64 (UInt64.ofNat (8*m.length)).toNat) (Y.EV (b:=(UInt64.ofNat 8)) rfl rfl rfl) (by rw[←UInt64.ofNat_mul,Nat.mul_comm])) ?_;refine o.V ?_;refine o.v1 (Y.pj (8*j) rfl rfl rfl (by first|rfl|omega) (by omega)) ?_;refine o.v1 (Y.oH rfl gU jD rfl) ?_;refine o.aO (cT _ ([UInt8.ofNat (iS (UInt64.ofNat (8*m.length)) (8*j)).toNat]) dC eE fK (rfl)) fun c3 bG bI=>?_;obtain⟨aI,am,cI,bb⟩:=bI;have cU:bG.size=bi.size+1:=by rw[bb];simp
  replace A:=A.trans am (fun b t d=>d) (fun b t d=>d.elim);replace ac:=ac.M am
  try replace K:=K.trans am (fun b t d=>d) (fun b t d=>d.elim)
  have c4:=am.size;have cw:=aI.le;refine o.aO (dQ ac aI.rd dC (by first|omega|(simp;omega)) (by first|omega|(simp;omega))) fun bK ce bL=>?_;obtain⟨bN,aJ,cJ,ap⟩:=bL;replace A:=A.trans ap (fun b t d=>d) (fun b t d=>by omega)
  try replace K:=K.trans ap (fun b t d=>d) (fun b t d=>by omega)
  have c8:=ap.size;have cx:=aJ.le;refine o.ak ?_;refine ba (a8 (G.region ?_));refine o.V ?_;refine o.v1 fH ?_;refine o.ak ?_;refine aP.sub (bz (j,bK,bN,ys++[UInt8.ofNat (iS (UInt64.ofNat (8*m.length)) (8*j)).toNat]) _ ?_ ?_) ⟨rfl,rfl,rfl,rfl,(aD (by omega)),trivial⟩
  ·exact⟨(by omega),aJ,(by omega),by rw[←V,List.append_assoc];rfl,K⟩
  ·first|omega|(simp only;omega)|(simp;omega)
 ·
  obtain rfl:j=0:=by omega
  rw[cm,List.append_nil]at V;replace V:ys=iP m.length:=by rw[V];rfl
  subst V;refine G.exit (bE (bA (bw ?_)));refine ca (G.L (fun bc=>?_));refine o.V ?_;refine o.aO (Z.xf _ ([((cl O,iP m.length):aN×List UInt8)]) rfl lv rfl rfl rfl (by decide) (by decide) nB nC (by simp only[List.map_cons,List.map_nil,iG];rw[ac.bl,ac.rd.Co])) fun c9 bO bP=>?_;obtain⟨aE,aa,cK,bd⟩:=bP;have aB:bO.size=bi.size+1:=by rw[bd];simp
  replace A:=A.trans aa (fun b t d=>d) (fun b t d=>d.elim);replace B:=B.M aa;replace C:=C.M aa;replace ac:=ac.M aa;have dU:=aa.size;have cq:=aE.le;refine aW vr (rm L.size _ m (UInt64.ofNat m.length) [((cl O,iP m.length):aN×List UInt8)] w0 _ ⟨wt,T,aA▸C,cb⟩ (aE.rd.imp (fun b _ h=>by omega)) (by intro x aO;simp only[List.mem_singleton]at aO;subst aO;simp only;rw[ac.bl];exact ac.rd.imp (fun b _ h=>by omega))) (fun ci N bQ=>?_);obtain⟨rfl,aL,ay⟩:=bQ;have cc:m++cat [((cl O,iP m.length):aN×List UInt8)]=m++iP m.length:=by simp[cat]
  rw[cc]at aL;obtain⟨du,dr,C,dg⟩:=aL.ex;replace A:=A.trans ay (fun b t d=>d) (fun b t d=>by omega);replace B:=B.up ay (by omega);have cL:=ay.size;refine o.nil (bc (G.L (fun bf=>?_)));refine o.aO (cV nc) ?_;rintro v6 al ⟨rfl,F,af,c_,bR⟩;have cM:al.size=N.size+1:=by rw[bR];simp
  replace A:=A.trans af (fun b t d=>d) (fun b t d=>d.elim);replace B:=B.M af;replace C:=C.M af;have cO:=af.size;have aF:=F.lt;replace F:Var 26 al N.size ((List.replicate 32 (0:UInt8)).map hI):=F;refine o.nil (bf (G.t1 (fun bg=>G.L (fun bh=>?_))));refine o.v1 (Y.ai C.N rfl iV rfl lD) ?_;refine o.v1 (Y.cast (v2:= .agg ((run eu (m++iP m.length)).1.list.map fh).toArray) (aT (C.N.take 8) rK lD (rfl)) (rfl)) ?_;refine o.V (o.nil (bh ?_));refine G.aB (fun _ bj _=>?_)
  refine G.bg (fun(ab:(Nat)×(List UInt8))=>match ab with|(i,J)=>[(2,.pointer (some ⟨I.size,0,none⟩)),(6,.pointer (some ⟨N.size,0,none⟩)),(40,.agg ((run eu (m++iP m.length)).1.list.map fh).toArray),(41,.int .i64 i)])
   (fun(i,J) (H:Heap)=>(i≤8)∧(J.length=32)∧(J.take (4*i)=(lz (run eu (m++iP m.length)).1.list).take (4*i))∧(Var 26 H N.size (J.map hI))∧W (fun c=>c=N.size) al H)
   (fun(i,J)=>8-i) (0,List.replicate 32 0) ⟨rfl,rfl,rfl,rfl,trivial⟩ ?_ ?_
  ·
   exact⟨(by omega),by simp,by simp,F,W.refl _ _⟩
  rintro⟨i,J⟩ bS bU da bk bl;obtain⟨dh,ak,P,F,M⟩:=bU;replace A:=A.trans M (fun b t d=>d) (fun b t d=>by omega);replace B:=B.up M (by omega);have cP:=M.size;have aF:=F.lt;refine G.L (fun bm=>?_);refine o.v1 bJ (o.nil (bm ?_));refine G.t2 (fun a0 a2=>?_);refine aU (fun bq=>?_) (fun bq=>?_)
  ·
   refine G.skip (a0 (G.t1 (fun a3=>G.aB (fun a4 _ _=>G.L (fun a5=>?_)))));refine o.V ?_;refine o.v1 (Y.rR (i) rfl fY ey e9 rfl rfl (by first|rfl|omega) (by omega) ((by rw[List.getElem?_toArray];exact l4 (run eu (m++iP m.length)).1.list i (by simp;omega)))) ?_;refine o.aQ 2 ?_;refine a5 (G.L (fun aQ=>?_));refine o.V (o.nil (aQ ?_));refine G.aB (fun _ aR _=>?_)
   refine G.bg (fun(ab:(Nat)×(List UInt8))=>match ab with|(k,J)=>[(2,.pointer (some ⟨I.size,0,none⟩)),(6,.pointer (some ⟨N.size,0,none⟩)),(7,.int .i64 i),(8,.int .u32 ((run eu (m++iP m.length)).1.list.getD i 0).toNat),(40,.agg ((run eu (m++iP m.length)).1.list.map fh).toArray),(41,.int .i64 i),(45,.int .i64 k)])
    (fun(k,J) (H:Heap)=>(k≤4)∧(J.length=32)∧(J.take (4*i+k)=(lz (run eu (m++iP m.length)).1.list).take (4*i+k))∧(Var 26 H N.size (J.map hI))∧W (fun c=>c=N.size) bS H)
    (fun(k,J)=>4-k) (0,J) ⟨rfl,rfl,rfl,rfl,rfl,rfl,rfl,trivial⟩ ?_ ?_
   ·
    exact⟨(by omega),ak,P,F,W.refl _ _⟩
   rintro⟨k,J⟩ db bs de aS a9;obtain⟨df,ak,P,F,R⟩:=bs;replace A:=A.trans R (fun b t d=>d) (fun b t d=>by omega)
   try replace M:=M.trans R (fun b t d=>d) (fun b t d=>by omega)
   have cy:=R.size;have aF:=F.lt;refine G.L (fun bn=>?_);refine o.v1 bJ (o.nil (bn ?_));refine G.t2 (fun bV bX=>?_);refine aU (fun bt=>?_) (fun bt=>?_)
   ·
    refine G.skip (bV (G.t1 (fun bZ=>G.aB (fun bT _ _=>G.L (fun be=>?_)))));refine o.aQ 2 ?_;refine be (G.region ?_);refine o.V ?_;refine o.v1 (Y.jx rfl rfl rfl (by omega)) ?_;refine o.V ?_;refine o.v1 bD ?_;refine o.ax 2 ?_;refine o.v1 (Y.jx rfl rfl rfl (by omega)) ?_;refine o.v1 fH ?_;refine o.v1 (Y.q6 (24-8*k) rfl rfl rfl (by omega) (by omega)) ?_;refine o.v1 (Y.oH rfl pv jD rfl) ?_;refine o.v1 (eZ F.N (4*i+k) k9 cN) ?_;refine o.s1 (dj F (0+(4*i+k)) (_) (rfl) cN (by simp;omega) (EE J (4*i+k) _)) fun bY bo=>?_;obtain⟨F,ag⟩:=bo;replace A:=A.trans ag (fun b t d=>d) (fun b t d=>by omega)
    try replace M:=M.trans ag (fun b t d=>d) (fun b t d=>by omega)
    try replace R:=R.trans ag (fun b t d=>d) (fun b t d=>by omega)
    have cz:=ag.size;refine o.nil (bT (bZ (G.region ?_)));refine o.v1 bD ?_;refine o.V (o.nil ?_);refine aP.sub (aS (k+1,J.set (4*i+k) (UInt8.ofNat (jA ((run eu (m++iP m.length)).1.list.getD i 0) (24-8*k)).toNat)) _ ?_ ?_) ⟨rfl,rfl,(aD (by omega)),(aD (by omega)),rfl,(aD (by omega)),(aD (by omega)),trivial⟩
    ·exact⟨(by omega),by simp[ak],Hz J _ (4*i+k) _ P (by omega) (FH _ i k (by omega) (by omega)),F,R⟩
    ·first|omega|(simp only;omega)|(simp;omega)
   ·
    obtain rfl:k=4:=by omega
    rw[show 4*i+4=4*(i+1)by omega]at P;refine G.exit (bX (a9 (aR ?_)));refine a4 (a3 (G.region ?_));refine o.v1 bD ?_;refine o.V (o.nil ?_);refine aP.sub (bk (i+1,J) _ ?_ ?_) ⟨rfl,rfl,rfl,(aD (by omega)),trivial⟩
    ·exact⟨(by omega),ak,P,F,M⟩
    ·first|omega|(simp only;omega)|(simp;omega)
  ·
   obtain rfl:i=8:=by omega
   rw[List.take_of_length_le (by omega),List.take_of_length_le (by rw[x6];omega),show lz (run eu (m++iP m.length)).1.list=sumOf m from rfl]at P;subst P;refine G.exit (a2 (bl (bj ?_)));refine bg (G.L (fun b1=>?_));refine o.v1 (aT F.N b_ a_ (rfl)) ?_;refine o.s1 (S.var B ((sumOf m).map hI) ((sumOf m).map hI) rfl rfl rfl rfl (by intro u hu;obtain⟨x,_,rfl⟩:=List.mem_map.1 hu;rfl) a_ (rfl) (by simp[lE]) (by simp[ed,lE])) fun cW aX=>?_;obtain⟨B,bp⟩:=aX;replace A:=A.trans bp (fun b t d=>d) (fun b t d=>by omega);refine o.nil (b1 ?_);refine G.ret (cg .ret (.inr rfl) _ _ _ (j6 rfl rfl B.N b_ a_ (by first|rfl|simp)) ?_);exact⟨rfl,A⟩
theorem Fw(n:Nat):(0:UInt64)+UInt64.ofNat n=UInt64.ofNat n:=by simp
theorem FW(K:Value)(l:List (aN×List UInt8))(w0:World)(I:Heap)
 (q:bx I iG 1 K l) (t:∀x∈l,bx I a1 1 x.1.v x.2) (P:(cat l).length≤1099511627776):
 aC Tryz.prog w0 224 #[K] I (fun r A=>r= .agg ((sumOf (cat l)).map hI).toArray∧W (fun c=>False) I A):=by
 refine aC.enter (args:=[K]) Tryz.func224 rfl rfl rfl ?_;intro X Q;replace q:=q.lt;replace t:=fun x n=>(t x n).lt;have k:W (fun c=>False) I I:=W.refl _ _;refine G.L (fun M=>?_);refine o.aO (cV nc) ?_;rintro v2 A ⟨rfl,i,ad,ab,N⟩;have Z:A.size=I.size+1:=by rw[N];simp
 replace q:=q.M ad;replace t:=fun x n=>(t x n).up ad (fun b j d H=>H);replace k:=k.trans ad (fun b j d=>d) (fun b j d=>d.elim);have ae:=ad.size;have Y:=i.lt;replace i:Var 26 A I.size ((List.replicate 32 (0:UInt8)).map hI):=i;refine o.nil (M (G.L (fun au=>?_)));refine aW BH (s6 w0 _) ?_;rintro v4 R ⟨rfl,C,B,am⟩;replace q:=q.M B;replace t:=fun x n=>(t x n).up B (fun b j d H=>H);replace k:=k.trans B (fun b j d=>d) (fun b j d=>d.elim);replace i:=i.M B;have af:=B.size;refine o.ak ?_;refine au (G.L (fun O=>?_));refine o.ax 2 ?_;have ah:=C.lt;refine aW vr (rm A.size _ [] 0 l w0 _ C (q.imp (fun b _ h=>by omega)) (fun x n=>(t x n).imp (fun b _ h=>by omega))) ?_;rintro ai T ⟨rfl,C,E⟩;rw[List.nil_append,Fw]at C;replace k:=k.trans E (fun b j d=>d) (fun b j d=>by omega);replace i:=i.up E (by omega);have ag:=E.size;refine o.nil (O (G.L (fun ap=>?_)));refine o.V ?_;refine aW BI (F0 _ (cat l) w0 _ C P) ?_;rintro v9 V ⟨rfl,F⟩;replace k:=k.trans F (fun b j d=>d) (fun b j d=>d.elim);replace i:=i.M F;have am:=F.size;refine o.s1 (S.var i ((sumOf (cat l)).map hI) ((sumOf (cat l)).map hI) rfl rfl rfl rfl (by intro u hu;obtain⟨x,_,rfl⟩:=List.mem_map.1 hu;rfl) a_ (rfl) (by simp[lE]) (by simp[ed,lE])) fun aa L=>?_;obtain⟨i,ac⟩:=L;replace k:=k.trans ac (fun b j d=>d) (fun b j d=>by omega);refine o.nil (ap ?_);refine G.ret (Q .ret (.inr rfl) _ _ _ (j6 rfl rfl i.N b_ a_ (by first|rfl|simp)) ?_);exact⟨rfl,k⟩
end rH

namespace kh
open E Go.RowKit dz pB oo
abbrev Rec:=List UInt8
def gA:List UInt8:=[83,76,86,71,87,65,76,49]
def jQ(n:Nat)(r:Rec):List UInt8:=(sumOf (dz.cm 8 (UInt64.ofNat n)++r)).take 8
def jf(n:Nat)(r:Rec):List UInt8:=jN r.length++(jQ n r++r)
def ky(n:Nat)(r:Rec):List UInt8:=jf n r++[67]
def e3:Nat→List Rec→List UInt8
 |_,[]=>[]
 |n,r::l=>ky n r++e3 (n+1) l
def cR(l:List Rec):List UInt8:=gA++e3 0 l
theorem vK(n:Nat)(r:Rec):(jQ n r).length=8:=by unfold jQ;rw[List.length_take,lE];rfl
theorem oU(n:Nat)(r:Rec):(jf n r).length=12+r.length:=by unfold jf;rw[List.length_append,List.length_append,vK,uM];omega
theorem tq(n:Nat)(r:Rec):(ky n r).length=13+r.length:=by unfold ky;rw[List.length_append,oU];simp;omega
theorem oI:∀(a b:List Rec) (n:Nat),e3 n (a++b)=e3 n a++e3 (n+a.length) b
 |[],b,n=>rfl
 |r::a,b,n=>by rw[List.cons_append,e3,oI a b (n+1),e3,List.append_assoc,List.length_cons,show n+1+a.length=n+(a.length+1)by omega]
theorem sh(l:List Rec)(r:Rec):cR (l++[r])=cR l++ky l.length r:=by unfold cR;rw[oI,List.append_assoc];simp[e3]
theorem vZ:∀(l:List Rec) (n:Nat),(e3 n l).length=(l.map (fun r=>13+r.length)).sum
 |[],n=>rfl
 |r::l,n=>by rw[e3,List.length_append,vZ l,tq];simp
theorem C8(l:List Rec):(cR l).length=8+(l.map (fun r=>13+r.length)).sum:=by unfold cR;rw[List.length_append,vZ];rfl
def fk(b:List UInt8):Nat:=ln 0 (b.take 4)
def eU(n:Nat)(b:List UInt8):Option Rec:=
 if b.length≤12∨1048576<fk b∨b.length-12≤fk b then none
 else if b.getD (12+fk b) 0=67∧(b.drop 4).take 8=jQ n ((b.drop 12).take (fk b))then some ((b.drop 12).take (fk b))else none
theorem o_{n:Nat}{b:List UInt8}{r:Rec}(h:eU n b=some r):r.length=fk b∧13+r.length≤b.length∧r.length≤1048576:=by
 unfold eU at h;split at h
 ·cases h
 ·rename_i d
  split at h
  ·have e:=Option.some.inj h
   rw[←e,List.length_take,List.length_drop];omega
  ·cases h
def j3:Nat→Nat→List UInt8→List Rec
 |0,_,_=>[]
 |f+1,n,b=>match eU n b with
  |none=>[]
  |some r=>r::j3 f (n+1) (b.drop (13+r.length))
theorem th:∀(f g n:Nat) (b:List UInt8),b.length≤f→b.length≤g→j3 f n b=j3 g n b
 |0,0,_,_,_,_=>rfl
 |0,g+1,n,b,h,_=>by
  have:eU n b=none:=by unfold eU;rw[if_pos (.inl (by omega))]
  simp[j3,this]
 |f+1,0,n,b,_,h=>by
  have:eU n b=none:=by unfold eU;rw[if_pos (.inl (by omega))]
  simp[j3,this]
 |f+1,g+1,n,b,d,U=>by
  unfold j3
  cases h:eU n b with
  |none=>rfl
  |some r=>
   have:=o_ h;simp only;rw[th f g (n+1) _ (by rw[List.length_drop];omega) (by rw[List.length_drop];omega)]
def j4(n:Nat)(b:List UInt8):List Rec:=j3 b.length n b
theorem tj{n:Nat}{b:List UInt8}(h:eU n b=none):j4 n b=[]:=by
 unfold j4
 cases aw:b.length with
 |zero=>rfl
 |succ f=>simp[j3,h]
theorem x_{n:Nat}{b:List UInt8}{r:Rec}(h:eU n b=some r):j4 n b=r::j4 (n+1) (b.drop (13+r.length)):=by
 have d:=o_ h;unfold j4;rw[th b.length (b.length+1) n b (Nat.le_refl _) (by omega),j3,h];show r::j3 b.length (n+1) (b.drop (13+r.length))=_;rw[th b.length _ (n+1) (b.drop (13+r.length)) (by rw[List.length_drop];omega) (Nat.le_refl _)]
theorem AD:∀(a b c d:UInt8),jN (ln 0 [a,b,c,d])=[a,b,c,d]:=fun a b c d=>by
 have i:=a.toNat_lt;have aw:=b.toNat_lt;have av:=c.toNat_lt;have an:=d.toNat_lt;simp only[ln,List.foldl_cons,List.foldl_nil,jN,List.cons.injEq,and_true];refine⟨?_,?_,?_,?_⟩<;>(apply UInt8.toNat.inj;rw[UInt8.toNat_ofNat'];omega)
theorem x2{n:Nat}{b:List UInt8}{r:Rec}(h:eU n b=some r):b=ky n r++b.drop (13+r.length):=by
 have i:=o_ h;unfold eU at h;split at h
 ·cases h
 ·rename_i k
  split at h
  ·rename_i U
   have e:=Option.some.inj h;rw[e,←i.1]at U
   have o:b.take 4=jN r.length:=by
    rw[i.1];unfold fk
    match b,k with
    |a::b::c::d::t,_=>exact(AD a b c d).symm
   have q:(b.drop 12).take r.length=r:=by rw[i.1];exact e
   have A:b.drop (12+r.length)=67::b.drop (13+r.length):=by
    have j:12+r.length<b.length:=by omega
    rw[List.drop_eq_getElem_cons j,show 12+r.length+1=13+r.length by omega];have:=U.1;rw[List.getD_eq_getElem?_getD,List.getElem?_eq_getElem j]at this;rw[show b[12+r.length]=67 from this]
   calc b=b.take 4++b.drop 4:=(List.take_append_drop 4 b).symm
    _=b.take 4++((b.drop 4).take 8++(b.drop 4).drop 8):=congrArg (fun x=>b.take 4++x) (List.take_append_drop 8 (b.drop 4)).symm
    _=jN r.length++(jQ n r++b.drop 12):=by rw[o,U.2,List.drop_drop]
    _=jN r.length++(jQ n r++(r++(b.drop 12).drop r.length)):=by
     rw[show(b.drop 12)=(b.drop 12).take r.length++(b.drop 12).drop r.length from(List.take_append_drop _ _).symm,q];rw[List.drop_left' rfl]
    _=ky n r++b.drop (13+r.length):=by rw[List.drop_drop,A];unfold ky jf;simp
  ·cases h
def gw(b:List UInt8):Nat:=if b.take 8=gA then 0 else 16
def eb(b:List UInt8):List Rec:=if b.take 8=gA then j4 0 (b.drop 8)else[]
def m3(b:List UInt8):Nat:=if b.take 8=gA then(cR (eb b)).length else 0
theorem x8:∀(f:Nat) (n:Nat) (b:List UInt8),∀r∈j3 f n b,r.length≤1048576
 |0,_,_,r,h=>by cases h
 |f+1,n,b,r,h=>by
  unfold j3 at h;split at h
  ·cases h
  ·rename_i x d
   rcases List.mem_cons.1 h with e|h
   ·rw[e];exact(o_ d).2.2
   ·exact x8 f _ _ r h
theorem x7(b:List UInt8):∀r∈eb b,r.length≤1048576:=fun r h=>by
 unfold eb at h;split at h
 ·exact x8 _ _ _ r h
 ·cases h
theorem x9:∀(f n:Nat) (b:List UInt8),b.length≤f→∃t,b=e3 n (j4 n b)++t∧eU (n+(j4 n b).length) t=none
 |0,n,b,h=>by
  have:eU n b=none:=by unfold eU;rw[if_pos (.inl (by omega))]
  rw[tj this];exact⟨b,rfl,by simpa using this⟩
 |f+1,n,b,h=>by
  cases d:eU n b with
  |none=>rw[tj d];exact⟨b,rfl,by simpa using d⟩
  |some r=>
   have i:=o_ d;obtain⟨t,e,U⟩:=x9 f (n+1) (b.drop (13+r.length)) (by rw[List.length_drop];omega);rw[x_ d];refine⟨t,?_,by rw[List.length_cons,show n+((j4 (n+1) (b.drop (13+r.length))).length+1)=n+1+(j4 (n+1) (b.drop (13+r.length))).length by omega];exact U⟩;rw[e3,List.append_assoc,←e];exact x2 d
theorem FQ{b:List UInt8}(h:gw b=0):∃t,b=cR (eb b)++t∧eU (eb b).length t=none:=by
 have i:b.take 8=gA:=by unfold gw at h;split at h;assumption;cases h
 obtain⟨t,e,U⟩:=x9 _ 0 (b.drop 8) (Nat.le_refl _);have d:eb b=j4 0 (b.drop 8):=by unfold eb;rw[if_pos i]
 refine⟨t,?_,by rw[d];simpa using U⟩;rw[d];unfold cR;rw[List.append_assoc,←e,←i,List.take_append_drop]
end kh

namespace kG
open E Go.RowKit lM mz nk oo rH pB ft gd kh
set_option maxRecDepth 100000 in
theorem dC:c4 Tryz.prog 57 5 1 1:=⟨Tryz.underlying57,_,_,rfl,rfl,rfl,rfl,rfl⟩
set_option maxRecDepth 100000 in
theorem lv:c4 Tryz.prog 104 57 1 24:=⟨Tryz.underlying104,_,_,rfl,rfl,rfl,rfl,rfl⟩
abbrev cI(l:List (aN×Rec)):List Rec:=l.map (·.2)
theorem v7{l:List (aN×Rec)}{i:Nat}(h:i<l.length):e3 0 (cI (l.take (i+1)))=e3 0 (cI (l.take i))++ky i l[i].2:=by
 have e:(cI (l.take i)).length=i:=by simp;omega
 rw[List.take_succ_eq_append_getElem h];unfold cI;rw[List.map_append,oI];unfold cI at e;rw[e];simp[e3]
theorem C6(l:List (aN×Rec))(i:Nat):(e3 0 (cI (l.take i))).length≤(e3 0 (cI l)).length:=by
 have h:l=l.take i++l.drop i:=(List.take_append_drop i l).symm;have U:cI l=cI (l.take i)++cI (l.drop i):=by unfold cI;rw[←List.map_append,←h]
 rw[U,oI,List.length_append];omega
theorem C7{l:List (aN×Rec)}{i:Nat}(h:i<l.length):(e3 0 (cI (l.take i))).length+(13+l[i].2.length)≤(e3 0 (cI l)).length:=by
 have:=C6 l (i+1);rw[v7 h,List.length_append,tq]at this;exact this
theorem xV(k:Nat)(v:Value)(xs:List UInt8)(n:Nat)(x:UInt64)(w0:World)(I:Heap)
 (i:aV k 5 I a1 1 v xs) (aA:n≤8) (aY:xs.length≤1099511627776):
 aC Tryz.prog w0 187 #[v,.int .i64 n,.int .u64 x.toNat] I (fun r L=>∃v2:Value,∃a8:Nat,r=v2∧(aV a8 5 L a1 1 v2 (xs++dz.cm n x))∧(T k I.size a8)∧W (aE [k]) I L):=by
 refine aC.aK [v,.int .i64 n,.int .u64 x.toNat] Tryz.func187 ?_;intro aL aI;have C:W (aE [k]) I I:=W.refl _ _;have M:=T.refl k I.size;have ad:=i.le;refine G.L (fun al=>?_);refine o.ak ?_;refine al (G.t1 (fun ar=>G.L (fun ay=>?_)));refine o.V ?_;refine o.v1 fH ?_;refine o.ak ?_;refine ay (G.aB (fun _ az _=>?_))
 refine G.bg (fun(aJ:(Nat)×(Value)×(Nat)×(List UInt8))=>match aJ with|(j,A,t,ys)=>[(0,A),(2,.int .u64 x.toNat),(7,.int .i64 ((j:Int)-1))])
  (fun(j,A,t,ys) (H:Heap)=>(j≤n)∧(aV t 5 H a1 1 A ys)∧(ys++dz.cm j x=xs++dz.cm n x)∧(T k I.size (t))∧W (aE [k]) I H)
  (fun(j,A,t,ys)=>j) (n,v,k,xs) ⟨rfl,rfl,rfl,trivial⟩ ?_ ?_
 ·
  exact⟨(by omega),i,rfl,T.refl _ _,W.refl _ _⟩
 rintro⟨j,A,t,ys⟩ aB aF aK aH P;obtain⟨aX,i,E,ac,d⟩:=aF;have Q:T k I.size (t):=T.L (M) ac C.size;replace C:=C.aJ d (ag.J (aq.r M));have aN:=d.size;have ad:=i.le;have O:=ac;have aZ:ys.length+j=xs.length+n:=by have:=congrArg List.length E;simpa[dz.dT]using this
 refine G.t2 (fun R S=>G.L (fun V=>?_));refine o.V ?_;refine o.v1 dJ (o.nil (V ?_));refine aU (fun X=>?_) (fun X=>?_)
 ·
  obtain⟨j,rfl⟩:∃q,j=q+1:=⟨j-1,by omega⟩;refine G.skip (R (G.t1 (fun Z=>G.aB (fun aa _ _=>G.region ?_))));refine o.ax 3 ?_;refine o.v1 (Y.jx rfl rfl rfl (by omega)) ?_;refine o.v1 (Y.pj (8*j) rfl rfl rfl (by first|rfl|omega) (by omega)) ?_;refine o.v1 (Y.oH rfl gU jD rfl) ?_;refine o.aO (cT _ ([UInt8.ofNat (iS x (8*j)).toNat]) dC eE fK (rfl)) fun aO ap ab=>?_;obtain⟨ai,F,aM,ak⟩:=ab;have aW:ap.size=aB.size+1:=by rw[ak];simp
  replace i:=i.M F;replace d:=d.bc F;have aQ:=F.size;refine o.aO (dQ i ai.rd dC (by first|omega|(simp;omega)) (by first|omega|(simp;omega))) fun ae aR af=>?_;obtain⟨au,N,K,B⟩:=af;replace K:T (t) ap.size au:=K;replace B:=B.md;have ah:T k I.size au:=T.L (O) K d.size;replace d:=d.aJ B (ag.J (aq.r O));have aS:=B.size;have aT:=N.le;refine o.ak ?_;refine aa (Z (G.region ?_));refine o.V ?_;refine o.v1 fH ?_;refine o.ak ?_;refine aP.sub (aH (j,ae,au,ys++[UInt8.ofNat (iS x (8*j)).toNat]) _ ?_ ?_) ⟨rfl,(aD (by omega)),(aD (by omega)),trivial⟩
  ·exact⟨(by omega),N,by rw[←E,List.append_assoc];rfl,ah,d⟩
  ·first|omega|(simp only;omega)|(simp;omega)
 ·
  obtain rfl:j=0:=by omega
  rw[dz.cm,List.append_nil]at E;subst E;refine G.exit (S (P (az ?_)));refine ar (G.L (fun am=>?_));refine o.aQ 2 ?_;refine am ?_;refine G.ret (aI ?_);exact⟨A,t,rfl,i,Q,C⟩
theorem Ha{d cs:List Value}(h:cs.length=d.length):ed cs 0 d=d:=by simp[ed,h]
theorem ny(n:Nat)(s:aN)(rc:List UInt8)(w0:World)(I:Heap)
 (j:bx I a1 1 s.v rc) (aQ:rc.length≤1099511000000):
 aC Tryz.prog w0 180 #[.int .i64 (n:Int),s.v] I (fun r K=>∃t:aN,r=t.v∧(Rd (fun b=>I.size≤b) K a1 1 t.v (jQ n rc))∧aj I K):=by
 refine aC.aK [.int .i64 (n:Int),s.v] Tryz.func180 ?_;intro ak ai;have d:aj I I:=W.refl _ _;replace j:=j.bw;refine G.L (fun Z=>?_);refine o.ak ?_;refine Z (G.L (fun ap=>?_));refine o.V ?_;refine o.v1 (Y.cast (v2:= .int .u64 (UInt64.ofNat n).toNat) (Y.hA rfl gn gU rfl) (rfl)) ?_;refine aW vk (xV 0 _ [] 8 (UInt64.ofNat (n)) w0 _ (aV.nil eE fK) (by omega) (by simp)) ?_;rintro N O ⟨al,aR,rfl,ac,ar,C⟩;replace j:=j.ab C (az.J ay.z);replace d:=d.bo C (ag.cons aq.z ag.nil);have aA:=C.size;have aK:=ac.le;rw[List.nil_append]at ac;obtain⟨H,rfl⟩:∃s:aN,N=s.v:=⟨cl N,ac.bl.symm⟩;refine o.V ?_;refine o.aO (cT _ ([(H,dz.cm 8 (UInt64.ofNat n)),(s,rc)]) lv nB nC (rfl)) fun aB aa ab=>?_;obtain⟨R,A,aM,V⟩:=ab;have aL:aa.size=O.size+1:=by rw[V];simp
 replace j:=j.M A;replace ac:=ac.M A;replace d:=d.L A;have aD:=A.size;refine aW BD (FW _ [(H,dz.cm 8 (UInt64.ofNat n)),(s,rc)] w0 _ R.rd.any (fun x M=>by simp only[List.mem_cons,List.not_mem_nil,or_false]at M;rcases M with rfl|rfl;exact ac.rd.any;exact j.any) (by simp[cat,dz.dT];omega)) (fun aE B ae=>?_);obtain⟨rfl,ad⟩:=ae;replace d:=d.L ad;have aF:=ad.size;rw[show cat [(H,dz.cm 8 (UInt64.ofNat n)),(s,rc)]=(dz.cm 8 (UInt64.ofNat n)++rc)from by simp[cat]];refine o.aO (cV nc) ?_;rintro v5 L ⟨rfl,k,au,aH,af⟩;have aO:L.size=B.size+1:=by rw[af];simp
 have ah:T 0 I.size (B.size+1):=T.new d.size;replace d:=d.L au;have aI:=au.size;replace k:Var 26 L B.size ((List.replicate 32 (0:UInt8)).map hI):=k;refine o.s1 (S.var k ((sumOf (dz.cm 8 (UInt64.ofNat n)++rc)).map hI) ((sumOf (dz.cm 8 (UInt64.ofNat n)++rc)).map hI) rfl rfl rfl rfl (by intro u hu;obtain⟨x,_,rfl⟩:=List.mem_map.1 hu;rfl) a_ (by simp[lE]) (by simp[lE]) (Ha (by simp[lE]))) fun aP X=>?_;obtain⟨k,q⟩:=X;replace q:=q.bs;replace d:=d.bo q (ag.J (aq.q ah));have aJ:=q.size;refine o.nil (ap (G.L (fun P=>?_)));refine o.aK (g:=fun v=>v) (Y.pn (F:=fun c=>c=B.size) (f:=a1) (xs:=sumOf (dz.cm 8 (UInt64.ofNat n)++rc)) k.N rfl k.lt (lE _) (fun i x h=>⟨by simp[h],rfl⟩) (0) (8) rfl (fun w=> .inl (k9 w)) cN rfl (.inl ⟨rfl,rfl⟩) (.inr ⟨_,_,_,rfl,rfl,by first|rfl|omega⟩) (by omega) (by omega) (by decide)) fun am E=>?_;rw[List.drop_zero]at E;obtain⟨Q,rfl⟩:∃s:aN,am=s.v:=⟨cl am,E.bl.symm⟩;refine o.ak ?_;refine P ?_;refine G.ret (ai ?_);exact⟨Q,rfl,(E.imp (fun b _ e=>by omega)),d⟩
theorem zH(n:Nat)(s:aN)(rc:List UInt8)(w0:World)(I:Heap)
 (d:bx I a1 1 s.v rc) (aI:rc.length≤4294967000):
 aC Tryz.prog w0 111 #[.int .i64 (n:Int),s.v] I (fun r E=>∃t:aN,∃k:Nat,r=t.v∧(aV k 5 E a1 1 t.v (jf n rc))∧(T 0 I.size k)∧aj I E):=by
 refine aC.aK [.int .i64 (n:Int),s.v] Tryz.func111 ?_;intro af ab;have i:aj I I:=W.refl _ _;replace d:=d.bw;refine G.L (fun Q=>?_);refine o.ak ?_;refine Q (G.L (fun R=>?_));refine o.V ?_;refine o.v1 (bb d dc) ?_;refine o.v1 (Y.cast (v2:= .int .u64 (UInt64.ofNat rc.length).toNat) (Y.hA rfl gn gU rfl) (rfl)) ?_;refine aW vk (xV 0 _ [] 4 (UInt64.ofNat (rc.length)) w0 _ (aV.nil eE fK) (by omega) (by simp)) ?_;rintro H ae ⟨ah,aJ,rfl,ac,ai,A⟩;replace d:=d.ab A (az.J ay.z);replace i:=i.bo A (ag.cons aq.z ag.nil);have ak:=A.size;have aE:=ac.le;rw[List.nil_append]at ac;obtain⟨C,rfl⟩:∃s:aN,H=s.v:=⟨cl H,ac.bl.symm⟩;rw[Fu _ (by omega)]at ac;refine o.ax 2 ?_;refine aW vh (ny n s rc w0 _ d.any (by omega)) (fun al S V=>?_);obtain⟨B,rfl,j,ad⟩:=V;replace d:=d.M ad;replace ac:=ac.M ad;replace i:=i.L ad;have ar:=ad.size;replace j:=j.bw;refine o.V ?_;refine o.aO (cT _ ([(C,jN rc.length),(B,jQ n rc),(s,rc)]) lv nB nC (rfl)) fun X Z aa=>?_;obtain⟨M,q,aH,N⟩:=aa;have aF:Z.size=S.size+1:=by rw[N];simp
 replace d:=d.M q;replace ac:=ac.M q;replace j:=j.M q;replace i:=i.L q;have aA:=q.size;refine aW vj (vM X [(C,jN rc.length),(B,jQ n rc),(s,rc)] w0 _ M.rd.any (fun x F=>by simp only[List.mem_cons,List.not_mem_nil,or_false]at F;rcases F with rfl|rfl|rfl;exact ac.rd.any;exact j.any;exact d.any) (by simp[gu,uM,vK];omega)) (fun aB aD K=>?_);obtain⟨L,ap,rfl,O,P,au⟩:=K;have am:T 0 I.size ap:=T.L (T.refl 0 _) P i.size;replace i:=i.L au;refine o.ak ?_;refine R ?_;refine G.ret (ab ?_);exact⟨L,ap,rfl,by have e:gu [(C,jN rc.length),(B,jQ n rc),(s,rc)]=jf n rc:=(by simp[gu,jf]);rw[←e];exact O,am,i⟩
theorem C9(s:aN)(l:List (aN×Rec))(w0:World)(I:Heap)
 (n:bx I iG 1 s.v l) (A:∀x∈l,bx I a1 1 x.1.v x.2) (bl:∀x∈l,x.2.length≤1048576) (bQ:(e3 0 (cI l)).length≤1099510000000):
 aC Tryz.prog w0 171 #[s.v] I (fun r aa=>∃t:aN,∃k:Nat,r=t.v∧(aV k 5 aa a1 1 t.v (cR (cI l)))∧(T 0 I.size k)∧aj I aa):=by
 refine aC.aK [s.v] Tryz.func171 ?_;intro bq bk;have q:aj I I:=W.refl _ _;replace n:=n.bw;have am:=n.bY;replace A:=fun x C=>(A x C).bw;have bd:bh (fun b=>True∧b<I.size) I.size:=fun b h=>h.2;have bU:=n.len;refine G.L (fun aL=>?_);refine o.ak ?_;refine aL (G.L (fun aM=>?_));refine o.aO (cT _ (gA) dC eE fK (rfl)) ?_;rintro v6 al ⟨d,N,bz,aO⟩;have bu:al.size=I.size+1:=by rw[aO];simp
 have ab:=(ay.new (am.mono q.size):ay _ (I.size+1));have ae:=(ay.new (bd.mono q.size):ay _ (I.size+1));have V:T 0 I.size (I.size+1):=T.new q.size;replace n:=n.M N;replace A:=fun x C=>(A x C).M N;replace q:=q.L N;have bA:=N.size;refine o.aO (Z.uL d (by decide) rfl Tryz.underlying57 Tryz.underlying5 rfl) ?_;rintro bo K ⟨rfl,d,au⟩;replace au:=au.md;replace n:=n.ab au (az.J ab);replace A:=fun x C=>(A x C).ab au (az.J ae);replace q:=q.bo au (ag.J (aq.q V));have bC:=au.size;refine o.ak ?_;refine aM (G.t1 (fun aQ=>G.L (fun aR=>?_)));refine o.V ?_;refine o.v1 (bb n h7) ?_;refine o.V (o.nil (aR ?_));refine G.aB (fun _ aS _=>?_)
 refine G.bg (fun(bn:(Nat)×(Value)×(Nat))=>match bn with|(i,E,B)=>[(3,E),(8,s.v),(9,.int .i64 (l.length:Int)),(10,.int .i64 (i:Int))])
  (fun(i,E,B) (H:Heap)=>(i≤l.length)∧(aV B 5 H a1 1 E (gA++e3 0 (cI (l.take i))))∧(T (I.size+1) K.size B)∧W (aE [(I.size+1)]) K H)
  (fun(i,E,B)=>l.length-i) (0,bo,(I.size+1)) ⟨rfl,rfl,rfl,rfl,trivial⟩ ?_ ?_
 ·
  exact⟨(by omega),by simpa only[List.take_zero,cI,List.map_nil,e3,List.append_nil]using d,T.refl _ _,W.refl _ _⟩
 rintro⟨i,E,B⟩ bT aT bp aX aY;obtain⟨bS,d,ai,j⟩:=aT;have aZ:T 0 I.size B:=T.L (V) ai q.size;replace n:=n.ab j (az.J ab);replace A:=fun x C=>(A x C).ab j (az.J ae);replace q:=q.bo j (ag.J (aq.q V));have be:=j.size;have ac:=d.le;have af:=ai;refine G.L (fun a6=>?_);refine o.v1 bJ (o.nil (a6 ?_));refine G.t2 (fun a7 a8=>?_);refine aU (fun a_=>?_) (fun a_=>?_)
 ·
  refine G.skip (a7 (G.t1 (fun ba=>G.aB (fun bf _ _=>G.L (fun bg=>?_)))));refine o.V ?_;have F:i<l.length:=by omega
  have bR:=C7 F;have bm:=A l[i] (List.getElem_mem F);have bV:=bl l[i] (List.getElem_mem F);have bP:gA.length=8:=rfl;have bX:=oU i l[i].2;refine o.bR (Y.bL n (i) rfl h7 db rfl rfl) fun a0 bj=>?_;refine o.v1 (ar bj.N eD) ?_;refine o.aQ 2 ?_;refine bg (G.region ?_);refine o.ax 3 ?_;refine aW u5 (zH i l[i].1 l[i].2 w0 _ bm.any (by omega)) (fun bE a2 a3=>?_);obtain⟨bF,bi,rfl,ap,a4,P⟩:=a3;replace d:=d.M P;replace j:=j.bc P;have bG:=P.size;have bw:=ap.le;refine o.aO (dQ d ap.rd dC (by simp only[List.length_append];omega) (by simp only[List.length_append];omega)) fun aB a5 aA=>?_;obtain⟨X,d,Q,L⟩:=aA;replace Q:T B a2.size X:=Q;replace L:=L.md;have ak:T (I.size+1) K.size X:=T.L (af) Q j.size;replace j:=j.aJ L (ag.J (aq.r af));have bI:=L.size;have ac:=d.le;refine o.aO (cT _ ([(67:UInt8)]) dC eE fK (rfl)) fun bK ah aF=>?_;obtain⟨aH,R,bs,aI⟩:=aF;have bt:ah.size=a5.size+1:=by rw[aI];simp
  replace d:=d.M R;replace j:=j.bc R;have bL:=R.size;refine o.aO (dQ d aH.rd dC (by simp only[List.length_append,List.length_singleton];omega) (by simp only[List.length_append,List.length_singleton];omega)) fun a9 bN bc=>?_;obtain⟨O,d,S,M⟩:=bc;replace S:T X ah.size O:=S;replace M:=M.md;have aJ:T (I.size+1) K.size O:=T.L (ak) S j.size;replace j:=j.aJ M (ag.J (aq.r ak));have bO:=M.size;have ac:=d.le;refine o.ak ?_;refine bf (ba (G.region ?_));refine o.v1 bD ?_;refine o.V (o.nil ?_);refine aP.sub (aX (i+1,a9,O) _ ?_ ?_) ⟨rfl,rfl,(aD (by omega)),(aD (by omega)),trivial⟩
  ·exact⟨(by omega),by rw[v7 F,←List.append_assoc];unfold ky;rw[←List.append_assoc];exact d,aJ,j⟩
  ·first|omega|(simp only;omega)|(simp;omega)
 ·
  refine G.exit (a8 (aY (aS ?_)));refine aQ (G.L (fun aK=>?_));refine o.aQ 2 ?_;refine aK ?_;refine G.ret (bk ?_);have F:i=l.length:=by omega
  rw[F,List.take_length]at d;obtain⟨so,rfl⟩:∃s:aN,E=s.v:=⟨cl E,d.bl.symm⟩;exact⟨so,B,rfl,d,aZ,q⟩
theorem wm(s t:aN)(a b:List UInt8)(w0:World)(I:Heap)
 (d:bx I a1 1 s.v a) (aw:bx I a1 1 t.v b):
 aC Tryz.prog w0 179 #[s.v,t.v] I (fun r i=>r= .bool (decide (a=b))∧aj I i):=by
 refine aC.aK [s.v,t.v] Tryz.func179 ?_;intro x q;have n:aj I I:=W.refl _ _;replace d:=d.bw;replace aw:=aw.bw;refine G.L (fun j=>?_);refine o.ak ?_;refine j (G.L (fun k=>?_));refine o.V ?_;refine o.v1 (Y.nt d rfl Tryz.underlying57 Tryz.underlying9 Tryz.underlying5 rfl) ?_;refine o.V ?_;refine o.v1 (Y.nt aw rfl Tryz.underlying57 Tryz.underlying9 Tryz.underlying5 rfl) ?_;refine o.v1 (Y.jz rfl rfl rfl) ?_;refine o.ak ?_;refine k ?_;refine G.ret (q ?_);exact⟨rfl,n⟩
end kG

namespace lk
open E Go.RowKit lM mz nk oo rH pB ft gd kh kG
set_option maxRecDepth 100000 in
theorem dC:c4 Tryz.prog 57 5 1 1:=⟨Tryz.underlying57,_,_,rfl,rfl,rfl,rfl,rfl⟩
set_option maxRecDepth 100000 in
theorem lv:c4 Tryz.prog 104 57 1 24:=⟨Tryz.underlying104,_,_,rfl,rfl,rfl,rfl,rfl⟩
theorem AH{b:List UInt8}(h:4≤b.length):((b[0].toNat*2^24|||b[1].toNat*2^16)|||b[2].toNat*2^8)|||b[3].toNat=fk b:=by
 match b,h with
 |a::b::c::d::t,_=>
  have j:=a.toNat_lt;have U:=b.toNat_lt;have k:=c.toNat_lt;have n:=d.toNat_lt
  have aK:a.toNat*2^24|||b.toNat*2^16=(a.toNat*256+b.toNat)*2^16:=by
   rw[show a.toNat*2^24=(a.toNat*2^8)*2^16 by omega,←Nat.shiftLeft_eq _ 16,←Nat.shiftLeft_eq b.toNat 16,←Nat.shiftLeft_or_distrib,td,Nat.shiftLeft_eq]
  have i:(a.toNat*256+b.toNat)*2^16|||c.toNat*2^8=((a.toNat*256+b.toNat)*256+c.toNat)*2^8:=by
   rw[show(a.toNat*256+b.toNat)*2^16=((a.toNat*256+b.toNat)*2^8)*2^8 by omega,←Nat.shiftLeft_eq _ 8,←Nat.shiftLeft_eq c.toNat 8,←Nat.shiftLeft_or_distrib,td,Nat.shiftLeft_eq]
  simp only[List.getElem_cons_zero,List.getElem_cons_succ];rw[aK,i,td];simp[fk,ln]
structure kd (b:List UInt8) (l:List Rec) (at_:Nat):Prop where
 l3:at_=(cR l).length
 eq:b=cR l++b.drop at_
 pp:eb b=l++j4 l.length (b.drop at_)
 e:gw b=0
theorem kd.le{b:List UInt8}{l:List Rec}{a:Nat}(h:kd b l a):a≤b.length:=by
 have d:=congrArg List.length h.eq;rw[List.length_append,←h.l3]at d;omega
theorem kd.start{b:List UInt8}(h:b.take 8=gA):kd b [] 8:=
 ⟨rfl,by show b=(gA++[])++b.drop 8;rw[List.append_nil,←h,List.take_append_drop],by unfold eb;rw[if_pos h];rfl,by unfold gw;rw[if_pos h]⟩
theorem kd.step{b:List UInt8}{l:List Rec}{a:Nat}{r:Rec}(h:kd b l a)(d:eU l.length (b.drop a)=some r):kd b (l++[r]) (a+(13+r.length)):=by
 have U:=x2 d;refine⟨by rw[sh,List.length_append,tq,←h.l3],?_,?_,h.e⟩
 ·rw[sh,List.append_assoc,←List.drop_drop,←U];exact h.eq
 ·rw[h.pp,x_ d,List.drop_drop,List.append_assoc];simp
theorem kd.stop{b:List UInt8}{l:List Rec}{a:Nat}(h:kd b l a)(d:eU l.length (b.drop a)=none):l=eb b∧a=m3 b:=by
 have U:l=eb b:=by rw[h.pp,tj d,List.append_nil]
 refine⟨U,?_⟩;have i:b.take 8=gA:=by have:=h.e;unfold gw at this;split at this;assumption;cases this
 unfold m3;rw[if_pos i,←U];exact h.l3
theorem FB{n:Nat}{b:List UInt8}(h:b.length≤12):eU n b=none:=by unfold eU;rw[if_pos (.inl h)]
theorem x1{n:Nat}{b:List UInt8}(h:1048576<fk b∨b.length≤12+fk b):eU n b=none:=by unfold eU;rw[if_pos (by omega)]
theorem FA{n:Nat}{b:List UInt8}(h:b.getD (12+fk b) 0≠67):eU n b=none:=by
 unfold eU;split
 ·rfl
 ·rw[if_neg (fun U=>h U.1)]
theorem Fz{n:Nat}{b:List UInt8}(h:(b.drop 4).take 8≠jQ n ((b.drop 12).take (fk b))):eU n b=none:=by
 unfold eU;split
 ·rfl
 ·rw[if_neg (fun U=>h U.2)]
theorem FC{n:Nat}{b:List UInt8}(j:¬b.length≤12)(k:¬1048576<fk b)(U:¬b.length≤12+fk b)(d:b.getD (12+fk b) 0=67)(i:(b.drop 4).take 8=jQ n ((b.drop 12).take (fk b))):eU n b=some ((b.drop 12).take (fk b)):=by
 unfold eU;rw[if_neg (by omega),if_pos ⟨d,i⟩]
theorem ze(b:List UInt8)(i n:Nat):(b.take (i+n)).drop i=(b.drop i).take n:=by rw[List.drop_take];congr 1;omega
theorem HT{x:UInt8}{n:Nat}(h:(x.toNat:Int)≠(n:Int))(aA:n<256):x≠UInt8.ofNat n:=fun e=>h (by rw[e,UInt8.toNat_ofNat'];omega)
theorem HS{x:UInt8}{n:Nat}(h:(x.toNat:Int)=(n:Int))(aA:n<256):x=UInt8.ofNat n:=UInt8.toNat.inj (by rw[UInt8.toNat_ofNat'];omega)
theorem iB{b:List UInt8}{i:Nat}(h:i<b.length):b.getD i 0=b[i]:=by rw[List.getD_eq_getElem?_getD,List.getElem?_eq_getElem h];rfl
theorem ay.eG{aR:Nat→Prop}{d k:Nat}(h:ay aR k)(i:af k d):ay (fun b=>aR b∨b+1=d) k:=by
 rintro b (e|e) U
 ·exact h b e U
 ·exact i b U e
theorem bh.eG{aR:Nat→Prop}{n d:Nat}(h:bh aR n)(i:d≤n):bh (fun b=>aR b∨b+1=d) n:=by
 rintro b (e|e)
 ·exact h b e
 ·omega
theorem te{a b:Nat}(d:a<2^62)(U:b<2^62):a|||b<2^62:=Nat.or_lt_two_pow d U
theorem wa(l:List Rec):l.length≤(cR l).length:=by
 rw[C8]
 have:∀l:List Rec,l.length≤(l.map (fun r=>13+r.length)).sum:=fun l=>by
  induction l with
  |nil=>simp
  |cons r l ih=>simp only[List.length_cons,List.map_cons,List.sum_cons];omega
 have:=this l;omega
theorem G7{α:Type}{F aR:Nat→Prop}{H:Heap}{fb:α→aN×Rec}{l:List (aN×Rec)}{x:aN×Rec}(h:∀y∈l,Rd F H a1 1 y.1.v y.2)(d:∀b,F b→aR b)(i:Rd aR H a1 1 x.1.v x.2):∀y∈l++[x],Rd aR H a1 1 y.1.v y.2:=fun y hy=>by
 rcases List.mem_append.1 hy with hy|hy
 ·exact(h y hy).imp (fun b _ e=>d b e)
 ·rw[List.mem_singleton.1 hy];exact i
theorem DB(s t:aN)(a p:List UInt8)(w0:World)(I:Heap)
 (i:bx I a1 1 s.v a) (aw:bx I a1 1 t.v p):
 aC Tryz.prog w0 178 #[s.v,t.v] I (fun r x=>r= .bool (decide (a.take p.length=p))∧aj I x):=by
 refine aC.aK [s.v,t.v] Tryz.func178 ?_;intro F q;have j:aj I I:=W.refl _ _;replace i:=i.bw;replace aw:=aw.bw;refine G.L (fun ad=>?_);refine o.ak ?_;refine ad (G.L (fun n=>?_));refine o.V ?_;refine o.v1 (bb i dc) ?_;refine o.V ?_;refine o.v1 (bb aw dc) ?_;refine o.v1 dJ ?_;refine o.V ?_;refine o.bj (d:=10) rfl (fun B=>?_) (fun B=>?_)
 ·
  refine o.ax 2 ?_;refine o.ao (bb aw dc) ?_;refine o.e (g:=fun v=>v) (Y.slice i (0) (p.length) rfl dc cN rfl (.inl ⟨rfl,rfl⟩) (.inr ⟨_,_,_,rfl,rfl,by first|rfl|omega⟩) (by omega) (by omega)) bd rfl rfl (fun ac k=>?_);rw[List.drop_zero]at k;obtain⟨C,rfl⟩:∃s:aN,ac=s.v:=⟨cl ac,k.bl.symm⟩;refine o.bU ?_;refine o.call rfl vf rfl bd rfl rfl (wm C t (a.take p.length) p w0 _ k.any aw.any) (fun H K E=>?_);obtain⟨rfl,A⟩:=E;replace j:=j.L A;refine o.aQ 2 ?_;refine n ?_;refine G.ret (q ?_);exact⟨rfl,j⟩
 ·
  refine o.aQ 8 ?_;refine n ?_;refine G.ret (q ?_);exact⟨by rw[decide_eq_false (fun h=>by have U:=congrArg List.length h;rw[List.length_take]at U;omega)],j⟩
set_option maxHeartbeats 2000000 in
theorem ya(s:aN)(b:List UInt8)(w0:World)(I:Heap)
 (aw:bx I a1 1 s.v b) (du:b.length≤1000000000):
 aC Tryz.prog w0 91 #[s.v] I (fun r aQ=>∃t:aN,∃l:List (aN×Rec),r= .tuple #[t.v,.int .i64 (m3 b:Int),.int .i64 (gw b:Int)]∧(cI l=eb b)∧(Rd (fun b=>I.size≤b) aQ iG 1 t.v l)∧(∀x∈l,Rd (fun b=>I.size≤b) aQ a1 1 x.1.v x.2)∧aj I aQ):=by
 refine aC.aK [s.v] Tryz.func91 ?_;intro cL ae;have k:aj I I:=W.refl _ _;replace aw:=aw.bw;have bS:=aw.bY;refine G.L (fun cv=>?_);refine o.aQ 3 ?_;refine cv (G.GU (fun _ aa=>G.t2 (fun bv cw=>G.L (fun cy=>?_))));refine o.V ?_;refine o.aO (cT _ (gA) dC eE fK (rfl)) fun cO cz bZ=>?_;obtain⟨ap,aY,cX,bz⟩:=bZ;have c9:cz.size=I.size+1:=by rw[bz];simp
 have b0:=(ay.new (bS.mono k.size):ay _ (I.size+1));have b1:T 0 I.size (I.size+1):=T.new k.size;replace aw:=aw.M aY;replace k:=k.L aY;have cP:=aY.size;refine o.aO (Z.uL ap (by decide) rfl Tryz.underlying57 Tryz.underlying5 rfl) fun aB cS b2=>?_;obtain⟨rfl,ap,ak⟩:=b2;replace ak:=ak.md;replace aw:=aw.ab ak (az.J b0);replace k:=k.bo ak (ag.J (aq.q b1));have cV:=ak.size;obtain⟨b3,rfl⟩:∃s:aN,aB=s.v:=⟨cl aB,ap.bl.symm⟩;refine aW Bw (DB s b3 b gA w0 _ aw.any ap.rd.any) (fun cW aT b4=>?_);obtain⟨rfl,aZ⟩:=b4;replace aw:=aw.M aZ;replace k:=k.L aZ;have c8:=aZ.size;refine o.v1 (Y.hp rfl rfl) (o.nil (cy ?_));refine aU (fun aX=>?_) (fun aX=>?_)
 ·
  refine G.L (fun b5=>?_);refine o.aQ 3 ?_;refine b5 ?_;refine G.ret (cw (aa (ae ?_)));have aJ:¬b.take 8=gA:=aX;exact⟨⟨none,0,0⟩,[],by unfold m3 gw;rw[if_neg aJ,if_neg aJ];rfl,by unfold eb;rw[if_neg aJ];rfl,Rd.nil _ _ _ _,(fun x h=>by cases h),k⟩
 ·
  have aJ:b.take 8=gA:=Decidable.byContradiction (fun h=>aX h);refine G.skip (bv (G.L (fun b6=>?_)));refine o.ak ?_;refine b6 (G.L (fun b7=>?_));refine o.ak ?_;refine b7 (G.t1 (fun b8=>?_));refine G.label ?_;refine b8 (G.t1 (fun aH=>G.aB (fun _ al _=>?_)))
  refine G.bg (fun(cK:(Nat)×(Value)×(Nat)×(List (aN×Rec))×(Nat→Prop))=>match cK with|(a,A,N,l,aR)=>[(0,s.v),(5,A),(6,.int .i64 (a:Int))])
   (fun(a,A,N,l,aR) (H:Heap)=>(kd b (cI l) a)∧(aV N 57 H iG 1 A l)∧(∀x∈l,Rd aR H a1 1 x.1.v x.2)∧(bh aR H.size)∧(ay aR N)∧(∀c,aR c→I.size≤c)∧(T 0 aT.size N)∧aj aT H)
   (fun(a,A,N,l,aR)=>b.length-a) (8,.slice none 0 0,0,[],fun _=>False) ⟨rfl,rfl,rfl,trivial⟩ ?_ ?_
  ·
   exact⟨kd.start aJ,aV.nil nB nC,(fun x h=>by cases h),(fun b e=>e.elim),(fun b e=>e.elim),(fun c e=>e.elim),T.refl _ _,W.refl _ _⟩
  rintro⟨a,A,N,l,aR⟩ bl b9 da bA aA;obtain⟨B,i,n,bj,f1,ab,bk,q⟩:=b9;have ai:T 0 I.size N:=T.L (T.refl 0 _) bk k.size;replace aw:=aw.M q;replace k:=k.L q;have db:=q.size;have bR:=i.le;have bm:=bk;have dr:=B.le;have dz:(b.drop a).length=b.length-a:=List.length_drop;have a8:(cI l).length=l.length:=by simp[cI]
  have dw:=B.l3;have dv:l.length≤(cR (cI l)).length:=by rw[←a8];exact wa _
  refine G.aB (fun bC _ aE=>G.L (fun bE=>?_));refine o.ax 2 ?_;refine o.aK (g:=fun v=>v) (Y.slice aw (a) (_) rfl dc cN rfl (.inr ⟨_,_,_,rfl,rfl,by first|rfl|omega⟩) (.inl ⟨rfl,rfl⟩) (by omega) (by omega)) fun de K=>?_;rw[List.take_length]at K;refine o.ak ?_;refine bE (G.t2 (fun bF bG=>G.L (fun bI=>?_)));refine o.V ?_;refine o.v1 (bb K dc) ?_;refine o.v1 eK (o.nil (bI ?_));refine aU (fun b_=>?_) (fun b_=>?_)
  ·
   have L:eU (cI l).length (b.drop a)=none:=FB (by omega);refine G.exit (bG (aE (aA (al ?_))));refine aH (G.L (fun bJ=>?_));refine o.aQ 5 ?_;refine bJ ?_;refine G.ret (aa (ae ?_));obtain⟨P,Q⟩:=B.stop L;obtain⟨so,rfl⟩:∃s:aN,A=s.v:=⟨cl A,i.bl.symm⟩;exact⟨so,l,by rw[B.e,←Q];rfl,P,(i.rd.imp (fun c _ e=>by have E:=(ai);unfold T at E;omega)),(fun x h=>(n x h).imp (fun c _ e=>ab c e)),k⟩
  ·
   have dp:12<(b.drop a).length:=by omega
   have cC:=AH (b:=b.drop a) (by omega);have dt:fk (b.drop a)<4294967296:=AG _ (by rw[List.length_take];omega);refine G.skip (bF (G.t1 (fun bK=>?_)));refine hf ?_;refine o.V ?_;refine o.bR (Y.bL K (0) rfl dc cN rfl rfl) fun cZ bL=>?_;refine o.v1 (ar bL.N dS) ?_;refine o.v1 (Y.p6 rfl jD gn rfl) ?_;refine o.v1 (Y.k2 (24) rfl rfl rfl (by first|rfl|omega) (by omega) (by have:=((b.drop a)[0]).toNat_lt;omega)) ?_;refine o.V ?_;refine o.bR (Y.bL K (1) rfl dc cN rfl rfl) fun c0 bN=>?_;refine o.v1 (ar bN.N dS) ?_;refine o.v1 (Y.p6 rfl jD gn rfl) ?_;refine o.v1 (Y.k2 (16) rfl rfl rfl (by first|rfl|omega) (by omega) (by have:=((b.drop a)[1]).toNat_lt;omega)) ?_;refine o.v1 (Y.jy rfl rfl rfl (by have aI:=(b.drop a)[0].toNat_lt;omega) (by have aI:=(b.drop a)[1].toNat_lt;omega)) ?_;refine o.V ?_;refine o.bR (Y.bL K (2) rfl dc cN rfl rfl) fun c1 bO=>?_;refine o.v1 (ar bO.N dS) ?_;refine o.v1 (Y.p6 rfl jD gn rfl) ?_;refine o.v1 (Y.k2 (8) rfl rfl rfl (by first|rfl|omega) (by omega) (by have:=((b.drop a)[2]).toNat_lt;omega)) ?_;refine o.v1 (Y.jy rfl rfl rfl (by have aI:=(b.drop a)[0].toNat_lt;have cA:=(b.drop a)[1].toNat_lt;exact Nat.le_trans (Nat.le_of_lt (te (by omega) (by omega))) (by decide)) (by have aI:=(b.drop a)[2].toNat_lt;omega)) ?_;refine o.V ?_;refine o.bR (Y.bL K (3) rfl dc cN rfl rfl) fun c3 bP=>?_;refine o.v1 (ar bP.N dS) ?_;refine o.v1 (Y.p6 rfl jD gn rfl) ?_;refine o.v1 (Y.cast (v2:= .int .i64 (fk (b.drop a):Int)) (Y.jy rfl rfl rfl (by have aI:=(b.drop a)[0].toNat_lt;have cA:=(b.drop a)[1].toNat_lt;have U:=(b.drop a)[2].toNat_lt;exact Nat.le_trans (Nat.le_of_lt (te (te (by omega) (by omega)) (by omega))) (by decide)) (by have aI:=(b.drop a)[3].toNat_lt;omega)) (by rw[cC])) ?_;refine o.ak ?_;refine bK (G.t2 (fun a0 a_=>G.L (fun ba=>?_)));refine o.V ?_;refine o.v1 eY ?_;refine o.V ?_;refine o.bj (d:=45) rfl (fun ca=>?_) (fun ca=>?_)
   ·
    have L:eU (cI l).length (b.drop a)=none:=x1 (.inl (by omega));refine o.ax 6 ?_;refine o.nil (ba ?_);refine G.iz rfl ?_;refine G.exit (a_ (aE (aA (al ?_))));refine aH (G.L (fun a2=>?_));refine o.aQ 5 ?_;refine a2 ?_;refine G.ret (aa (ae ?_));obtain⟨P,Q⟩:=B.stop L;obtain⟨so,rfl⟩:∃s:aN,A=s.v:=⟨cl A,i.bl.symm⟩;exact⟨so,l,by rw[B.e,←Q];rfl,P,(i.rd.imp (fun c _ e=>by have E:=(ai);unfold T at E;omega)),(fun x h=>(n x h).imp (fun c _ e=>ab c e)),k⟩
   ·
    refine o.bU ?_;refine o.ao (bb K dc) ?_;refine o.ao fH ?_;refine o.bU ?_;refine o.ao eK ?_;refine o.dF ?_;refine o.nil (ba ?_);refine aU (fun cb=>?_) (fun cb=>?_)
    ·
     have L:eU (cI l).length (b.drop a)=none:=x1 (.inr (by omega));refine G.exit (a_ (aE (aA (al ?_))));refine aH (G.L (fun a3=>?_));refine o.aQ 5 ?_;refine a3 ?_;refine G.ret (aa (ae ?_));obtain⟨P,Q⟩:=B.stop L;obtain⟨so,rfl⟩:∃s:aN,A=s.v:=⟨cl A,i.bl.symm⟩;exact⟨so,l,by rw[B.e,←Q];rfl,P,(i.rd.imp (fun c _ e=>by have E:=(ai);unfold T at E;omega)),(fun x h=>(n x h).imp (fun c _ e=>ab c e)),k⟩
    ·
     have dy:(((b.drop a).drop 12).take (fk (b.drop a))).length=fk (b.drop a):=by rw[List.length_take,List.length_drop];omega
     refine G.skip (a0 (G.L (fun a4=>?_)));refine o.ax 2 ?_;refine o.v1 bD ?_;refine o.aK (g:=fun v=>v) (Y.slice K (12) (12+fk (b.drop a)) rfl dc cN rfl (.inr ⟨_,_,_,rfl,rfl,by first|rfl|omega⟩) (.inr ⟨_,_,_,rfl,rfl,by first|rfl|omega⟩) (by omega) (by omega)) fun bn V=>?_;rw[ze]at V;obtain⟨cc,rfl⟩:∃s:aN,bn=s.v:=⟨cl bn,V.bl.symm⟩;refine o.ak ?_;refine a4 (G.t2 (fun a5 bc=>G.t1 (fun bf=>?_)));refine dx (fun C=>aj bl C) [] ?_;have j:=aj.refl bl;refine O.V 0 rfl j ?_;refine O.V 1 rfl j ?_;refine O.t1 2 rfl (fun C F=>bD) j ?_;refine O.e (g:=fun ad=> .pointer (some ad)) 3 (by kernel_rfl) rfl (by kernel_rfl) (by kernel_rfl) (by kernel_rfl) (Y.bL K (12+fk (b.drop a)) rfl dc cN rfl rfl) cQ rfl rfl j (fun c4 bq=>?_);refine O.t1 4 rfl (fun C F=>ar (bq.N.M F) dS) j ?_;refine O.t1 5 rfl (fun C F=>cU) j ?_;refine O.V 6 rfl j ?_;refine O.bj (d:=62) rfl (fun aS=>?_) (fun aS=>?_)
     ·
      have L:eU (cI l).length (b.drop a)=none:=FA (by rw[iB (by omega)];exact HT aS (by decide));refine O.g1 7 rfl rfl rfl rfl j ?_;refine O.g1 8 rfl rfl rfl rfl j ?_;refine O.g1 9 rfl rfl rfl rfl j ?_;refine O.g1 10 rfl rfl rfl rfl j ?_;refine O.g1 11 rfl rfl rfl rfl j ?_;refine O.g1 12 rfl rfl rfl rfl j ?_;refine O.g1 13 rfl rfl rfl rfl j ?_;refine O.g1 14 rfl rfl rfl rfl j ?_;refine O.t1 15 rfl (fun C F=>eh) j ?_;refine cx ?_;have cG:=j;refine bf ?_;refine G.iz rfl ?_;refine G.exit (bc (aE (aA (al ?_))));refine aH (G.L (fun bs=>?_));refine o.aQ 5 ?_;refine bs ?_;refine G.ret (aa (ae ?_));obtain⟨P,Q⟩:=B.stop L;obtain⟨so,rfl⟩:∃s:aN,A=s.v:=⟨cl A,i.bl.symm⟩;exact⟨so,l,by rw[B.e,←Q];rfl,P,(i.rd.imp (fun c _ e=>by have E:=(ai);unfold T at E;omega)),(fun x h=>(n x h).imp (fun c _ e=>ab c e)),k⟩
     ·
      have cD:(b.drop a).getD (12+fk (b.drop a)) 0=67:=by rw[iB (by omega)];exact HS (Decidable.byContradiction aS) (by decide)
      refine O.bI 7 rfl (fun C F=>fc) bd j ?_;refine O.e (g:=fun v=>v) 8 (by kernel_rfl) rfl (by kernel_rfl) (by kernel_rfl) (by kernel_rfl) (Y.slice K (4) (12) rfl dc cN rfl (.inr ⟨_,_,_,rfl,rfl,by first|rfl|omega⟩) (.inr ⟨_,_,_,rfl,rfl,by first|rfl|omega⟩) (by omega) (by omega)) bd rfl rfl j (fun bo aK=>?_);rw[show(12:Nat)=4+8 from rfl,ze]at aK;obtain⟨cd,rfl⟩:∃s:aN,bo=s.v:=⟨cl bo,aK.bl.symm⟩;refine O.bI 9 rfl (fun C F=>fc) bd j ?_;refine O.bI 10 rfl (fun C F=>Y.cast (v2:= .int .i64 (l.length:Int)) (bb (i.rd.M F) h7) (rfl)) bd j ?_;refine O.bI 11 rfl (fun C F=>fc) bd j ?_;refine O.aX 12 ?_;refine dq.call rfl rfl vh rfl bd rfl rfl (ny l.length cc (((b.drop a).drop 12).take (fk (b.drop a))) w0 _ V.any (by omega)) (fun df ct cf=>?_);obtain⟨cg,rfl,a6,R⟩:=cf;replace i:=i.M R;replace n:=fun x M=>(n x M).M R;replace V:=V.M R;replace aK:=aK.M R;replace k:=k.L R;replace q:=q.L R;have ce:=R.size;replace a6:=a6.bw;have bt:=j.L R;refine O.cc bt ?_;have bu:=aj.refl ct;refine O.aX 13 ?_;refine dq.call rfl rfl vf rfl bd rfl rfl (wm cd cg _ _ w0 _ aK.any a6.any) (fun dg cu cj=>?_);obtain⟨rfl,ac⟩:=cj;replace i:=i.M ac;replace n:=fun x M=>(n x M).M ac;replace V:=V.M ac;replace k:=k.L ac;replace q:=q.L ac;have dh:=ac.size;have bw:=bu.L ac;refine O.cc bw ?_;have au:=aj.refl cu;refine O.bI 14 rfl (fun C F=>Y.hp rfl rfl) bd au ?_;refine O.t1 15 rfl (fun C F=>dH) au ?_;refine cx ?_;have cG:=au;refine bf ?_;refine aU (fun a9=>?_) (fun a9=>?_)
      ·
       have L:eU (cI l).length (b.drop a)=none:=by rw[a8];exact Fz a9
       refine G.exit (bc (aE (aA (al ?_))));refine aH (G.L (fun bQ=>?_));refine o.aQ 5 ?_;refine bQ ?_;refine G.ret (aa (ae ?_));obtain⟨P,Q⟩:=B.stop L;obtain⟨so,rfl⟩:∃s:aN,A=s.v:=⟨cl A,i.bl.symm⟩;exact⟨so,l,by rw[B.e,←Q];rfl,P,(i.rd.imp (fun c _ e=>by have E:=(ai);unfold T at E;omega)),(fun x h=>(n x h).imp (fun c _ e=>ab c e)),k⟩
      ·
       have cH:eU (cI l).length (b.drop a)=some (((b.drop a).drop 12).take (fk (b.drop a))):=by rw[a8];exact FC (by omega) (by omega) (by omega) cD (Decidable.byContradiction (fun h=>a9 h))
       refine G.skip (a5 (G.L (fun cm=>?_)));refine o.ax 2 ?_;refine aW nx (mF _ (((b.drop a).drop 12).take (fk (b.drop a))) w0 _ V.any (by omega)) (fun dU ck bU=>?_);obtain⟨a7,aL,rfl,S,bg,aO⟩:=bU;have br:af N aL:=af.app (af.z) i.le bg;have cn:T 0 I.size aL:=T.L (T.refl 0 _) bg k.size;replace i:=i.M aO;replace n:=fun x M=>(n x M).M aO;replace q:=q.L aO;have ci:=aO.size;have bT:=S.le;refine o.aO (cT _ ([(a7,((b.drop a).drop 12).take (fk (b.drop a)))]) lv nB nC (rfl)) fun di bp bV=>?_;obtain⟨cJ,am,cM,be⟩:=bV;have c_:bp.size=ck.size+1:=by rw[be];simp
       replace i:=i.M am;replace n:=fun x M=>(n x M).M am;replace S:=S.M am;replace q:=q.L am;have dj:=am.size;refine o.aO (dQ i cJ.rd lv (by simp only[List.length_singleton];omega) (by simp only[List.length_singleton];omega)) fun bX dk bY=>?_;obtain⟨aM,i,aF,X⟩:=bY;replace aF:T N bp.size aM:=aF;replace X:=X.md;have cq:=ay.app (f1) (bj.mono (by omega)) aF;have cr:af aL aM:=af.app (br.symm) S.le aF;have bi:T 0 aT.size aM:=T.L (bm) aF q.size;replace n:=fun x M=>(n x M).ab X (az.J f1);replace S:=S.ab X (ah.J br.symm);replace q:=q.bo X (ag.J (aq.q bm));have dm:=X.size;have bR:=i.le;refine o.ak ?_;refine cm (G.region ?_);refine o.ax 2 ?_;refine o.v1 bD ?_;refine o.v1 bD ?_;refine o.v1 (Y.cast (v2:= .int .i64 ((a+(13+(((b.drop a).drop 12).take (fk (b.drop a))).length):Nat):Int)) bD (fM (by omega))) ?_;refine o.ak ?_;refine bC ?_;refine aP.sub (bA (a+(13+(((b.drop a).drop 12).take (fk (b.drop a))).length),bX,aM,l++[(a7,((b.drop a).drop 12).take (fk (b.drop a)))],fun c=>aR c∨c+1=aL) _ ?_ ?_) ⟨rfl,rfl,(aD (by omega)),trivial⟩
       ·exact⟨by unfold cI;rw[List.map_append];exact B.step cH,i,G7 (α:=Unit) (fb:=fun _=>(a7,[])) n (fun c e=> .inl e) (S.rd.imp (fun c _ e=> .inr e)),bh.eG (bj.mono (by omega)) S.le,ay.eG (cq) (cr.symm),fun c e=>by rcases e with e|e;exact ab c e;exact(by have E:=(cn);unfold T at E;omega),bi,q⟩
       ·show b.length-(a+(13+_))<b.length-a;omega
end lk

namespace iY
open E Go.RowKit ft gd gr gN gV hi hv hH hU lf lL
def hs(n:Nat)(x:f_):Prop:=x.now.length≤n∧x.stays.length≤n∧x.w.length≤n∧(∀y∈x.w,y.d.length≤n)∧∀j,(ly (x.w.take j) x.stays).length≤n
theorem hs.mono{n m:Nat}{x:f_}(h:hs n x)(hm:n≤m):hs m x:=⟨Nat.le_trans h.1 hm,Nat.le_trans h.2.1 hm,Nat.le_trans h.2.2.1 hm,fun y hy=>Nat.le_trans (h.2.2.2.1 y hy) hm,fun j=>Nat.le_trans (h.2.2.2.2 j) hm⟩
theorem hs.nil(n:Nat):hs n ⟨[],[],[]⟩:=⟨Nat.zero_le _,Nat.zero_le _,Nat.zero_le _,nofun,fun j=>by simp[ly]⟩
theorem hs.flat{n:Nat}{l:List UInt8}(h:l.length≤n):hs n ⟨l,l,[]⟩:=⟨h,h,Nat.zero_le _,nofun,fun j=>by simpa[ly]using h⟩
def oc(gf:List aH)(l:dy):Prop:=∀q,(aM l q).isSome=true→q∈gf
structure bQ (n:Nat) (D:aG):Prop where
 ak:fe D.now
 kj:fe D.stays
 dK:D.log.length≤n
 op:D.ops≤n
 fF:D.fs.length≤n
 f:∀i,hs n (b5 D.fs i)
 un:∃gf:List aH,gf.length≤n∧oc gf D.now∧oc gf D.stays∧∀c∈D.log,∀i,c.f=some i→c.n∈gf
 kS:∀c∈D.log,∀i,c.f=some i→cr c.n=c.dir
theorem bQ.mono{n m:Nat}{D:aG}(h:bQ n D)(hm:n≤m):bQ m D:=⟨h.ak,h.kj,Nat.le_trans h.dK hm,Nat.le_trans h.op hm,Nat.le_trans h.fF hm,fun i=>(h.f i).mono hm,by obtain⟨gf,d,U⟩:=h.un;exact⟨gf,Nat.le_trans d hm,U⟩,h.kS⟩
theorem zB{fs:List f_}{n:Nat}(h:∀i,(b5 fs i).now.length≤n):∀l:dy,iD fs l≤l.length*n
 |[]=>by simp[iD]
 |x::l=>by
  have d:=zB h l;have U:=h x.2;unfold iD at d⊢;rw[List.map_cons,List.sum_cons,List.length_cons,Nat.add_mul];omega
theorem w1{gf:List aH}{l:dy}(d:fe l)(h:oc gf l):l.length≤gf.length:=by
 have:=lx d.nodup (fun k i=>h k (gQ.2 i));rwa[List.length_map]at this
theorem bQ.bT{n:Nat}{D:aG}(h:bQ n D)(aA:n≤1073741824):gy 274877906944 D:=by
 obtain⟨gf,r,U,d,t⟩:=h.un;have aK:=w1 h.ak U;have k:=w1 h.kj d;have o:=zB (fun i=>(h.f i).1) D.now;have q:D.now.length*n≤1073741824*1073741824:=Nat.mul_le_mul (by omega) aA;exact⟨h.ak,h.kj,by unfold aG.used;omega,by have:=h.dK;omega,by have:=h.op;omega,fun i=>by have:=(h.f i).1;omega,fun i=>by have:=(h.f i).2.1;omega,fun i=>by have:=(h.f i).2.2.1;omega,fun i y hy=>by have:=(h.f i).2.2.2.1 y hy;omega,by omega,by omega,by have:=h.fF;omega,fun i j=>by have:=(h.f i).2.2.2.2 j;omega,h.kS⟩
theorem bQ.empty(cap most:Nat):bQ 0 (aG.empty cap most):=
 ⟨List.Pairwise.nil,List.Pairwise.nil,Nat.le_refl _,Nat.le_refl _,Nat.le_refl _,fun i=>by show hs 0 (List.getD [] i _);simpa using hs.nil 0,⟨[],Nat.le_refl _,nofun,nofun,nofun⟩,nofun⟩
theorem bQ.begin{n:Nat}{D:aG}(h:bQ n D):bQ (n+1) D.begin.2:=by
 obtain⟨aK,o,i,j,k,d,q⟩:=uO D;have h:=h.mono (Nat.le_succ n);exact⟨by rw[j];exact h.ak,by rw[k];exact h.kj,by rw[d];exact h.dK,by have:=bQ.op ‹bQ n D›;omega,by rw[i];exact h.fF,by rw[i];exact h.f,by rw[j,k,d];exact h.un,by rw[d];exact h.kS⟩
theorem DS{gf:List aH}{l:dy}{c:dN}(h:oc gf l)(av:∀i,c.f=some i→c.n∈gf):oc gf (c.ap l):=fun q d=>by
 rw[qF]at d;unfold dN.at at d
 cases j:c.f with
 |none=>
  rw[j]at d;simp only at d;split at d
  ·cases d
  ·exact h q d
 |some i=>
  rw[j]at d;simp only at d;split at d
  ·rename_i e;rw[e];exact av i j
  ·split at d
   ·cases d
   ·exact h q d
theorem bQ.put{n:Nat}{D:aG}(h:bQ n D)(i:Nat){x:f_}(k:hs n x):bQ n (D.fy i x):=
 ⟨h.ak,h.kj,h.dK,h.op,by rw[sq];exact h.fF,fun j=>by
  by_cases d:i<D.fs.length
  ·by_cases e:j=i
   ·subst e;rw[oM d];exact k
   ·show hs n ((D.fs.set i x).getD j _)
    rw[List.getD_eq_getElem?_getD,List.getElem?_set_ne (Ne.symm e),←List.getD_eq_getElem?_getD];exact h.f j
  ·show hs n ((D.fs.set i x).getD j _)
   rw[List.set_eq_of_length_le (by omega)];exact h.f j,h.un,h.kS⟩
theorem bQ.change{n:Nat}{D:aG}(h:bQ n D)(c:dN)(an:∀i,c.f=some i→cr c.n=c.dir):bQ (n+1) (D.change c):=by
 obtain⟨gf,x,U,r,t⟩:=h.un;refine⟨Ax h.ak c,h.kj,by show(D.log++[c]).length≤_;have:=h.dK;simp;omega,Nat.le_succ_of_le h.op,Nat.le_succ_of_le h.fF,fun i=>(h.f i).mono (Nat.le_succ _),⟨c.n::gf,by simp;omega,DS (fun q o=>List.mem_cons_of_mem _ (U q o)) (fun _ _=>List.mem_cons_self),fun q o=>List.mem_cons_of_mem _ (r q o),fun d j i k=>?_⟩,fun d j i k=>?_⟩
 ·rcases List.mem_append.1 j with j|j
  ·exact List.mem_cons_of_mem _ (t d j i k)
  ·rw[List.mem_singleton.1 j];exact List.mem_cons_self
 ·rcases List.mem_append.1 j with j|j
  ·exact h.kS d j i k
  ·rw[List.mem_singleton.1 j]at k⊢;exact an i k
theorem bQ.Ag{n:Nat}{D:aG}(h:bQ n D):bQ (n+1) ({D with fs:=D.fs++[⟨[],[],[]⟩]}:aG):=
 ⟨h.ak,h.kj,Nat.le_succ_of_le h.dK,Nat.le_succ_of_le h.op,by have:=h.fF;simp;omega,fun i=>by
  show hs (n+1) ((D.fs++[(⟨[],[],[]⟩:f_)]).getD i ⟨[],[],[]⟩);rw[List.getD_eq_getElem?_getD,List.getElem?_append];split
  ·rw[←List.getD_eq_getElem?_getD];exact(h.f i).mono (Nat.le_succ _)
  ·by_cases e:i-D.fs.length=0
   ·rw[e];exact hs.nil _
   ·rw[List.getElem?_eq_none (by simp;omega)];exact hs.nil _,(h.mono (Nat.le_succ _)).un,h.kS⟩
theorem bQ.make{n:Nat}{D:aG}(h:bQ n D)(p:aH):bQ (n+2) (D.make p).1:=by
 unfold aG.make;split
 ·exact h.mono (by omega)
 ·refine h.Ag.change _ (fun i _=>?_)
  simp[dN.dir]
theorem hs.laid{n:Nat}{x:f_}(h:hs n x)(w:dZ):hs (n+w.d.length+1) ⟨w.on x.now w.d.length,x.stays,x.w++[w]⟩:=by
 obtain⟨q,U,r,i,d⟩:=h;have t:=x0 w x.now w.d.length;refine⟨by show(w.on x.now w.d.length).length≤_;omega,by show x.stays.length≤_;omega,by show(x.w++[w]).length≤_;simp;omega,fun y hy=>?_,fun j=>?_⟩
 ·rcases List.mem_append.1 hy with hy|hy
  ·have:=i y hy;omega
  ·rw[List.mem_singleton.1 hy];omega
 ·show(ly ((x.w++[w]).take j) x.stays).length≤_
  rw[List.take_append];by_cases A:j≤x.w.length
  ·rw[show j-x.w.length=0 by omega,List.take_zero,List.append_nil];have:=d j;omega
  ·obtain⟨k,o⟩:∃k,j-x.w.length=k+1:=⟨j-x.w.length-1,by omega⟩
   rw[o]
   have e:ly (x.w.take j++[w].take (k+1)) x.stays=w.on (ly (x.w.take j) x.stays) w.d.length:=by
    unfold ly;rw[List.foldl_append,List.take_succ_cons,List.take_nil];rfl
   rw[e];have:=x0 w (ly (x.w.take j) x.stays) w.d.length;have:=d j;omega
theorem bQ.write{n:Nat}{D:aG}(h:bQ n D)(p:aH)(w:dZ):bQ (n+w.d.length+3) (D.write p w):=by
 unfold aG.write;have d:=h.make p;exact(d.mono (by omega)).put _ (((d.f _).laid w).mono (by omega))
theorem bQ.lay{n:Nat}{D:aG}(h:bQ n D)(p:aH)(w:dZ):bQ (n+w.d.length+4) (D.lay p w).2:=by
 unfold aG.lay;have d:=h.begin;simp only;split
 ·exact d.mono (by omega)
 ·simp only;split
  ·exact(d.write p w).mono (by omega)
  ·exact d.mono (by omega)
theorem bQ.sync{n:Nat}{D:aG}(h:bQ n D)(p:aH):bQ (n+1) (D.sync p).2:=by
 unfold aG.sync;have d:=h.begin;simp only;split
 ·exact d
 ·simp only;split
  ·exact d.put _ (hs.flat (d.f _).1)
  ·exact d
theorem bQ.rename{n:Nat}{D:aG}(h:bQ n D)(a b:aH):bQ (n+2) (D.rename a b).2:=by
 unfold aG.rename;have d:=h.begin;simp only;split
 ·exact d.mono (by omega)
 ·simp only;split
  ·rename_i U
   refine d.change _ (fun i _=>?_)
   have j:cz a=true∧cr a=cr b:=by
    have:=U.1;unfold aG.j5 at this;split at this
    ·cases this
    ·rename_i k;split at this
     ·cases this
     ·rename_i o;exact⟨by cases aA:cz a with
       |true=>rfl
       |false=>exact absurd (.inl aA) k,by simpa using o⟩
   unfold dN.dir;rw[if_neg (xQ j.1)];exact j.2.symm
  ·exact d.mono (by omega)
theorem bQ.iv{n:Nat}{D:aG}(h:bQ n D)(p:aH):bQ (n+1) (D.iv p).2:=by
 unfold aG.iv;have d:=h.begin;simp only;split
 ·exact d
 ·simp only;split
  ·obtain⟨gf,aK,j,k,o⟩:=d.un
   refine⟨d.ak,AA d.kj _,Nat.le_trans (List.length_filter_le _ _) d.dK,d.op,d.fF,d.f,⟨gf,aK,j,fun q i=>?_,fun c av=>o c (List.mem_filter.1 av).1⟩,fun c av=>d.kS c (List.mem_filter.1 av).1⟩;have i:(aM (merge D.begin.2.now D.begin.2.stays p) q).isSome=true:=i;rw[xt d.ak]at i;split at i
   ·exact j q i
   ·exact k q i
  ·exact d
end iY

namespace iZ
open E Go.RowKit ft gd gr gN gV hi hv hH hU lf lL iY
theorem E8{ch:World}(h:ch.ShapedOpen Tryz.prog):∃m,dY m ch.heap∧bh (fun b=>b=0) ch.heap.size:=by
 obtain⟨m,hm⟩:=cell_of_shapedOpen_int (g:=0) (t:=3) (zero:= #[.int .i64 0]) h (by decide) (by kernel_rfl) rfl (by kernel_rfl) (by kernel_rfl) Tryz.underlying3;have av:E.cell ch.heap ⟨0,0,none⟩=some (.int .i64 m):=by rw[←(At.cell (w0:=ch) ⟨rfl,rfl,rfl,rfl,Nat.le_refl _⟩ _)];exact hm
 refine⟨m,⟨⟨rfl,fun j c d=>?_⟩,rfl⟩,fun b aw=>?_⟩
 ·cases j with
  |zero=>cases d;exact av
  |succ j=>cases d
 ·have:=World.block_lt_of_cell? ch _ hm;simp only at aw;omega
section
variable {P : Program} {w0 : World} {n : Nat} {l : bZ} {H : Heap} {J : Oper}
end
theorem az.of{k:Nat}{K:List Nat}(d:ah k K):az (fun b=>b+1=k) K:=fun j i=>ay.of (d j i)
end iZ

namespace lN
open E Go.RowKit ft gd gr gN gV hi hv hH hU iY iZ kh kG lk
set_option maxRecDepth 100000 in
theorem dC:c4 Tryz.prog 57 5 1 1:=⟨Tryz.underlying57,_,_,rfl,rfl,rfl,rfl,rfl⟩
section
variable {P : Program} {w0 : World} {n : Nat} {l : bZ} {H H1 : Heap} {J : Oper}
theorem Y.wD{x:Operand}{s:TypeId}{k off d:Nat}{ad:Addr}{cs:List Value}{fs:Array Field}{fd:Field}(h:cg H1 ad cs)(o:J.op= .fieldAddr s x k)(hu:∀w,(underlying s).run P w= .ok (.struct fs) w)(j:fs[k]?=some fd)(q:fd.offset=off)
 (r:∀w,(sizeOf fd.type).run P w= .ok d w) (A:d≠0) (t:aF l x=some (.pointer (some ad))):Y P w0 n l H J (.pointer (some (ad.add off))):=by
 intro ac w i B;simp[execOp,o,i.eval t,Instr.fieldAt,Instr.sureAddr,fieldPlace,hu,j,q,r,A]
end
def cG(p:aH):aH:=p++[46,110,101,119]
abbrev h8:=aG→Nat×aG
def c3:List h8→aG→Nat×aG
 |[],D=>(0,D)
 |f::fs,D=>if(f D).1=0 then c3 fs (f D).2 else f D
def po(Fs:List h8)(i:Nat):h8:=Fs.getD i (fun D=>(0,D))
theorem tv:∀(a b:List h8) (D:aG),c3 (a++b) D=if(c3 a D).1=0 then c3 b (c3 a D).2 else c3 a D
 |[],b,D=>by simp[c3]
 |f::a,b,D=>by
  rw[List.cons_append,c3,c3];by_cases h:(f D).1=0
  ·rw[if_pos h,if_pos h,tv a b]
  ·rw[if_neg h,if_neg h,if_neg h]
theorem GB(f:h8)(D:aG):c3 [f] D=f D:=by
 unfold c3 c3;split
 ·rename_i h;exact Prod.ext h.symm rfl
 ·rfl
theorem GD{Fs:List h8}{i:Nat}{D:aG}(h:i<Fs.length)(d:(c3 (Fs.take i) D).1=0):c3 (Fs.take (i+1)) D=po Fs i (c3 (Fs.take i) D).2:=by
 rw[List.take_succ_eq_append_getElem h,tv,if_pos d,GB];unfold po;rw[List.getD_eq_getElem?_getD,List.getElem?_eq_getElem h];rfl
theorem GC{Fs:List h8}{i:Nat}{D:aG}(h:(c3 (Fs.take i) D).1≠0):c3 Fs D=c3 (Fs.take i) D:=by
 conv=>lhs;rw[←List.take_append_drop i Fs]
 rw[tv,if_neg h]
theorem pV{k:Nat}:∀{fs:List h8} {cb:Nat} {D:aG},(∀f∈fs,∀cb D,bQ cb D→bQ (cb+k) (f D).2)→bQ cb D→bQ (cb+k*fs.length) (c3 fs D).2
 |[],cb,D,_,h=>by simpa[c3]using h
 |f::fs,cb,D,i,h=>by
  have d:=i f List.mem_cons_self cb D h;unfold c3;split
  ·have:=pV (fs:=fs) (fun g j=>i g (List.mem_cons_of_mem _ j)) d
   rw[List.length_cons];exact this.mono (by rw[Nat.mul_add];omega)
  ·rw[List.length_cons];exact d.mono (by rw[Nat.mul_add];omega)
theorem uX{k:Nat}{fs:List h8}{cb:Nat}{D:aG}(i:Nat)(d:∀f∈fs,∀cb D,bQ cb D→bQ (cb+k) (f D).2)(h:bQ cb D):bQ (cb+k*fs.length) (c3 (fs.take i) D).2:=by
 have:=pV (fs:=fs.take i) (fun f hm=>d f (List.mem_of_mem_take hm)) h;exact this.mono (Nat.add_le_add_left (Nat.mul_le_mul_left _ (by rw[List.length_take];omega)) _)
def jd(p:aH)(l:List Rec):List h8:=[fun D=>D.lay (cG p) ⟨false,cR l⟩,fun D=>D.sync (cG p),fun D=>D.rename (cG p) p,fun D=>D.iv (cr p)]
def gW(p:aH)(n:Nat)(r:Rec):List h8:=[fun D=>D.lay p ⟨true,jf n r⟩,fun D=>D.sync p,fun D=>D.lay p ⟨true,[67]⟩,fun D=>D.sync p]
theorem wO(p:aH)(l:List Rec):∀f∈jd p l,∀cb D,bQ cb D→bQ (cb+((cR l).length+20)) (f D).2:=by
 intro f d cb D h;simp only[jd,List.mem_cons,List.not_mem_nil,or_false]at d;rcases d with rfl|rfl|rfl|rfl
 ·exact(h.lay (cG p) ⟨false,cR l⟩).mono (by simp only;omega)
 ·exact(h.sync _).mono (by omega)
 ·exact(h.rename _ _).mono (by omega)
 ·exact(h.iv _).mono (by omega)
theorem uB(p:aH)(n:Nat)(r:Rec):∀f∈gW p n r,∀cb D,bQ cb D→bQ (cb+(r.length+20)) (f D).2:=by
 intro f d cb D h;simp only[gW,List.mem_cons,List.not_mem_nil,or_false]at d;rcases d with rfl|rfl|rfl|rfl
 ·exact(h.lay p ⟨true,jf n r⟩).mono (by simp only[oU];omega)
 ·exact(h.sync _).mono (by omega)
 ·exact(h.lay p ⟨true,[67]⟩).mono (by simp only[List.length_singleton];omega)
 ·exact(h.sync _).mono (by omega)
def eJ(D:aG)(p:aH)(l:List Rec):Nat×aG:=c3 (jd p l) D
theorem rX{cb:Nat}{D:aG}(h:bQ cb D)(p:aH)(l:List Rec):bQ (cb+4*((cR l).length+20)) (eJ D p l).2:=(pV (wO p l) h).mono (by simp[jd];omega)
theorem CS(p:aH):(cr p).length≤p.length:=by
 unfold cr mQ;split
 ·exact List.length_take_le' _ _
 ·exact Nat.zero_le _
theorem o6(p:aH):(cG p).length=p.length+4:=by simp[cG]
abbrev jF:=Nat×List Value
abbrev sl(x:jF):List Value:=[.func (.func x.1) #[] x.2.toArray]
theorem wq(x:jF):(sl x).length=1:=rfl
theorem wu(x:jF):∀u∈sl x,u.oneCell'=true:=by intro u hu;simp only[List.mem_singleton]at hu;subst hu;rfl
def rv(w0:World)(b:Nat)(f:h8)(v:Value)(K:List Nat)(H:Heap)(D:aG):Prop:=
 ff Tryz.prog w0 v [] H (fun r d=>∃(bp:List Nat) (g2:cD),r= .int .i64 ((f D).1:Int)∧bn bp g2 d b (f D).2∧aZ K H.size bp∧W (aE K) H d)
theorem wF(K:List Nat)(g:cD)(b:Nat)(D:aG)(v:Value)(l:List jF)(Fs:List h8)(F:Nat→Prop)(w0:World)(I:Heap)
 (d:bn K g I b D) (A:Rd F I sl 1 v l) (bg:bh F I.size) (aT:az F K) (bk:l.length=Fs.length) (aY:∀(i:Nat) (h:i<l.length) (gh:List Nat) (aW:cD) (aa:Heap),bn gh aW aa b (c3 (Fs.take i) D).2→aZ K I.size gh→W (aE K) I aa→rv w0 b (po Fs i) (.func (.func l[i].1) #[] l[i].2.toArray) gh aa (c3 (Fs.take i) D).2):
 aC Tryz.prog w0 108 #[v] I (fun r P=>∃bp:List Nat,∃g2:cD,r= .int .i64 ((c3 Fs D).1:Int)∧(bn bp g2 P b (c3 Fs D).2)∧(aZ K I.size bp)∧W (aE K) I P):=by
 refine aC.aK [v] Tryz.func108 ?_;intro a7 X;have j:W (aE K) I I:=W.refl _ _;have Q:=aZ.refl K I.size;have ac:=d.aB;have bl:=A.len;refine G.L (fun aL=>?_);refine o.ak ?_;refine aL (G.seq (fun bp aM aN=>G.L (fun aO=>?_)));refine o.V ?_;refine o.v1 (bb A zv) ?_;refine o.V (o.nil (aO ?_));refine G.aB (fun _ aQ aR=>?_)
 refine G.bg (fun(a1:(Nat)×(List Nat)×(cD))=>match a1 with|(i,n,t)=>[(6,v),(7,.int .i64 (l.length:Int)),(8,.int .i64 (i:Int))])
  (fun(i,n,t) (H:Heap)=>(bn n t H b (c3 (Fs.take i) D).2)∧(i≤l.length)∧((c3 (Fs.take i) D).1=0)∧(aZ K I.size n)∧W (aE K) I H)
  (fun(i,n,t)=>l.length-i) (0,K,g) ⟨rfl,rfl,rfl,trivial⟩ ?_ ?_
 ·
  exact⟨d,(by omega),rfl,aZ.refl _ _,W.refl _ _⟩
 rintro⟨i,n,t⟩ a_ Z a6 ab T;obtain⟨d,bj,M,R,q⟩:=Z;have B:aZ K I.size n:=aZ.L (Q) R j.size;replace A:=A.ab q (aT);replace j:=j.aJ q (ag.cH (Q) (by intro k x;simp[x]));have ba:=q.size;have ac:=d.aB;have V:=R;refine G.L (fun ae=>?_);refine o.v1 bJ (o.nil (ae ?_));refine G.t2 (fun af ah=>?_);refine aU (fun aS=>?_) (fun aS=>?_)
 ·
  have N:i<l.length:=by omega
  have E:=GD (Fs:=Fs) (D:=D) (i:=i) (by omega) M;refine G.skip (af (G.t2 (fun ai ak=>G.aB (fun al _ aq=>G.L (fun aI=>?_)))));refine o.bR (Y.bL A (i) rfl zv GR rfl rfl) fun a8 aJ=>?_;refine o.v1 (ar aJ.N z1) ?_;refine o.ak ?_;refine aI (G.L (fun au=>?_));refine o.V ?_;refine o.kk rfl rfl rfl cQ rfl rfl (aY i N n t _ d (B) j) (fun bc bd ay=>?_);obtain⟨C,aA,rfl,d,S,L⟩:=ay;have aB:aZ K I.size C:=aZ.L (B) S j.size;have aF:aZ K I.size C:=aZ.L (V) S q.size;replace j:=j.aJ L (ag.cH (B) (by intro k x;simp[x]));replace q:=q.aJ L (ag.cH (V) (by intro k x;simp[x]));have bf:=L.size;have ac:=d.aB;refine o.ak ?_;refine au (G.L (fun am=>?_));refine o.V ?_;refine o.v1 cU (o.nil (am ?_));refine aU (fun aH=>?_) (fun aH=>?_)
  ·
   have aX:(c3 (Fs.take (i+1)) D).1≠0:=by rw[E];omega
   have O:=GC aX;rw[E]at O;refine G.seq (fun C aK _=>G.region ?_);refine o.aQ 2 ?_;refine aK _ _ ?_;refine G.ret (aq (ak (T (aR (aN .ret nofun _ _ (X ?_))))));exact⟨_,_,by rw[O],by rw[O];exact d,aB,j⟩
  ·
   refine G.skip (al (ai (G.region ?_)));refine o.v1 bD ?_;refine o.V (o.nil ?_);refine aP.sub (ab (i+1,C,aA) _ ?_ ?_) ⟨rfl,(aD (by omega)),(aD (by omega)),trivial⟩
   ·exact⟨by rw[E];exact d,(by omega),by rw[E];omega,aF,q⟩
   ·first|omega|(simp only;omega)|(simp;omega)
 ·
  refine G.exit (ah (T (aQ ?_)));refine aM _ _ (G.L (fun ap=>?_));refine o.ak ?_;refine ap ?_;refine G.ret (X ?_);have N:i=Fs.length:=by omega
  rw[N,List.take_length]at d M;exact⟨_,_,by rw[M];rfl,d,B,j⟩
structure mo (K:List Nat) (H:Heap) (bk:Int) (b c aY:Nat) (p:aH) (n:Nat) (br:Bool):Prop where
 aL:dY bk H
 kH:bh (fun b=>b=0) H.size
 dk:az (fun b=>b=0) K
 dr:Var 103 H c [ptr aY]
 dK:Var 206 H aY [ptr b,aI p,.int .i64 (n:Int),.bool br]
 dW:ah (c+1) K
 dl:ah (aY+1) K
theorem mo.up{K bp:List Nat}{H d:Heap}{bk:Int}{b c aY n:Nat}{p:aH}{br:Bool}(h:mo K H bk b c aY p n br)(s:W (aE K) H d)(x:aZ K H.size bp):mo bp d bk b c aY p n br:=
 ⟨h.aL.ab s h.dk,fun b aw=>by have:=h.kH b aw;have:=s.size;omega,az.hk h.dk h.kH x,h.dr.ab s h.dW,h.dK.ab s h.dl,ah.hk h.dW h.dr.lt x,ah.hk h.dl h.dK.lt x⟩
structure mv {α:Type} (K:List Nat) (F:Nat→Prop) (H:Heap) (f:α→List Value) (v:Value) (l:List α):Prop where
 rd:Rd F H f 1 v l
 bY:bh F H.size
 gi:az F K
theorem mv.up{α:Type}{K bp:List Nat}{F:Nat→Prop}{H d:Heap}{f:α→List Value}{v:Value}{l:List α}(h:mv K F H f v l)(s:W (aE K) H d)(x:aZ K H.size bp):mv bp F d f v l:=
 ⟨h.rd.ab s h.gi,fun b aw=>by have:=h.bY b aw;have:=s.size;omega,az.hk h.gi h.bY x⟩
structure lj (K:List Nat) (H:Heap) (e:TypeId) (c:Nat) (cs:List Value):Prop where
 v:Var e H c cs
 d:ah (c+1) K
theorem lj.up{K bp:List Nat}{H d:Heap}{e:TypeId}{c:Nat}{cs:List Value}(h:lj K H e c cs)(s:W (aE K) H d)(x:aZ K H.size bp):lj bp d e c cs:=⟨h.v.ab s h.d,ah.hk h.d h.v.lt x⟩
set_option maxHeartbeats 2000000 in
theorem uI(bk:Int)(K:List Nat)(g:cD)(b:Nat)(D:aG)(c aY:Nat)(p:aH)(n:Nat)(br:Bool)(w0:World)(I:Heap)
 (i:bn K g I b D) (aL:dY bk I) (L:bh (fun b=>b=0) I.size) (dk:az (fun b=>b=0) K) (av:Var 103 I c [ptr aY]) (d:Var 206 I aY [ptr b,aI p,.int .i64 (n:Int),.bool br]) (dW:ah (c+1) K) (dl:ah (aY+1) K) (P:p.length≤4294967280) (M:gy 274877906944 D):
 aC Tryz.prog w0 106 #[ptr c] I (fun r q=>∃bp:List Nat,∃g2:cD,r= .int .i64 ((D.sync p).1:Int)∧(bn bp g2 q b (D.sync p).2)∧(aZ K I.size bp)∧W (aE K) I q):=by
 refine aC.aK [ptr c] Tryz.func106 ?_;intro R Q;have j:W (aE K) I I:=W.refl _ _;have t:=aZ.refl K I.size;have ad:=i.aB;have T:=av.lt;have ac:=d.lt;refine G.L (fun B=>?_);refine o.ak ?_;refine B (G.seq (fun bp C _=>?_));refine iW 8 (fun S N=>?_);refine o.v1 (ar av.N hj) ?_;refine o.bH ?_;refine o.v1 (Y.ai d.N rfl gm rfl mc) ?_;refine o.v1 (ar d.N lP) ?_;refine o.v1 (ar av.N hj) ?_;refine o.bH ?_;refine o.v1 (Y.ai d.N rfl gm rfl bP) ?_;refine o.v1 (ar (d.N.drop 1) bN) ?_;refine o.nil (N _ ?_);refine aW u2 (za bk K g b D p w0 _ i aL (L.mono (by omega)) (dk) P M) (fun au am E=>?_);obtain⟨F,V,rfl,i,x,A⟩:=E;have H:aZ K I.size F:=aZ.L (t) x j.size;replace j:=j.aJ A (ag.cH (t) (by intro k O;simp[O]));refine o.ak ?_;refine C _ _ ?_;refine G.ret (Q ?_);exact⟨_,_,rfl,i,H,j⟩
set_option maxHeartbeats 2000000 in
theorem Ah(bk:Int)(K:List Nat)(g:cD)(b:Nat)(D:aG)(c aY:Nat)(p:aH)(n:Nat)(br:Bool)(dE:Nat)(s:aN)(rc:List UInt8)(F:Nat→Prop)(w0:World)(I:Heap)
 (t:bn K g I b D) (aL:dY bk I) (aA:bh (fun b=>b=0) I.size) (dk:az (fun b=>b=0) K) (av:Var 103 I c [ptr aY]) (A:Var 206 I aY [ptr b,aI p,.int .i64 (n:Int),.bool br]) (dW:ah (c+1) K) (dl:ah (aY+1) K) (S:Var 57 I dE [s.v]) (d3:ah (dE+1) K) (aF:Rd F I a1 1 s.v rc) (aU:bh F I.size) (aW:az F K) (aK:rc.length≤4294967000) (aD:p.length≤4294967280) (aB:gy 274877906944 D):
 aC Tryz.prog w0 109 #[ptr c,ptr dE] I (fun r M=>∃bp:List Nat,∃g2:cD,r= .int .i64 ((D.lay p ⟨true,jf n rc⟩).1:Int)∧(bn bp g2 M b (D.lay p ⟨true,jf n rc⟩).2)∧(aZ K I.size bp)∧W (aE K) I M):=by
 refine aC.aK [ptr c,ptr dE] Tryz.func109 ?_;intro aM aJ;have C:W (aE K) I I:=W.refl _ _;have N:=aZ.refl K I.size;have ap:=t.aB;have aT:=av.lt;have au:=A.lt;have am:=S.lt;refine G.L (fun ak=>?_);refine o.ak ?_;refine ak (G.seq (fun bp al _=>?_));refine dx (fun j=>W (aE K) I j) [] ?_;have d:W (aE K) I I:=W.refl _ _;have ay:=aZ.refl K I.size;refine O.t1 0 rfl (fun j i=>Y.fU (av.ab i (dW)).N rfl hj rfl) d ?_;refine O.bH 1 rfl d ?_;refine O.t1 2 rfl (fun j i=>Y.fieldAddr (A.ab i (dl)).N rfl gm rfl rfl mc (by decide) rfl) d ?_;refine O.t1 3 rfl (fun j i=>Y.fU (A.ab i (dl)).N rfl lP rfl) d ?_;refine O.t1 4 rfl (fun j i=>Y.fU (av.ab i (dW)).N rfl hj rfl) d ?_;refine O.bH 5 rfl d ?_;refine O.t1 6 rfl (fun j i=>Y.fieldAddr (A.ab i (dl)).N rfl gm rfl rfl bP (by decide) rfl) d ?_;refine O.t1 7 rfl (fun j i=>ar ((A.ab i (dl)).N.drop 1) bN) d ?_;refine O.t1 8 rfl (fun j i=>Y.fU (av.ab i (dW)).N rfl hj rfl) d ?_;refine O.bH 9 rfl d ?_;refine O.t1 10 rfl (fun j i=>Y.fieldAddr (A.ab i (dl)).N rfl gm rfl rfl b0 (by decide) rfl) d ?_;refine O.t1 11 rfl (fun j i=>ar ((A.ab i (dl)).N.drop 2) cj) d ?_;refine O.t1 12 rfl (fun j i=>Y.fU (S.ab i (d3)).N rfl eD rfl) d ?_;refine O.aX 13 ?_;refine cf u5 (zH n s rc w0 _ aF.any aK) (fun aO B V=>?_);obtain⟨X,q,rfl,H,P,ac⟩:=V;have Z:ah q K:=ah.oy (ah.kb) t.aB P;have aa:T 0 I.size q:=T.L (T.refl 0 _) P d.size;replace t:=t.M ac;replace aL:=aL.M ac;replace C:=C.bc ac;replace d:=d.bc ac;have aP:=ac.size;have aS:=H.le;refine⟨.inr d,O.narrow (SH2:=fun j=>W (aE (K++[q])) B j) (fun j i=>d.aJ i (ag.app (ag.cH (ay) (by intro k x;simp[x])) (ag.J (aq.q aa)))) ?_⟩;have d:W (aE (K++[q])) B B:=W.refl _ _;have Q:=aZ.refl K B.size;have ae:=T.refl q B.size;refine O.aX 14 ?_;refine cf u4 (uD bk K g b D p X (jf n rc) _ w0 _ t aL (aA.mono (by omega)) (dk) H.rd (bh.of H.le) (az.of (Z)) aD aB (by rw[oU];omega)) (fun aQ L ab=>?_);obtain⟨E,aR,rfl,t,ad,R⟩:=ab;have af:aZ K I.size E:=aZ.L (N) ad C.size;have ai:aZ K B.size E:=aZ.L (Q) ad d.size;replace C:=C.aJ R (ag.cH (N) (by intro k x;simp[x]));replace d:=d.aJ R (ag.cH (Q) (by intro k x;simp[x]));refine⟨.inr d,O.narrow (SH2:=fun j=>W (aE (E++[q])) L j) (fun j i=>d.aJ i (ag.app (ag.cH (ai) (by intro k x;simp[x])) (ag.J (aq.r ae)))) ?_⟩;have d:W (aE (E++[q])) L L:=W.refl _ _;refine O.t1 15 rfl (fun j i=>ej) d ?_;refine cx ?_;refine al _ _ ?_;refine G.ret (aJ ?_);exact⟨_,_,rfl,t,af,C⟩
set_option maxHeartbeats 2000000 in
theorem Aj(bk:Int)(K:List Nat)(g:cD)(b:Nat)(D:aG)(c aY:Nat)(p:aH)(n:Nat)(br:Bool)(w0:World)(I:Heap)
 (t:bn K g I b D) (aL:dY bk I) (af:bh (fun b=>b=0) I.size) (dk:az (fun b=>b=0) K) (av:Var 103 I c [ptr aY]) (B:Var 206 I aY [ptr b,aI p,.int .i64 (n:Int),.bool br]) (dW:ah (c+1) K) (dl:ah (aY+1) K) (ak:p.length≤4294967280) (ai:gy 274877906944 D):
 aC Tryz.prog w0 112 #[ptr c] I (fun r F=>∃bp:List Nat,∃g2:cD,r= .int .i64 ((D.lay p ⟨true,[67]⟩).1:Int)∧(bn bp g2 F b (D.lay p ⟨true,[67]⟩).2)∧(aZ K I.size bp)∧W (aE K) I F):=by
 refine aC.aK [ptr c] Tryz.func112 ?_;intro ay al;have A:W (aE K) I I:=W.refl _ _;have H:=aZ.refl K I.size;have aJ:=t.aB;have aK:=av.lt;have aF:=B.lt;refine G.L (fun Z=>?_);refine o.ak ?_;refine Z (G.seq (fun bp aa _=>?_));refine dx (fun j=>W (aE K) I j) [] ?_;have d:W (aE K) I I:=W.refl _ _;have ab:=aZ.refl K I.size;refine O.t1 0 rfl (fun j i=>Y.fU (av.ab i (dW)).N rfl hj rfl) d ?_;refine O.bH 1 rfl d ?_;refine O.t1 2 rfl (fun j i=>Y.fieldAddr (B.ab i (dl)).N rfl gm rfl rfl mc (by decide) rfl) d ?_;refine O.t1 3 rfl (fun j i=>Y.fU (B.ab i (dl)).N rfl lP rfl) d ?_;refine O.t1 4 rfl (fun j i=>Y.fU (av.ab i (dW)).N rfl hj rfl) d ?_;refine O.bH 5 rfl d ?_;refine O.t1 6 rfl (fun j i=>Y.fieldAddr (B.ab i (dl)).N rfl gm rfl rfl bP (by decide) rfl) d ?_;refine O.t1 7 rfl (fun j i=>ar ((B.ab i (dl)).N.drop 1) bN) d ?_;refine O.aX 8 ?_;refine et rfl (cT _ ([(67:UInt8)]) dC eE fK (rfl)) (fun M q ae=>?_);obtain⟨E,ac,aO,au⟩:=ae;have aM:q.size=I.size+1:=by rw[au];simp
 have P:ah (I.size+1) K:=ah.ho t.aB;have Q:T 0 I.size (I.size+1):=T.new d.size;replace t:=t.M ac;replace aL:=aL.M ac;replace A:=A.bc ac;replace d:=d.bc ac;have aA:=ac.size;obtain⟨R,rfl⟩:∃s:aN,M=s.v:=⟨cl M,E.bl.symm⟩;refine⟨.inr d,O.narrow (SH2:=fun j=>W (aE (K++[(I.size+1)])) q j) (fun j i=>d.aJ i (ag.app (ag.cH (ab) (by intro k x;simp[x])) (ag.J (aq.q Q)))) ?_⟩;have d:W (aE (K++[(I.size+1)])) q q:=W.refl _ _;have N:=aZ.refl K q.size;have S:=T.refl (I.size+1) q.size;refine O.aX 9 ?_;refine cf u4 (uD bk K g b D p R [67] _ w0 _ t aL (af.mono (by omega)) (dk) E.rd (bh.of E.le) (az.of (P)) ak ai (by decide)) (fun aB am V=>?_);obtain⟨C,aD,rfl,t,ad,L⟩:=V;have X:aZ K I.size C:=aZ.L (H) ad A.size;have ap:aZ K q.size C:=aZ.L (N) ad d.size;replace A:=A.aJ L (ag.cH (H) (by intro k x;simp[x]));replace d:=d.aJ L (ag.cH (N) (by intro k x;simp[x]));refine⟨.inr d,O.narrow (SH2:=fun j=>W (aE (C++[(I.size+1)])) am j) (fun j i=>d.aJ i (ag.app (ag.cH (ap) (by intro k x;simp[x])) (ag.J (aq.r S)))) ?_⟩;have d:W (aE (C++[(I.size+1)])) am am:=W.refl _ _;refine O.t1 10 rfl (fun j i=>ej) d ?_;refine cx ?_;refine aa _ _ ?_;refine G.ret (al ?_);exact⟨_,_,rfl,t,X,A⟩
set_option maxHeartbeats 2000000 in
theorem CR(bk:Int)(K:List Nat)(g:cD)(b:Nat)(D:aG)(c aY:Nat)(p:aH)(n:Nat)(br:Bool)(cy:Nat)(dE:Nat)(s:aN)(l:List (aN×Rec))(F:Nat→Prop)(w0:World)(I:Heap)
 (t:bn K g I b D) (aL:dY bk I) (aA:bh (fun b=>b=0) I.size) (dk:az (fun b=>b=0) K) (av:Var 103 I c [ptr aY]) (L:Var 206 I aY [ptr b,aI p,.int .i64 (n:Int),.bool br]) (dW:ah (c+1) K) (dl:ah (aY+1) K) (V:Var 9 I cy [aI (cG p)]) (d7:ah (cy+1) K) (S:Var 104 I dE [s.v]) (d3:ah (dE+1) K) (aD:Rd F I iG 1 s.v l) (aX:bh F I.size) (a7:az F K) (aK:∀x∈l,Rd F I a1 1 x.1.v x.2) (a6:bh F I.size) (a8:az F K) (aJ:∀x∈l,x.2.length≤1048576) (ba:(e3 0 (cI l)).length≤274877900000) (bb:p.length≤4294960000) (aB:gy 274877906944 D):
 aC Tryz.prog w0 169 #[ptr c,ptr cy,ptr dE] I (fun r M=>∃bp:List Nat,∃g2:cD,r= .int .i64 ((D.lay (cG p) ⟨false,cR (cI l)⟩).1:Int)∧(bn bp g2 M b (D.lay (cG p) ⟨false,cR (cI l)⟩).2)∧(aZ K I.size bp)∧W (aE K) I M):=by
 refine aC.aK [ptr c,ptr cy,ptr dE] Tryz.func169 ?_;intro aM aF;have C:W (aE K) I I:=W.refl _ _;have N:=aZ.refl K I.size;have aU:=t.aB;have aW:=av.lt;have au:=L.lt;have am:=V.lt;have aT:=S.lt;refine G.L (fun ay=>?_);refine o.ak ?_;refine ay (G.seq (fun bp X _=>?_));refine dx (fun j=>W (aE K) I j) [] ?_;have d:W (aE K) I I:=W.refl _ _;have Z:=aZ.refl K I.size;refine O.t1 0 rfl (fun j i=>Y.fU (av.ab i (dW)).N rfl hj rfl) d ?_;refine O.bH 1 rfl d ?_;refine O.t1 2 rfl (fun j i=>Y.fieldAddr (L.ab i (dl)).N rfl gm rfl rfl mc (by decide) rfl) d ?_;refine O.t1 3 rfl (fun j i=>Y.fU (L.ab i (dl)).N rfl lP rfl) d ?_;refine O.t1 4 rfl (fun j i=>Y.fU (V.ab i (d7)).N rfl bN rfl) d ?_;refine O.t1 5 rfl (fun j i=>Y.fU (S.ab i (d3)).N rfl rJ rfl) d ?_;refine O.aX 6 ?_;refine cf Bq (C9 s l w0 _ aD.any (fun x h=>(aK x h).any) aJ (by omega)) (fun aO B aa=>?_);obtain⟨ab,q,rfl,E,P,ac⟩:=aa;have ae:ah q K:=ah.oy (ah.kb) t.aB P;have ai:T 0 I.size q:=T.L (T.refl 0 _) P d.size;replace t:=t.M ac;replace aL:=aL.M ac;replace C:=C.bc ac;replace d:=d.bc ac;have aP:=ac.size;have aS:=E.le;refine⟨.inr d,O.narrow (SH2:=fun j=>W (aE (K++[q])) B j) (fun j i=>d.aJ i (ag.app (ag.cH (Z) (by intro k A;simp[A])) (ag.J (aq.q ai)))) ?_⟩;have d:W (aE (K++[q])) B B:=W.refl _ _;have Q:=aZ.refl K B.size;have ak:=T.refl q B.size;refine O.aX 7 ?_;refine cf Bp (rm bk K g b D (cG p) ab (cR (cI l)) _ w0 _ t aL (aA.mono (by omega)) (dk) E.rd (bh.of E.le) (az.of (ae)) (by rw[o6];omega) aB (by unfold cR;rw[List.length_append];have a_:gA.length=8:=rfl;omega)) (fun aQ H af=>?_);obtain⟨ap,aR,rfl,t,ad,R⟩:=af;have al:aZ K I.size ap:=aZ.L (N) ad C.size;have ar:aZ K B.size ap:=aZ.L (Q) ad d.size;replace C:=C.aJ R (ag.cH (N) (by intro k A;simp[A]));replace d:=d.aJ R (ag.cH (Q) (by intro k A;simp[A]));refine⟨.inr d,O.narrow (SH2:=fun j=>W (aE (ap++[q])) H j) (fun j i=>d.aJ i (ag.app (ag.cH (ar) (by intro k A;simp[A])) (ag.J (aq.r ak)))) ?_⟩;have d:W (aE (ap++[q])) H H:=W.refl _ _;refine O.t1 8 rfl (fun j i=>ej) d ?_;refine cx ?_;refine X _ _ ?_;refine G.ret (aF ?_);exact⟨_,_,rfl,t,al,C⟩
set_option maxHeartbeats 2000000 in
theorem CP(bk:Int)(K:List Nat)(g:cD)(b:Nat)(D:aG)(c aY:Nat)(p:aH)(n:Nat)(br:Bool)(cy:Nat)(w0:World)(I:Heap)
 (d:bn K g I b D) (aL:dY bk I) (L:bh (fun b=>b=0) I.size) (dk:az (fun b=>b=0) K) (av:Var 103 I c [ptr aY]) (j:Var 206 I aY [ptr b,aI p,.int .i64 (n:Int),.bool br]) (dW:ah (c+1) K) (dl:ah (aY+1) K) (x:Var 9 I cy [aI (cG p)]) (d7:ah (cy+1) K) (X:p.length≤4294960000) (M:gy 274877906944 D):
 aC Tryz.prog w0 172 #[ptr c,ptr cy] I (fun r q=>∃bp:List Nat,∃g2:cD,r= .int .i64 ((D.sync (cG p)).1:Int)∧(bn bp g2 q b (D.sync (cG p)).2)∧(aZ K I.size bp)∧W (aE K) I q):=by
 refine aC.aK [ptr c,ptr cy] Tryz.func172 ?_;intro R P;have i:W (aE K) I I:=W.refl _ _;have t:=aZ.refl K I.size;have ad:=d.aB;have V:=av.lt;have T:=j.lt;have ac:=x.lt;refine G.L (fun C=>?_);refine o.ak ?_;refine C (G.seq (fun bp E _=>?_));refine iW 5 (fun S N=>?_);refine o.v1 (ar av.N hj) ?_;refine o.bH ?_;refine o.v1 (Y.ai j.N rfl gm rfl mc) ?_;refine o.v1 (ar j.N lP) ?_;refine o.v1 (ar x.N bN) ?_;refine o.nil (N _ ?_);refine aW u2 (za bk K g b D (cG p) w0 _ d aL (L.mono (by omega)) (dk) (by rw[o6];omega) M) ?_;rintro Z Q ⟨A,g8,rfl,d,B,F⟩;have H:aZ K I.size A:=aZ.L (t) B i.size;replace i:=i.aJ F (ag.cH (t) (by intro k O;simp[O]));refine o.ak ?_;refine E _ _ ?_;refine G.ret (P ?_);exact⟨_,_,rfl,d,H,i⟩
set_option maxHeartbeats 2000000 in
theorem CM(bk:Int)(K:List Nat)(g:cD)(b:Nat)(D:aG)(c aY:Nat)(p:aH)(n:Nat)(br:Bool)(cy:Nat)(w0:World)(I:Heap)
 (i:bn K g I b D) (aL:dY bk I) (L:bh (fun b=>b=0) I.size) (dk:az (fun b=>b=0) K) (av:Var 103 I c [ptr aY]) (d:Var 206 I aY [ptr b,aI p,.int .i64 (n:Int),.bool br]) (dW:ah (c+1) K) (dl:ah (aY+1) K) (x:Var 9 I cy [aI (cG p)]) (d7:ah (cy+1) K) (X:p.length≤4294960000) (M:gy 274877906944 D):
 aC Tryz.prog w0 173 #[ptr c,ptr cy] I (fun r q=>∃bp:List Nat,∃g2:cD,r= .int .i64 ((D.rename (cG p) p).1:Int)∧(bn bp g2 q b (D.rename (cG p) p).2)∧(aZ K I.size bp)∧W (aE K) I q):=by
 refine aC.aK [ptr c,ptr cy] Tryz.func173 ?_;intro Q P;have j:W (aE K) I I:=W.refl _ _;have t:=aZ.refl K I.size;have S:=i.aB;have T:=av.lt;have ac:=d.lt;have ad:=x.lt;refine G.L (fun C=>?_);refine o.ak ?_;refine C (G.seq (fun bp E _=>?_));refine iW 9 (fun R N=>?_);refine o.v1 (ar av.N hj) ?_;refine o.bH ?_;refine o.v1 (Y.ai d.N rfl gm rfl mc) ?_;refine o.v1 (ar d.N lP) ?_;refine o.v1 (ar x.N bN) ?_;refine o.v1 (ar av.N hj) ?_;refine o.bH ?_;refine o.v1 (Y.ai d.N rfl gm rfl bP) ?_;refine o.v1 (ar (d.N.drop 1) bN) ?_;refine o.nil (N _ ?_);refine aW Bt (Gl bk K g b D (cG p) p w0 _ i aL (L.mono (by omega)) (dk) (by rw[o6];omega) (by omega) M) (fun am V F=>?_);obtain⟨H,ap,rfl,i,A,B⟩:=F;have au:aZ K I.size H:=aZ.L (t) A j.size;replace j:=j.aJ B (ag.cH (t) (by intro k O;simp[O]));refine o.ak ?_;refine E _ _ ?_;refine G.ret (P ?_);exact⟨_,_,rfl,i,au,j⟩
set_option maxHeartbeats 2000000 in
theorem CO(bk:Int)(K:List Nat)(g:cD)(b:Nat)(D:aG)(c aY:Nat)(p:aH)(n:Nat)(br:Bool)(w0:World)(I:Heap)
 (t:bn K g I b D) (aL:dY bk I) (M:bh (fun b=>b=0) I.size) (dk:az (fun b=>b=0) K) (av:Var 103 I c [ptr aY]) (B:Var 206 I aY [ptr b,aI p,.int .i64 (n:Int),.bool br]) (dW:ah (c+1) K) (dl:ah (aY+1) K) (al:p.length≤4294960000) (T:gy 274877906944 D):
 aC Tryz.prog w0 175 #[ptr c] I (fun r F=>∃bp:List Nat,∃g2:cD,r= .int .i64 ((D.iv (cr p)).1:Int)∧(bn bp g2 F b (D.iv (cr p)).2)∧(aZ K I.size bp)∧W (aE K) I F):=by
 refine aC.aK [ptr c] Tryz.func175 ?_;intro X V;have x:W (aE K) I I:=W.refl _ _;have H:=aZ.refl K I.size;have aa:=t.aB;have ab:=av.lt;have Z:=B.lt;refine G.L (fun N=>?_);refine o.ak ?_;refine N (G.seq (fun bp ap _=>?_));refine dx (fun j=>W (aE K) I j) [] ?_;have d:W (aE K) I I:=W.refl _ _;have P:=aZ.refl K I.size;refine O.t1 0 rfl (fun j i=>Y.fU (av.ab i (dW)).N rfl hj rfl) d ?_;refine O.bH 1 rfl d ?_;refine O.t1 2 rfl (fun j i=>Y.fieldAddr (B.ab i (dl)).N rfl gm rfl rfl mc (by decide) rfl) d ?_;refine O.t1 3 rfl (fun j i=>Y.fU (B.ab i (dl)).N rfl lP rfl) d ?_;refine O.t1 4 rfl (fun j i=>Y.fU (av.ab i (dW)).N rfl hj rfl) d ?_;refine O.bH 5 rfl d ?_;refine O.t1 6 rfl (fun j i=>Y.fieldAddr (B.ab i (dl)).N rfl gm rfl rfl bP (by decide) rfl) d ?_;refine O.t1 7 rfl (fun j i=>ar ((B.ab i (dl)).N.drop 1) bN) d ?_;refine O.aX 8 ?_;refine cf nw (nz bk p w0 _ aL (M.mono (by omega)) (by omega)) (fun ae A Q=>?_);obtain⟨rfl,ac⟩:=Q;replace t:=t.M ac;replace aL:=aL.M ac;replace x:=x.bc ac;replace d:=d.bc ac;have af:=ac.size;refine⟨.inr d,O.narrow (SH2:=fun j=>W (aE K) A j) (fun j i=>d.aJ i (ag.cH (P) (by intro k q;simp[q]))) ?_⟩;have d:W (aE K) A A:=W.refl _ _;have am:=aZ.refl K A.size;refine O.aX 9 ?_;refine cf Bv (Hx bk K g b D (cr p) w0 _ t aL (M.mono (by omega)) (dk) (by have:=CS p;omega) T) (fun ai E R=>?_);obtain⟨C,ak,rfl,t,ad,L⟩:=R;have S:aZ K I.size C:=aZ.L (H) ad x.size;have au:aZ K A.size C:=aZ.L (am) ad d.size;replace x:=x.aJ L (ag.cH (H) (by intro k q;simp[q]));replace d:=d.aJ L (ag.cH (am) (by intro k q;simp[q]));refine⟨.inr d,O.narrow (SH2:=fun j=>W (aE C) E j) (fun j i=>d.aJ i (ag.cH (au) (by intro k q;simp[q]))) ?_⟩;have d:W (aE C) E E:=W.refl _ _;refine O.t1 10 rfl (fun j i=>ej) d ?_;refine cx ?_;refine ap _ _ ?_;refine G.ret (V ?_);exact⟨_,_,rfl,t,S,x⟩
end lN

namespace mA
open E Go.RowKit ft gd gr gN gV hi hv hH hU iY iZ kh kG lk lN
set_option maxRecDepth 100000 in
theorem sD:c4 Tryz.prog 291 230 1 8:=⟨Tryz.underlying291,_,_,rfl,rfl,rfl,rfl,rfl⟩
section
variable {w0 : World} {K : List Nat} {H : Heap} {bk : Int} {b c aY n dE cy cb : Nat} {p : aH} {br : Bool} {s : aN} {F : Nat → Prop} {D : aG}
theorem Cy{l:List (aN×Rec)}(d:mo K H bk b c aY p n br)(j:lj K H 9 cy [aI (cG p)])(q:lj K H 104 dE [s.v])(k:mv K F H iG s.v l)(I:∀x∈l,Rd F H a1 1 x.1.v x.2)
 (G:∀x∈l,x.2.length≤1048576) (C:(e3 0 (cI l)).length≤274877900000) (A:p.length≤4294960000) (B:bQ cb D) (M:cb+4*((cR (cI l)).length+20)≤536870912):
 ∀(i:Nat) (h:i<([(169,[ptr c,ptr cy,ptr dE]),(172,[ptr c,ptr cy]),(173,[ptr c,ptr cy]),(175,[ptr c])]:List jF).length) (gh:List Nat) (o:cD) (aa:Heap),bn gh o aa b (c3 ((jd p (cI l)).take i) D).2→aZ K H.size gh→W (aE K) H aa→
  rv w0 b (po (jd p (cI l)) i) (.func (.func ([(169,[ptr c,ptr cy,ptr dE]),(172,[ptr c,ptr cy]),(173,[ptr c,ptr cy]),(175,[ptr c])]:List jF)[i].1) #[] ([(169,[ptr c,ptr cy,ptr dE]),(172,[ptr c,ptr cy]),(173,[ptr c,ptr cy]),(175,[ptr c])]:List jF)[i].2.toArray) gh aa (c3 ((jd p (cI l)).take i) D).2:=by
 intro i E gh o aa t da hm;have r:gy 274877906944 (c3 ((jd p (cI l)).take i) D).2:=(uX i (wO p (cI l)) B).bT (by have:(jd p (cI l)).length=4:=rfl;rw[this];omega);have d:=d.up hm da;have j:=j.up hm da;have q:=q.up hm da;have L:∀x∈l,Rd F aa a1 1 x.1.v x.2:=fun x h=>(I x h).ab hm k.gi;have k:=k.up hm da
 match i,E with
 |0,_=>exact ff.of (caps:=[ptr c,ptr cy,ptr dE]) (args:=[]) Bn (CR bk gh o b _ c aY p n br cy dE s l F w0 _ t d.aL d.kH d.dk d.dr d.dK d.dW d.dl j.v j.d q.v q.d k.rd k.bY k.gi L k.bY k.gi G C A r)
 |1,_=>exact ff.of (caps:=[ptr c,ptr cy]) (args:=[]) Br (CP bk gh o b _ c aY p n br cy w0 _ t d.aL d.kH d.dk d.dr d.dK d.dW d.dl j.v j.d A r)
 |2,_=>exact ff.of (caps:=[ptr c,ptr cy]) (args:=[]) Bs (CM bk gh o b _ c aY p n br cy w0 _ t d.aL d.kH d.dk d.dr d.dK d.dW d.dl j.v j.d A r)
 |3,_=>exact ff.of (caps:=[ptr c]) (args:=[]) Bu (CO bk gh o b _ c aY p n br w0 _ t d.aL d.kH d.dk d.dr d.dK d.dW d.dl A r)
theorem An{rc:Rec}(d:mo K H bk b c aY p n br)(o:lj K H 57 dE [s.v])(k:mv K F H a1 s.v rc)(C:rc.length≤1048576)(B:p.length≤4294960000)(t:bQ cb D)(A:cb+4*(rc.length+20)≤536870912):
 ∀(i:Nat) (h:i<([(109,[ptr c,ptr dE]),(106,[ptr c]),(112,[ptr c]),(106,[ptr c])]:List jF).length) (gh:List Nat) (j:cD) (aa:Heap),bn gh j aa b (c3 ((gW p n rc).take i) D).2→aZ K H.size gh→W (aE K) H aa→
  rv w0 b (po (gW p n rc) i) (.func (.func ([(109,[ptr c,ptr dE]),(106,[ptr c]),(112,[ptr c]),(106,[ptr c])]:List jF)[i].1) #[] ([(109,[ptr c,ptr dE]),(106,[ptr c]),(112,[ptr c]),(106,[ptr c])]:List jF)[i].2.toArray) gh aa (c3 ((gW p n rc).take i) D).2:=by
 intro i x gh j aa r da hm;have q:gy 274877906944 (c3 ((gW p n rc).take i) D).2:=(uX i (uB p n rc) t).bT (by have:(gW p n rc).length=4:=rfl;rw[this];omega);have d:=d.up hm da;have o:=o.up hm da;have k:=k.up hm da
 match i,x with
 |0,_=>exact ff.of (caps:=[ptr c,ptr dE]) (args:=[]) AY (Ah bk gh j b _ c aY p n br dE s rc F w0 _ r d.aL d.kH d.dk d.dr d.dK d.dW d.dl o.v o.d k.rd k.bY k.gi (by omega) (by omega) q)
 |1,_=>exact ff.of (caps:=[ptr c]) (args:=[]) u1 (uI bk gh j b _ c aY p n br w0 _ r d.aL d.kH d.dk d.dr d.dK d.dW d.dl (by omega) q)
 |2,_=>exact ff.of (caps:=[ptr c]) (args:=[]) A0 (Aj bk gh j b _ c aY p n br w0 _ r d.aL d.kH d.dk d.dr d.dK d.dW d.dl (by omega) q)
 |3,_=>exact ff.of (caps:=[ptr c]) (args:=[]) u1 (uI bk gh j b _ c aY p n br w0 _ r d.aL d.kH d.dk d.dr d.dK d.dW d.dl (by omega) q)
end
theorem mL(b:List UInt8):(e3 0 (eb b)).length≤b.length∧(cR (eb b)).length≤b.length+8:=by
 by_cases h:gw b=0
 ·obtain⟨t,e,_⟩:=FQ h
  have U:=congrArg List.length e;rw[List.length_append]at U;unfold cR at U⊢;rw[List.length_append]at U⊢;omega
 ·have:eb b=[]:=by unfold gw at h;unfold eb;split at h;exact absurd rfl h;rename_i d;rw[if_neg d]
  rw[this];simp[e3,cR,gA]
theorem sg(l:List Rec)(n:Nat):(e3 0 (l.take n)).length≤(e3 0 l).length:=by
 conv=>rhs;rw[←List.take_append_drop n l,oI]
 rw[List.length_append];omega
def gF(D:aG)(p:aH)(n:Nat):Nat×aG:=if D.fz p≠0 then(D.fz p,D)else if gw (D.cB p)≠0 then(gw (D.cB p),D)else eJ D p ((eb (D.cB p)).take n)
def nS(D:aG)(p:aH)(n:Nat):Nat:=((eb (D.cB p)).take n).length
def mU(e m n:Nat):Nat:=if e=0 then m else n
def nO(e:Nat)(br:Bool):Bool:=if e=0 then false else br
def iQ(D:aG)(p:aH)(n:Nat)(br:Bool):Nat×Nat×aG:=if br=true then((gF D p n).1,nS D p n,(gF D p n).2)else(0,n,D)
def e_(D:aG)(p:aH)(n:Nat)(br:Bool)(r:Rec):Nat×Nat×Bool×aG:=
 if(iQ D p n br).1≠0 then((iQ D p n br).1,n,br,(iQ D p n br).2.2)
 else
  let q:=c3 (gW p (iQ D p n br).2.1 r) (iQ D p n br).2.2
  (q.1,if q.1=0 then(iQ D p n br).2.1+1 else(iQ D p n br).2.1,if q.1=0 then false else true,q.2)
theorem uW{cb:Nat}{D:aG}(h:bQ cb D)(p:aH)(n:Nat):bQ (cb+4*(cb+28)) (gF D p n).2:=by
 unfold gF;split
 ·exact h.mono (by omega)
 ·split
  ·exact h.mono (by omega)
  ·refine(rX h p _).mono ?_
   have d:=(mL (D.cB p)).1;have U:=sg (eb (D.cB p)) n
   have i:(D.cB p).length≤cb:=by
    unfold aG.cB aG.dp;split
    ·split
     ·exact(h.f _).1
     ·exact Nat.zero_le _
    ·exact Nat.zero_le _
   have j:gA.length=8:=rfl;unfold cR;rw[List.length_append];omega
theorem n1{cb:Nat}{D:aG}(h:bQ cb D)(p:aH):(D.cB p).length≤cb:=by
 unfold aG.cB aG.dp;split
 ·split
  ·exact(h.f _).1
  ·exact Nat.zero_le _
 ·exact Nat.zero_le _
theorem AO{cb:Nat}{D:aG}(h:bQ cb D)(p:aH)(n:Nat)(br:Bool)(r:Rec):bQ (cb+4*(cb+28)+4*(r.length+20)) (e_ D p n br r).2.2.2:=by
 have d:bQ (cb+4*(cb+28)) (iQ D p n br).2.2:=by
  unfold iQ;split
  ·exact uW h p n
  ·exact h.mono (by omega)
 unfold e_;split
 ·exact d.mono (by omega)
 ·exact(pV (uB p _ r) d).mono (by simp[gW];omega)
theorem r_(bk:Int)(K:List Nat)(g:cD)(b:Nat)(D:aG)(aY:Nat)(p:aH)(n:Nat)(br:Bool)(s:aN)(l:List (aN×Rec))(F:Nat→Prop)(cb:Nat)(w0:World)(I:Heap)
 (j:bn K g I b D) (aL:dY bk I) (a7:bh (fun b=>b=0) I.size) (dk:az (fun b=>b=0) K) (d:Var 206 I aY [ptr b,aI p,.int .i64 (n:Int),.bool br]) (dl:ah (aY+1) K) (c1:ay (fun b=>b=0) (aY+1)) (A:Rd F I iG 1 s.v l) (a6:bh F I.size) (a8:az F K) (M:∀x∈l,Rd F I a1 1 x.1.v x.2) (bZ:bh F I.size) (cZ:az F K) (bc:∀x∈l,x.2.length≤1048576) (cj:(e3 0 (cI l)).length≤274877900000) (cd:ay F (aY+1)) (c0:ay F (aY+1)) (cl:p.length≤4294960000) (cf:bQ cb D) (cg:cb+4*((cR (cI l)).length+20)≤536870912) (c8:l.length≤1073741824):
 aC Tryz.prog w0 90 #[ptr aY,s.v] I (fun r L=>∃bp:List Nat,∃g2:cD,r= .int .i64 ((eJ D p (cI l)).1:Int)∧(bn bp g2 L b (eJ D p (cI l)).2)∧(aZ K I.size bp)∧(Var 206 L aY [ptr b,aI p,.int .i64 (mU (eJ D p (cI l)).1 l.length n:Int),.bool (nO (eJ D p (cI l)).1 br)])∧(ah (aY+1) bp)∧W (aE (K++[(aY+1)])) I L):=by
 refine aC.aK [ptr aY,s.v] Tryz.func90 ?_;intro cq ba;have q:W (aE (K++[(aY+1)])) I I:=W.refl _ _;have aM:=aZ.refl K I.size;have bS:=j.aB;have aK:=T.refl (aY+1) I.size;have cu:=d.lt;refine G.L (fun a5=>?_);refine o.aO (Z.ns rfl rfl (rfl)) ?_;rintro v2 L ⟨rfl,t,X,cU,bd⟩;have cr:L.size=I.size+1:=by rw[bd];simp
 have a0:ah (I.size+1) K:=ah.ho j.aB;have b2:af (aY+1) (I.size+1):=af.new d.lt;replace j:=j.M X;replace aL:=aL.M X;replace d:=d.M X;replace A:=A.M X;replace M:=fun x P=>(M x P).M X;replace q:=q.bc X;have cW:=X.size;replace t:Var 103 L I.size ([ptr aY]):=t;refine o.aO (Z.ns rfl rfl ((A).o9)) ?_;rintro v3 al ⟨rfl,C,ap,cv,bf⟩;have a9:al.size=L.size+1:=by rw[bf];simp
 have a2:ah (L.size+1) K:=ah.ho j.aB;have bR:af (aY+1) (L.size+1):=af.new d.lt;replace j:=j.M ap;replace aL:=aL.M ap;replace d:=d.M ap;replace A:=A.M ap;replace M:=fun x P=>(M x P).M ap;replace t:=t.M ap;replace q:=q.bc ap;have cw:=ap.size;replace C:Var 104 al L.size ([s.v]):=C;refine o.ak ?_;refine a5 (G.seq (fun bp bU _=>G.L (fun bV=>?_)));refine o.v1 (ar C.N rJ) ?_;refine o.v1 (bb A h7) ?_;refine o.V (o.nil (bV ?_));refine G.aB (fun _ bX _=>?_)
 refine G.bg (fun(i:(Nat))=>[(2,.pointer (some ⟨I.size,0,none⟩)),(3,.pointer (some ⟨L.size,0,none⟩)),(9,s.v),(10,.int .i64 (l.length:Int)),(11,.int .i64 (i:Int))])
  (fun(i:(Nat)) (H:Heap)=>(i≤l.length)∧aj al H)
  (fun(i:(Nat))=>l.length-i) 0 ⟨rfl,rfl,rfl,rfl,rfl,trivial⟩ ?_ ?_
 ·
  exact⟨(by omega),W.refl _ _⟩
 intro i B bT cn be bY;obtain⟨c4,Q⟩:=bT;replace j:=j.M Q;replace aL:=aL.M Q;replace d:=d.M Q;replace A:=A.M Q;replace M:=fun x P=>(M x P).M Q;replace t:=t.M Q;replace C:=C.M Q;replace q:=q.bc Q;have cy:=Q.size;refine G.L (fun b1=>?_);refine o.v1 bJ (o.nil (b1 ?_));refine G.t2 (fun b3 bi=>?_);refine aU (fun b4=>?_) (fun b4=>?_)
 ·
  have a_:i<l.length:=by omega
  have cm:=M l[i] (List.getElem_mem a_);have c9:=bc l[i] (List.getElem_mem a_);refine G.skip (b3 (G.t1 (fun b5=>G.aB (fun b6 _ _=>G.L (fun bl=>?_)))));refine o.bR (Y.bL A (i) rfl h7 db rfl rfl) fun cO bm=>?_;refine o.v1 (ar bm.N eD) ?_;refine o.ak ?_;refine bl (G.L (fun bo=>?_));refine o.V ?_;refine o.v1 (bb cm dc) ?_;refine o.v1 ((eY).fm (by omega)) (o.nil (bo ?_));refine dw ?_;refine G.skip (b6 (b5 (G.region ?_)));refine o.v1 bD ?_;refine o.V (o.nil ?_);refine aP.sub (be (i+1) _ ?_ ?_) ⟨rfl,rfl,rfl,(aD (by omega)),(aD (by omega)),trivial⟩
  ·exact⟨(by omega),Q⟩
  ·first|omega|(simp only;omega)|(simp;omega)
 ·
  refine G.exit (bi (bY (bX ?_)));refine bU _ _ (G.L (fun bq=>?_));refine o.v1 (ar t.N hj) ?_;refine o.bH ?_;refine o.v1 (Y.ai d.N rfl gm rfl bP) ?_;refine o.v1 (ar (d.N.drop 1) bN) ?_;refine o.v1 (Y.cast (v2:=aI (cG p)) (Y.q2 rfl rfl rfl (by simp only[List.length_cons,List.length_nil];omega)) (rfl)) ?_;refine o.aO (cV Il) ?_;rintro c_ aB ⟨rfl,aa,am,cz,b7⟩;have cP:aB.size=B.size+1:=by rw[b7];simp
  have aQ:ah (B.size+1) K:=ah.ho j.aB;have bs:=(ay.new (a7.mono q.size):ay _ (B.size+1));have bt:af (aY+1) (B.size+1):=af.new d.lt;have bu:=(ay.new (a6.mono q.size):ay _ (B.size+1));have bw:=(ay.new (bZ.mono q.size):ay _ (B.size+1));have bx:af (I.size+1) (B.size+1):=af.new t.lt;have bz:af (L.size+1) (B.size+1):=af.new C.lt;have bA:T 0 I.size (B.size+1):=T.new q.size;replace j:=j.M am;replace aL:=aL.M am;replace d:=d.M am;replace A:=A.M am;replace M:=fun x P=>(M x P).M am;replace t:=t.M am;replace C:=C.M am;replace q:=q.bc am;have cA:=am.size;replace aa:Var 9 aB B.size ([aI []]):=aa;refine o.s1 (dj aa 0 ([aI (cG p)]) (rfl) bP (by simp) (rfl)) fun aR bC=>?_;obtain⟨aa,N⟩:=bC;replace N:=N.bs;replace j:=j.ab N (ez.cons aQ ez.nil);replace aL:=aL.ab N (az.J bs);replace d:=d.ab N (ah.J bt);replace A:=A.ab N (az.J bu);replace M:=fun x P=>(M x P).ab N (az.J bw);replace t:=t.ab N (ah.J bx);replace C:=C.ab N (ah.J bz);replace q:=q.aJ N (ag.J (aq.q bA));have cC:=N.size;refine o.nil (bq (G.L (fun bE=>?_)));refine o.v1 (Y.makeFunc rfl rfl) ?_;refine o.v1 (Y.makeFunc rfl rfl) ?_;refine o.v1 (Y.makeFunc rfl rfl) ?_;refine o.v1 (Y.makeFunc rfl rfl) ?_;refine o.aO (cT _ (([(169,[ptr I.size,ptr B.size,ptr L.size]),(172,[ptr I.size,ptr B.size]),(173,[ptr I.size,ptr B.size]),(175,[ptr I.size])]:List jF)) sD wq wu (rfl)) fun b8 b_ ca=>?_;obtain⟨aS,R,cS,bF⟩:=ca;have a3:b_.size=aR.size+1:=by rw[bF];simp
  have bG:ah (aR.size+1) K:=ah.ho j.aB;replace j:=j.M R;replace aL:=aL.M R;replace d:=d.M R;replace A:=A.M R;replace M:=fun x P=>(M x P).M R;replace t:=t.M R;replace C:=C.M R;replace aa:=aa.M R;replace q:=q.bc R;have cH:=R.size;refine aW u3 (wF K g b D b8 [(169,[ptr I.size,ptr B.size,ptr L.size]),(172,[ptr I.size,ptr B.size]),(173,[ptr I.size,ptr B.size]),(175,[ptr I.size])] (jd p (cI l)) _ w0 _ j aS.rd (bh.of aS.le) (az.of (bG)) rfl (Cy (mo.mk aL (a7.mono (by omega)) (dk) t d (a0) (dl)) (lj.mk aa (aQ)) (lj.mk C (a2)) (mv.mk A (a6.mono (by omega)) (a8)) M bc cj cl cf cg)) (fun cJ ai bv=>?_);have bI:=d.lt;obtain⟨a4,cK,rfl,j,aO,au⟩:=bv;have ak:ah (aY+1) a4:=ah.hk (dl) bI aO;have aT:aZ K I.size a4:=aZ.L (aM) aO q.size;replace d:=d.ab au (dl);replace A:=A.ab au (a8);replace t:=t.ab au (a0);replace C:=C.ab au (a2);replace q:=q.aJ au (ag.cH (aM) (by intro k ck;simp[ck]));have cL:=au.size;have bS:=j.aB;refine o.ak ?_;refine bE (G.t1 (fun aX=>G.L (fun bK=>?_)));refine o.V ?_;refine o.v1 b9 (o.nil (bK ?_));refine aU (fun cc=>?_) (fun cc=>?_)
  ·
   refine dx (fun V=>W (aE [(aY+1)]) ai V) [] ?_;have E:W (aE [(aY+1)]) ai ai:=W.refl _ _;have aF:=T.refl (aY+1) ai.size;refine O.t1 0 rfl (fun V S=>Y.fU (t.ab S (ah.J b2.symm)).N rfl hj rfl) E ?_;refine O.t1 1 rfl (fun V S=>Y.fU (t.ab S (ah.J b2.symm)).N rfl hj rfl) E ?_;refine O.t1 2 rfl (fun V S=>Y.fU (C.ab S (ah.J bR.symm)).N rfl rJ rfl) E ?_;refine O.t1 3 rfl (fun V S=>bb (A.ab S (az.J cd)) h7) E ?_;refine O.bH 4 rfl E ?_;refine O.t1 5 rfl (fun V S=>Y.wD d.N rfl gm rfl rfl b0 (by decide) rfl) E ?_;refine O.aX 6 ?_;refine gL rfl (dj d 2 ([ptr b,aI p,.int .i64 (l.length:Int),.bool br]) (rfl) b0 (by simp) (rfl)) (fun aA bg=>?_);obtain⟨d,ac⟩:=bg;replace ac:=ac.bs;replace j:=j.ab ac (ez.cons ak ez.nil);replace q:=q.aJ ac (ag.J (aq.r aK));replace E:=E.aJ ac (ag.J (aq.r aF));have cM:=ac.size;refine O.b3 E (ag.J (aq.r aF)) ?_;have E:W (aE [(aY+1)]) aA aA:=W.refl _ _;have aJ:=T.refl (aY+1) aA.size;refine O.bH 7 rfl E ?_;refine O.t1 8 rfl (fun V S=>Y.wD d.N rfl gm rfl rfl cX (by decide) rfl) E ?_;refine O.aX 9 ?_;refine gL rfl (dj d 3 ([ptr b,aI p,.int .i64 (l.length:Int),.bool false]) (rfl) cX (by simp) (rfl)) (fun ct bj=>?_);obtain⟨d,ab⟩:=bj;replace ab:=ab.bs;replace j:=j.ab ab (ez.cons ak ez.nil);replace q:=q.aJ ab (ag.J (aq.r aK));replace E:=E.aJ ab (ag.J (aq.r aJ));have cN:=ab.size;refine O.b3 E (ag.J (aq.r aJ)) ?_;refine cx ?_;refine aX (G.L (fun bL=>?_));refine o.aQ 2 ?_;refine bL ?_;refine G.ret (ba ?_);have ae:(c3 (jd p (cI l)) D).1=0:=by omega
   exact⟨_,_,rfl,j,aT,by unfold mU nO eJ;rw[if_pos ae,if_pos ae];exact d,ak,q⟩
  ·
   refine G.skip (aX (G.L (fun bO=>?_)));refine o.aQ 2 ?_;refine bO ?_;refine G.ret (ba ?_);have ae:(c3 (jd p (cI l)) D).1≠0:=by omega
   exact⟨_,_,rfl,j,aT,by unfold mU nO eJ;rw[if_neg ae,if_neg ae];exact d,ak,q⟩
end mA

namespace nm
open E Go.RowKit ft gd gr gN gV hi hv hH hU iY iZ kh kG lk lN mA
set_option maxRecDepth 100000 in
theorem sD:c4 Tryz.prog 291 230 1 8:=⟨Tryz.underlying291,_,_,rfl,rfl,rfl,rfl,rfl⟩
theorem EK{D:aG}{p:aH}{n:Nat}(h:D.fz p≠0):gF D p n=(D.fz p,D):=by unfold gF;rw[if_pos h]
theorem EL{D:aG}{p:aH}{n:Nat}(h:D.fz p=0)(U:gw (D.cB p)≠0):gF D p n=(gw (D.cB p),D):=by unfold gF;rw[if_neg (by omega),if_pos U]
theorem EM{D:aG}{p:aH}{n:Nat}(h:D.fz p=0)(U:gw (D.cB p)=0):gF D p n=eJ D p ((eb (D.cB p)).take n):=by unfold gF;rw[if_neg (by omega),if_neg (by omega)]
theorem Gb(l:List (aN×Rec))(i n:Nat)(h:i=min n l.length):cI (l.take i)=(cI l).take n:=by
 unfold cI;rw[List.map_take,h];rcases Nat.le_total n l.length with U|U
 ·rw[Nat.min_eq_left U]
 ·rw[Nat.min_eq_right U,List.take_of_length_le (by simp),List.take_of_length_le (by simpa using U)]
theorem v_(b:List UInt8)(n:Nat):(cR ((eb b).take n)).length≤b.length+8:=by
 have d:=(mL b).1;have U:=sg (eb b) n;have i:gA.length=8:=rfl;unfold cR;rw[List.length_append];omega
theorem ti(b:List UInt8):(eb b).length≤b.length+8:=Nat.le_trans (wa _) (mL b).2
theorem oX{m n e:Nat}(h:e=0):mU e m n=m:=if_pos h
theorem oW{e:Nat}{br:Bool}(h:e=0):nO e br=false:=if_pos h
theorem sI{m n e:Nat}(h:e≠0):mU e m n=n:=if_neg h
theorem sH{e:Nat}{br:Bool}(h:e≠0):nO e br=br:=if_neg h
theorem EN(bk:Int)(K:List Nat)(g:cD)(b:Nat)(D:aG)(aY:Nat)(p:aH)(n:Nat)(br:Bool)(cb:Nat)(w0:World)(I:Heap)
 (j:bn K g I b D) (aL:dY bk I) (al:bh (fun b=>b=0) I.size) (dk:az (fun b=>b=0) K) (d:Var 206 I aY [ptr b,aI p,.int .i64 (n:Int),.bool br]) (dl:ah (aY+1) K) (bo:ay (fun b=>b=0) (aY+1)) (bs:p.length≤4294960000) (S:bQ cb D) (bJ:cb≤90000000) (bK:n≤1073741824):
 aC Tryz.prog w0 105 #[ptr aY] I (fun r V=>∃bp:List Nat,∃g2:cD,r= .int .i64 ((gF D p n).1:Int)∧(bn bp g2 V b (gF D p n).2)∧(aZ K I.size bp)∧(Var 206 V aY [ptr b,aI p,.int .i64 (mU (gF D p n).1 (nS D p n) n:Int),.bool (nO (gF D p n).1 br)])∧(ah (aY+1) bp)∧W (aE (K++[(aY+1)])) I V):=by
 refine aC.aK [ptr aY] Tryz.func105 ?_;intro bx aa;have t:W (aE (K++[(aY+1)])) I I:=W.refl _ _;have Q:=aZ.refl K I.size;have H:=j.aB;have ad:=T.refl (aY+1) I.size;have ae:=d.lt;have bR:=n1 S p;have bq:=v_ (D.cB p);have bL:=ti (D.cB p);refine G.L (fun bj=>?_);refine o.ak ?_;refine bj (G.seq (fun bp bl _=>?_));refine dx (fun A=>aj I A) [] ?_;have B:=aj.refl I;refine O.V 0 rfl B ?_;refine O.bH 1 rfl B ?_;refine O.t1 2 rfl (fun A q=>Y.ai (d.N.M q) rfl gm rfl mc) B ?_;refine O.t1 3 rfl (fun A q=>ar (d.N.M q) lP) B ?_;refine O.V 4 rfl B ?_;refine O.bH 5 rfl B ?_;refine O.t1 6 rfl (fun A q=>Y.ai (d.N.M q) rfl gm rfl bP) B ?_;refine O.t1 7 rfl (fun A q=>ar ((d.N.drop 1).M q) bN) B ?_;refine O.aX 8 ?_;refine cf vB (yn bk K g b D p w0 _ aL (al.mono (by omega)) j (by omega) (fun i=>by have:=(S.f i).1;omega)) (fun bC au aA=>?_);obtain⟨aB,bD,rfl,am,bA,E⟩:=aA;replace j:=j.M E;replace aL:=aL.M E;replace d:=d.M E;replace t:=t.bc E;have bE:=E.size;have bG:=am.le;have ap:=B.L E;refine O.cc ap ?_;have ac:=aj.refl au;refine O.V 9 rfl ac ?_;refine O.t1 10 rfl (fun A q=>cO) ac ?_;refine O.t1 11 rfl (fun A q=>cO) ac ?_;refine O.t1 12 rfl (fun A q=>ej) ac ?_;refine O.t1 13 rfl (fun A q=>ej) ac ?_;refine cx ?_;have bO:=ac;refine bl _ _ (G.t2 (fun aD aF=>G.L (fun aJ=>?_)));refine o.V ?_;refine o.v1 cU (o.nil (aJ ?_));refine aU (fun aK=>?_) (fun aK=>?_)
 ·
  refine G.L (fun aM=>?_);refine o.aQ 2 ?_;refine aM ?_;refine G.ret (aF (aa ?_));have hm:=EK (n:=n) (show D.fz p≠0 by omega);have P:(gF D p n).1≠0:=by rw[hm];show D.fz p≠0;omega
  exact⟨_,_,by rw[hm];rfl,by rw[hm];exact j,Q,by rw[sI P,sH P];exact d,dl,t⟩
 ·
  refine G.skip (aD (G.L (fun aO=>?_)));refine o.V ?_;refine aW vC (ya aB (D.cB p) w0 _ am.rd.any (by have:=n1 S p;omega)) (fun bF R aP=>?_);obtain⟨a0,C,rfl,Z,L,X,M⟩:=aP;replace j:=j.M M;replace aL:=aL.M M;replace d:=d.M M;replace t:=t.bc M;have a2:=M.size;replace L:=L.bw;have af:=L.bY;have aQ:az (fun b=>au.size≤b∧b<R.size) K:=az.iy (fun b h=>h.1) (by first|exact H|exact fun k N=>Nat.le_trans (H k N) (by omega)|assumption);have aR:ay (fun b=>au.size≤b∧b<R.size) (aY+1):=ay.iy (fun b h=>h.1) (by first|exact bt|exact ae|omega);replace X:=fun x bw=>(X x bw).bw;have aS:az (fun b=>au.size≤b∧b<R.size) K:=az.iy (fun b h=>h.1) (by first|exact H|exact fun k N=>Nat.le_trans (H k N) (by omega)|assumption);have aT:ay (fun b=>au.size≤b∧b<R.size) (aY+1):=ay.iy (fun b h=>h.1) (by first|exact bt|exact ae|omega);refine o.V ?_;refine o.v1 cO ?_;refine o.v1 cO ?_;refine o.v1 cO ?_;refine o.aQ 3 ?_;refine aO (G.t2 (fun aX a1=>G.L (fun a6=>?_)));refine o.V ?_;refine o.v1 cU (o.nil (a6 ?_));refine aU (fun a7=>?_) (fun a7=>?_)
  ·
   refine G.L (fun a8=>?_);refine o.aQ 2 ?_;refine a8 ?_;refine G.ret (a1 (aa ?_));have hm:=EL (n:=n) (show D.fz p=0 by omega) (show gw (D.cB p)≠0 by omega);have P:(gF D p n).1≠0:=by rw[hm];show gw (D.cB p)≠0;omega
   exact⟨_,_,by rw[hm];rfl,by rw[hm];exact j,Q,by rw[sI P,sH P];exact d,dl,t⟩
  ·
   refine G.skip (aX (G.L (fun bf=>?_)));refine o.ax 4 ?_;refine o.v1 (Y.ai d.N rfl gm rfl b0) ?_;refine o.v1 (ar (d.N.drop 2) cj) ?_;refine o.V ?_;refine o.v1 (bb L h7) ?_;refine o.v1 (Y.cast (v2:= .int .i64 ((min n C.length:Nat):Int)) (Y.ER rfl rfl rfl) (fM (by omega))) ?_;refine o.aK (g:=fun v=>v) (Y.slice L (0) (min n C.length) rfl h7 db rfl (.inl ⟨rfl,rfl⟩) (.inr ⟨_,_,_,rfl,rfl,by first|rfl|omega⟩) (by omega) (by omega)) fun ak ab=>?_;rw[List.drop_zero]at ab;obtain⟨a_,rfl⟩:∃s:aN,ak=s.v:=⟨cl ak,ab.bl.symm⟩;have F:=Gb C (min n C.length) n rfl;rw[Z]at F;have bu:=congrArg List.length Z;simp only[cI,List.length_map]at bu;refine aW r8 (r_ bk K g b D aY p n br a_ (C.take (min n C.length)) _ cb w0 _ j aL (al.mono (by omega)) (dk) d (dl) (bo) ab (af.mono (by omega)) (aQ) (fun x h=>X x (List.mem_of_mem_take h)) (af.mono (by omega)) (aS) (fun x h=>x7 _ _ (by rw[←Z];exact List.mem_map_of_mem (List.mem_of_mem_take h))) (by rw[F];have bI:=sg (eb (D.cB p)) n;have U:=(mL (D.cB p)).1;omega) (aR) (aT) bs S (by rw[F];have:=bq n;omega) (by rw[List.length_take];omega)) (fun a3 a4 ba=>?_);obtain⟨bc,a5,rfl,j,bd,d,bm,ai⟩:=ba;have bg:aZ K I.size bc:=aZ.L (Q) bd t.size;replace t:=t.aJ ai (ag.app (ag.cH (Q) (by intro k N;simp[N])) (ag.J (aq.r ad)));have bz:=ai.size;have H:=j.aB;refine o.ak ?_;refine bf ?_;refine G.ret (aa ?_);have hm:=EM (n:=n) (show D.fz p=0 by omega) (show gw (D.cB p)=0 by omega);rw[F]at j d;exact⟨_,_,by rw[hm,F],by rw[hm];exact j,bg,by rw[hm];unfold nS;rw[show((eb (D.cB p)).take n).length=(C.take (min n C.length)).length from by rw[←F];exact List.length_map _];exact d,bm,t⟩
theorem yf{D:aG}{p:aH}{n:Nat}{br:Bool}(h:br=false):iQ D p n br=(0,n,D):=by unfold iQ;rw[h];simp
theorem yg{D:aG}{p:aH}{n:Nat}{br:Bool}(h:br=true):iQ D p n br=((gF D p n).1,nS D p n,(gF D p n).2):=by unfold iQ;rw[if_pos h]
theorem Aq{D:aG}{p:aH}{n:Nat}{br:Bool}{r:Rec}(h:br=true)(U:(gF D p n).1≠0):e_ D p n br r=((gF D p n).1,n,br,(gF D p n).2):=by unfold e_;rw[yg h,if_pos U]
theorem uC{D d:aG}{p:aH}{n bH:Nat}{br:Bool}{r:Rec}(h:iQ D p n br=(0,bH,d)):e_ D p n br r=((c3 (gW p bH r) d).1,if(c3 (gW p bH r) d).1=0 then bH+1 else bH,if(c3 (gW p bH r) d).1=0 then false else true,(c3 (gW p bH r) d).2):=by
 unfold e_;rw[h];simp
def eV(D:aG)(p:aH):Nat×List Rec×aG:=
 if cz p=false∨cz (cG p)=false then(7,[],D)
 else if D.fz p=2 then((eJ D p []).1,[],(eJ D p []).2)
 else if D.fz p≠0 then(D.fz p,[],D)
 else if gw (D.cB p)≠0 then(gw (D.cB p),[],D)
 else if m3 (D.cB p)<(D.cB p).length then((eJ D p (eb (D.cB p))).1,if(eJ D p (eb (D.cB p))).1=0 then eb (D.cB p)else[],(eJ D p (eb (D.cB p))).2)
 else(0,eb (D.cB p),D)
theorem AP{cb:Nat}{D:aG}(h:bQ cb D)(p:aH):bQ (cb+4*(cb+28)) (eV D p).2.2:=by
 have d:=(mL (D.cB p)).2;have U:=n1 h p;unfold eV;split
 ·exact h.mono (by omega)
 split
 ·exact(rX h p []).mono (by simp[cR,gA,e3];omega)
 split
 ·exact h.mono (by omega)
 split
 ·exact h.mono (by omega)
 split
 ·exact(rX h p _).mono (by omega)
 ·exact h.mono (by omega)
theorem H0(bk:Int)(K:List Nat)(g:cD)(b:Nat)(D:aG)(aY:Nat)(p:aH)(n:Nat)(br:Bool)(s:aN)(rc:Rec)(F:Nat→Prop)(cb:Nat)(w0:World)(I:Heap)
 (i:bn K g I b D) (aL:dY bk I) (aD:bh (fun b=>b=0) I.size) (dk:az (fun b=>b=0) K) (d:Var 206 I aY [ptr b,aI p,.int .i64 (n:Int),.bool br]) (dl:ah (aY+1) K) (ba:ay (fun b=>b=0) (aY+1)) (B:Rd F I a1 1 s.v rc) (a7:bh F I.size) (a8:az F K) (b5:ay F (aY+1)) (b8:rc.length≤1048576) (bc:p.length≤4294960000) (ak:bQ cb D) (cA:cb≤80000000) (cH:n≤1000000000):
 aC Tryz.prog w0 38 #[ptr aY,s.v] I (fun r t=>∃bp:List Nat,∃g2:cD,r= .int .i64 ((e_ D p n br rc).1:Int)∧(bn bp g2 t b (e_ D p n br rc).2.2.2)∧(aZ K I.size bp)∧(Var 206 t aY [ptr b,aI p,.int .i64 ((e_ D p n br rc).2.1:Int),.bool (e_ D p n br rc).2.2.1])∧(ah (aY+1) bp)∧W (aE (K++[(aY+1)])) I t):=by
 refine aC.aK [ptr aY,s.v] Tryz.func38 ?_;intro b_ aJ;have j:W (aE (K++[(aY+1)])) I I:=W.refl _ _;have ac:=aZ.refl K I.size;have al:=i.aB;have ae:=T.refl (aY+1) I.size;have cc:=d.lt;have cJ:=n1 ak p;have cC:=v_ (D.cB p);have cI:=ti (D.cB p);refine G.seq (fun A a5 _=>G.region ?_);refine o.aO (Z.ns rfl rfl (rfl)) ?_;rintro v2 t ⟨rfl,q,R,cw,bd⟩;have ca:t.size=I.size+1:=by rw[bd];simp
 have aR:ah (I.size+1) K:=ah.ho i.aB;have bf:af (aY+1) (I.size+1):=af.new d.lt;replace i:=i.M R;replace aL:=aL.M R;replace d:=d.M R;replace B:=B.M R;replace j:=j.bc R;have bv:=R.size;replace q:Var 103 t I.size ([ptr aY]):=q;refine o.aO (Z.ns rfl rfl ((B).o9)) ?_;rintro v3 E ⟨rfl,L,O,cx,a9⟩;have cd:E.size=t.size+1:=by rw[a9];simp
 have aS:ah (t.size+1) K:=ah.ho i.aB;have bL:af (aY+1) (t.size+1):=af.new d.lt;replace i:=i.M O;replace aL:=aL.M O;replace d:=d.M O;replace B:=B.M O;replace q:=q.M O;replace j:=j.bc O;have cy:=O.size;replace L:Var 57 E t.size ([s.v]):=L;refine o.ak ?_;refine a5 _ _ (G.seq (fun bp bN _=>G.L (fun bO=>?_)));refine o.v1 (ar L.N eD) ?_;refine o.v1 (bb B dc) ?_;refine o.v1 ((eY).fm (by omega)) (o.nil (bO ?_));refine dw ?_;refine G.skip (bN _ _ ?_)
 refine G.bm (fun(b9:(List Nat)×(cD)×(aG)×(Nat))=>match b9 with|(A,g1,M,bH)=>[(2,.pointer (some ⟨I.size,0,none⟩)),(3,.pointer (some ⟨t.size,0,none⟩))])
  (fun(A,g1,M,bH) (H:Heap)=>(bn A g1 H b M)∧(Var 206 H aY [ptr b,aI p,.int .i64 (bH:Int),.bool false])∧(iQ D p n br=(0,bH,M))∧(bQ (cb+4*(cb+28)) M)∧(bH≤1100000000)∧(aZ K E.size A)∧(ah (aY+1) A)∧W (aE (K++[(aY+1)])) E H) (fun _ a0 bT=>?_) ?_
 ·
  have am:W (aE (K++[(aY+1)])) E E:=W.refl _ _;have ad:=aZ.refl K E.size;have bJ:=T.refl (aY+1) E.size;refine G.L (fun be=>?_);refine o.v1 (ar q.N hj) ?_;refine o.bH ?_;refine o.v1 (Y.ai d.N rfl gm rfl cX) ?_;refine o.v1 (ar (d.N.drop 3) dA) (o.nil (be ?_));refine cK (fun aa=>?_) (fun aa=>?_)
  ·
   refine G.L (fun bY=>?_);refine o.v1 (ar q.N hj) ?_;refine aW AX (EN bk K g b D aY p n br cb w0 _ i aL (aD.mono (by omega)) (dk) d (dl) (ba) bc ak (by omega) (by omega)) (fun cz cf bP=>?_);obtain⟨ab,bR,rfl,i,aX,d,a_,aA⟩:=bP;have bl:aZ K I.size ab:=aZ.L (ac) aX j.size;have bm:aZ K E.size ab:=aZ.L (ad) aX am.size;replace j:=j.aJ aA (ag.app (ag.cH (ac) (by intro k P;simp[P])) (ag.J (aq.r ae)));replace am:=am.aJ aA (ag.app (ag.cH (ad) (by intro k P;simp[P])) (ag.J (aq.r bJ)));have cg:=aA.size;have al:=i.aB;refine o.ak ?_;refine bY (G.L (fun bi=>?_));refine o.V ?_;refine o.v1 cU (o.nil (bi ?_));refine aU (fun bS=>?_) (fun bS=>?_)
   ·
    refine G.L (fun bU=>?_);refine o.aQ 2 ?_;refine bU ?_;refine G.ret (bT (aJ ?_));have C:(gF D p n).1≠0:=by omega
    have x:=Aq (r:=rc) aa C;exact⟨_,_,by rw[x],by rw[x];exact i,bl,by rw[x];rw[sI C,sH C]at d;exact d,a_,j⟩
   ·
    refine G.skip ?_;have aF:(gF D p n).1=0:=by omega
    refine aP.sub (a0 (ab,bR,(gF D p n).2,nS D p n) _ ?_) ⟨rfl,rfl,trivial⟩;exact⟨i,by rw[oX aF,oW aF]at d;exact d,by rw[yg aa,aF],uW ak p n,by unfold nS;rw[List.length_take];omega,bm,a_,am⟩
  ·
   refine G.skip ?_;refine aP.sub (a0 (K,g,D,n) _ ?_) ⟨rfl,rfl,trivial⟩;exact⟨i,by rw[show br=false by simpa using aa]at d;exact d,yf (by simpa using aa),ak.mono (by omega),(by omega),ad,dl,am⟩
 ·
  rintro⟨A,g1,M,bH⟩ aT bK;obtain⟨i,d,b7,b6,cG,S,au,Q⟩:=bK;have bo:=az.hk (dk) (aD.mono j.size) S;have bq:=az.hk (a8) (a7.mono j.size) S;have aK:ah (I.size+1) A:=ah.hk (aR) q.lt S;have bs:ah (t.size+1) A:=ah.hk (aS) L.lt S;have aM:aZ K I.size A:=aZ.L (ac) S j.size;replace aL:=aL.ab Q (az.app dk (az.J ba));replace B:=B.ab Q (az.app a8 (az.J b5));replace q:=q.ab Q (ah.app aR (ah.J bf.symm));replace L:=L.ab Q (ah.app aS (ah.J bL.symm));replace j:=j.aJ Q (ag.app (ag.cH (ac) (by intro k P;simp[P])) (ag.J (aq.r ae)));have ck:=Q.size;have al:=i.aB;have aB:=au;refine G.L (fun bV=>?_);refine o.v1 (Y.makeFunc rfl rfl) ?_;refine o.ak ?_;refine bV (G.L (fun bt=>?_));refine o.v1 (Y.makeFunc rfl rfl) ?_;refine o.V ?_;refine o.v1 (Y.makeFunc rfl rfl) ?_;refine o.V ?_;refine o.aO (cT _ (([(109,[ptr I.size,ptr t.size]),(106,[ptr I.size]),(112,[ptr I.size]),(106,[ptr I.size])]:List jF)) sD wq wu (rfl)) fun bX bZ b1=>?_;obtain⟨aO,N,cv,bu⟩:=b1;have b2:bZ.size=aT.size+1:=by rw[bu];simp
  have bw:ah (aT.size+1) A:=ah.ho i.aB;replace i:=i.M N;replace aL:=aL.M N;replace B:=B.M N;replace q:=q.M N;replace L:=L.M N;replace d:=d.M N;replace j:=j.bc N;have cl:=N.size;refine aW u3 (wF A g1 b M bX [(109,[ptr I.size,ptr t.size]),(106,[ptr I.size]),(112,[ptr I.size]),(106,[ptr I.size])] (gW p bH rc) _ w0 _ i aO.rd (bh.of aO.le) (az.of (bw)) rfl (An (mo.mk aL (aD.mono (by omega)) (bo) q d (aK) (aB)) (lj.mk L (bs)) (mv.mk B (a7.mono (by omega)) (bq)) b8 bc b6 (by omega))) (fun cm cn b3=>?_);have bx:=d.lt;obtain⟨a2,cq,rfl,i,a6,ap⟩:=b3;have ai:ah (aY+1) a2:=ah.hk (aB) bx a6;have aQ:aZ K I.size a2:=aZ.L (aM) a6 j.size;replace q:=q.ab ap (aK);replace d:=d.ab ap (aB);replace j:=j.aJ ap (ag.cH (aM) (by intro k P;simp[P]));have cr:=ap.size;have al:=i.aB;have x:=uC (r:=rc) b7;refine o.ak ?_;refine bt (G.t2 (fun bz bA=>G.L (fun bC=>?_)));refine o.V ?_;refine o.v1 cU (o.nil (bC ?_));refine aU (fun b4=>?_) (fun b4=>?_)
  ·
   refine G.L (fun bE=>?_);refine o.v1 (ar q.N hj) ?_;refine o.bH ?_;refine o.v1 (Y.ai d.N rfl gm rfl cX) ?_;refine o.s1 (dj d 3 ([ptr b,aI p,.int .i64 (bH:Int),.bool true]) (rfl) cX (by simp) (rfl)) fun a3 bg=>?_;obtain⟨d,V⟩:=bg;replace V:=V.bs;replace i:=i.ab V (ez.cons ai ez.nil);replace j:=j.aJ V (ag.J (aq.r ae));have ct:=V.size;refine o.nil (bE (G.L (fun bF=>?_)));refine o.aQ 2 ?_;refine bF ?_;refine G.ret (bA (aJ ?_));have C:(c3 (gW p bH rc) M).1≠0:=by omega
   rw[if_neg C,if_neg C]at x;exact⟨_,_,by rw[x],by rw[x];exact i,aQ,by rw[x];exact d,ai,j⟩
  ·
   refine G.skip (bz (G.L (fun bG=>?_)));refine o.v1 (ar q.N hj) ?_;refine o.bH ?_;refine o.v1 (Y.ai d.N rfl gm rfl b0) ?_;refine o.v1 (ar (d.N.drop 2) cj) ?_;refine o.v1 (Y.cast (v2:= .int .i64 ((bH+1:Nat):Int)) bD (fM (by omega))) ?_;refine o.bH ?_;refine o.v1 (Y.ai d.N rfl gm rfl b0) ?_;refine o.s1 (dj d 2 ([ptr b,aI p,.int .i64 ((bH+1:Nat):Int),.bool false]) (rfl) b0 (by simp) (rfl)) fun a4 bj=>?_;obtain⟨d,X⟩:=bj;replace X:=X.bs;replace i:=i.ab X (ez.cons ai ez.nil);replace j:=j.aJ X (ag.J (aq.r ae));have cu:=X.size;refine o.nil (bG (G.seq (fun ab bI _=>G.region ?_)));refine o.ak ?_;refine bI _ _ ?_;refine G.ret (aJ ?_);have C:(c3 (gW p bH rc) M).1=0:=by omega
   rw[if_pos C,if_pos C]at x;exact⟨_,_,by rw[x,C];rfl,by rw[x];exact i,aQ,by rw[x];exact d,ai,j⟩
end nm

namespace oq
open E Go.RowKit ft gd gr gN gV hi hv hH hU iY iZ kh kG lk lN mA nm
structure rz (k:Nat) (H:Heap) (v:Value) (b:Nat) (p:aH) (n:Nat) (br:Bool):Prop where
 ex:(k=0∧v= .pointer none)∨∃aY,k=aY+1∧v=ptr aY∧Var 206 H aY [ptr b,aI p,.int .i64 (n:Int),.bool br]
section
variable {k b n : Nat} {H aa : Heap} {v : Value} {p : aH} {br : Bool} {ks : List Nat}
theorem rz.var{aY:Nat}(h:rz (aY+1) H v b p n br):v=ptr aY∧Var 206 H aY [ptr b,aI p,.int .i64 (n:Int),.bool br]:=by
 rcases h.ex with⟨e,_⟩|⟨i,e,d,h⟩
 ·omega
 ·obtain rfl:aY=i:=by omega
  exact⟨d,h⟩
end
section
variable {D : aG} {p : aH}
theorem x3(h:cz p=false∨cz (cG p)=false):eV D p=(7,[],D):=by unfold eV;rw[if_pos h]
theorem pa(bH:cz p=true)(d:cz (cG p)=true):¬(cz p=false∨cz (cG p)=false):=by rw[bH,d];simp
theorem x4(bH:cz p=true)(d:cz (cG p)=true)(h:D.fz p=2):eV D p=((eJ D p []).1,[],(eJ D p []).2):=by unfold eV;rw[if_neg (pa bH d),if_pos h]
theorem FF(bH:cz p=true)(d:cz (cG p)=true)(h:D.fz p≠2)(U:D.fz p≠0):eV D p=(D.fz p,[],D):=by unfold eV;rw[if_neg (pa bH d),if_neg h,if_pos U]
theorem x5(bH:cz p=true)(d:cz (cG p)=true)(h:D.fz p=0)(U:gw (D.cB p)≠0):eV D p=(gw (D.cB p),[],D):=by unfold eV;rw[if_neg (pa bH d),if_neg (by omega),if_neg (by omega),if_pos U]
theorem m2(bH:cz p=true)(i:cz (cG p)=true)(h:D.fz p=0)(U:gw (D.cB p)=0)(d:m3 (D.cB p)<(D.cB p).length):eV D p=((eJ D p (eb (D.cB p))).1,if(eJ D p (eb (D.cB p))).1=0 then eb (D.cB p)else[],(eJ D p (eb (D.cB p))).2):=by
 unfold eV;rw[if_neg (pa bH i),if_neg (by omega),if_neg (by omega),if_neg (by omega),if_pos d]
theorem nY(bH:cz p=true)(i:cz (cG p)=true)(h:D.fz p=0)(U:gw (D.cB p)=0)(d:¬m3 (D.cB p)<(D.cB p).length):eV D p=(0,eb (D.cB p),D):=by
 unfold eV;rw[if_neg (pa bH i),if_neg (by omega),if_neg (by omega),if_neg (by omega),if_neg d]
end
theorem H8(bk:Int)(K:List Nat)(g:cD)(b:Nat)(D:aG)(p:aH)(cb:Nat)(w0:World)(I:Heap)
 (n:bn K g I b D) (aL:dY bk I) (ae:bh (fun b=>b=0) I.size) (dk:az (fun b=>b=0) K) (bq:p.length≤4294960000) (aA:bQ cb D) (dg:cb≤80000000):
 aC Tryz.prog w0 35 #[ptr b,aI p] I (fun r X=>∃cw:Value,∃af:Nat,∃t:aN,∃l:List (aN×Rec),∃bp:List Nat,∃g2:cD,∃aR:Nat→Prop,r= .tuple #[cw,t.v,.int .i64 ((eV D p).1:Int)]∧(bn bp g2 X b (eV D p).2.2)∧(aZ K I.size bp)∧(rz af X cw b p l.length false)∧(T 0 I.size af)∧(ah af bp)∧(((eV D p).1=0→∃aY,af=aY+1∧cw=ptr aY)∧((eV D p).1≠0→af=0∧cw= .pointer none))∧(cI l=(eV D p).2.1)∧(Rd aR X iG 1 t.v l)∧(∀x∈l,Rd aR X a1 1 x.1.v x.2)∧(bh aR X.size)∧(∀c,aR c→I.size≤c)∧(az aR bp)∧(ay aR af)∧W (aE K) I X):=by
 refine aC.aK [ptr b,aI p] Tryz.func35 ?_;intro cv Q;have q:W (aE K) I I:=W.refl _ _;have P:=aZ.refl K I.size;have aa:=n.aB;have dm:=n1 aA p;have dh:=(mL (D.cB p)).2;have di:=ti (D.cB p);refine G.L (fun cg=>?_);refine o.aQ 3 ?_;refine cg (G.seq (fun bp cj bf=>G.L (fun bg=>?_)));refine o.V ?_;refine aW mI (mX bk p w0 _ aL (ae.mono (by omega)) (by omega)) (fun cX cZ bv=>?_);obtain⟨rfl,aJ⟩:=bv;replace n:=n.M aJ;replace aL:=aL.M aJ;replace q:=q.bc aJ;have c0:=aJ.size;refine o.v1 eL ?_;refine o.V ?_;refine o.split (d:=15) rfl (fun aP=>?_) (fun aP=>?_)
 ·
  have j:=x3 (D:=D) (p:=p) (.inl (by simpa using aP));refine o.ax 5 ?_;refine o.nil (bg ?_);refine G.iz rfl ?_;refine G.L (fun ck=>?_);refine o.aQ 3 ?_;refine ck ?_;refine G.ret (bf .ret nofun _ _ (Q ?_));exact⟨.pointer none,0,⟨none,0,0⟩,[],_,_,(fun _=>False),by rw[j];rfl,by rw[j];exact n,P,⟨.inl ⟨rfl,rfl⟩⟩,(.inl rfl),ah.kb,⟨fun h=>absurd h (by rw[j];exact(Nat.succ_ne_zero 6)),fun _=>⟨rfl,rfl⟩⟩,by rw[j];rfl,Rd.nil _ _ _ _,(fun x h=>by cases h),(fun b h=>h.elim),(fun c h=>h.elim),(fun k H b h=>h.elim),(fun b h=>h.elim),q⟩
 ·
  refine o.bU ?_;refine o.ao (Y.cast (v2:=aI (cG p)) (Y.q2 rfl rfl rfl (by simp only[List.length_cons,List.length_nil];omega)) (rfl)) ?_;refine o.call rfl mI rfl bd rfl rfl (mX bk (cG p) w0 _ aL (ae.mono (by omega)) (by rw[o6];omega)) (fun c1 F cl=>?_);obtain⟨rfl,aK⟩:=cl;replace n:=n.M aK;replace aL:=aL.M aK;replace q:=q.bc aK;have c3:=aK.size;refine o.ao eL ?_;refine o.dF ?_;refine o.nil (bg ?_);refine cK (fun aQ=>?_) (fun aQ=>?_)
  ·
   have j:=x3 (D:=D) (p:=p) (.inr (by simpa using aQ));refine G.L (fun cm=>?_);refine o.aQ 3 ?_;refine cm ?_;refine G.ret (bf .ret nofun _ _ (Q ?_));exact⟨.pointer none,0,⟨none,0,0⟩,[],_,_,(fun _=>False),by rw[j];rfl,by rw[j];exact n,P,⟨.inl ⟨rfl,rfl⟩⟩,(.inl rfl),ah.kb,⟨fun h=>absurd h (by rw[j];exact(Nat.succ_ne_zero 6)),fun _=>⟨rfl,rfl⟩⟩,by rw[j];rfl,Rd.nil _ _ _ _,(fun x h=>by cases h),(fun b h=>h.elim),(fun c h=>h.elim),(fun k H b h=>h.elim),(fun b h=>h.elim),q⟩
  ·
   have L:cz p=true:=by simpa using aP
   have M:cz (cG p)=true:=by simpa using aQ
   refine G.skip (cj _ _ (G.L (fun bO=>?_)));refine o.ax 2 ?_;refine o.v1 (Y.build (v:= .agg #[ptr b,aI p,.int .i64 0,.bool false]) rfl rfl (by intro w;kernel_rfl)) ?_;refine o.aO cq fun c4 bj bP=>?_;obtain⟨rfl,C,aM,cT,bx⟩:=bP;have da:bj.size=F.size+1:=by rw[bx];simp
   have Z:ah (F.size+1) K:=ah.ho n.aB;have bl:=(ay.new (ae.mono q.size):ay _ (F.size+1));have R:T 0 I.size (F.size+1):=T.new q.size;replace n:=n.M aM;replace aL:=aL.M aM;replace q:=q.bc aM;have c8:=aM.size;replace C:Var 206 bj F.size ([ptr b,aI p,.int .i64 ((0:Nat):Int),.bool false]):=C;refine o.ak ?_;refine bO (G.L (fun bR=>?_));refine o.ax 2 ?_;refine aW vB (yn bk K g b D p w0 _ aL (ae.mono (by omega)) n (by omega) (fun i=>by have:=(aA.f i).1;omega)) (fun c9 aB bS=>?_);obtain⟨bU,cy,rfl,al,cV,au⟩:=bS;replace n:=n.M au;replace aL:=aL.M au;replace C:=C.M au;replace q:=q.bc au;have cA:=au.size;have cx:=al.le;refine o.V ?_;refine o.v1 cO ?_;refine o.v1 cO ?_;refine o.aQ 2 ?_;refine bR (G.t2 (fun bV br=>G.L (fun bX=>?_)));refine o.V ?_;refine o.v1 b9 (o.nil (bX ?_));refine aU (fun bY=>?_) (fun bY=>?_)
   ·
    have j:=x4 (D:=D) L M (by omega);refine G.t2 (fun bz bA=>G.L (fun bC=>?_));refine o.V ?_;refine aW r8 (r_ bk K g b D F.size p 0 false ⟨none,0,0⟩ [] (fun _=>False) cb w0 _ n aL (ae.mono (by omega)) (dk) C (Z) (bl) (Rd.nil _ _ _ _) (fun b h=>h.elim) (fun k H b h=>h.elim) (fun x h=>by cases h) (fun b h=>h.elim) (fun k H b h=>h.elim) (fun x h=>by cases h) (by simp[cI,e3]) (fun b h _=>h.elim) (fun b h _=>h.elim) bq aA (by simp[cI,cR,gA,e3];omega) (by simp)) (fun cC cH bZ=>?_);obtain⟨bm,cJ,rfl,n,bw,C,cn,aX⟩:=bZ;have a6:aZ K I.size bm:=aZ.L (P) bw q.size;replace q:=q.aJ aX (ag.app (ag.cH (P) (by intro k H;simp[H])) (ag.J (aq.q R)));have cL:=aX.size;have aa:=n.aB;refine o.ak ?_;refine bC (G.L (fun bD=>?_));refine o.V ?_;refine o.v1 cU (o.nil (bD ?_));refine aU (fun aS=>?_) (fun aS=>?_)
    ·
     refine G.L (fun bE=>?_);refine o.aQ 4 ?_;refine bE ?_;refine G.ret (bA (br (Q ?_)));exact⟨.pointer none,0,⟨none,0,0⟩,[],_,_,(fun _=>False),by rw[j];rfl,by rw[j];exact n,a6,⟨.inl ⟨rfl,rfl⟩⟩,(.inl rfl),ah.kb,⟨fun h=>absurd h (by rw[j];exact(by have A:=aS;simp only[cI,List.map_nil]at A;show(eJ D p []).1≠0;omega)),fun _=>⟨rfl,rfl⟩⟩,by rw[j];rfl,Rd.nil _ _ _ _,(fun x h=>by cases h),(fun b h=>h.elim),(fun c h=>h.elim),(fun k H b h=>h.elim),(fun b h=>h.elim),q⟩
    ·
     refine G.skip (bz (G.L (fun bF=>?_)));refine o.aQ 4 ?_;refine bF ?_;refine G.ret (br (Q ?_));have B:(eJ D p []).1=0:=by have A:=aS;simp only[cI,List.map_nil]at A;omega
     rw[B]at j;exact⟨ptr F.size,(F.size+1),⟨none,0,0⟩,[],_,_,(fun _=>False),by rw[j];rfl,by rw[j];exact n,a6,⟨.inr ⟨_,rfl,rfl,by simp only[cI,List.map_nil]at C;rw[oX B,oW B]at C;exact C⟩⟩,R,cn,⟨fun _=>⟨_,rfl,rfl⟩,fun h=>absurd (by rw[j]) h⟩,by rw[j];rfl,Rd.nil _ _ _ _,(fun x h=>by cases h),(fun b h=>h.elim),(fun c h=>h.elim),(fun k H b h=>h.elim),(fun b h=>h.elim),q⟩
   ·
    refine G.skip (bV (G.t2 (fun bG bI=>G.L (fun bK=>?_))));refine o.V ?_;refine o.v1 cU (o.nil (bK ?_));refine aU (fun b1=>?_) (fun b1=>?_)
    ·
     refine G.L (fun bL=>?_);refine o.aQ 4 ?_;refine bL ?_;refine G.ret (bI (Q ?_));have B:D.fz p≠0:=by omega
     have j:=FF (D:=D) L M (by omega) B;exact⟨.pointer none,0,⟨none,0,0⟩,[],_,_,(fun _=>False),by rw[j];rfl,by rw[j];exact n,P,⟨.inl ⟨rfl,rfl⟩⟩,(.inl rfl),ah.kb,⟨fun h=>absurd h (by rw[j];exact B),fun _=>⟨rfl,rfl⟩⟩,by rw[j];rfl,Rd.nil _ _ _ _,(fun x h=>by cases h),(fun b h=>h.elim),(fun c h=>h.elim),(fun k H b h=>h.elim),(fun b h=>h.elim),q⟩
    ·
     refine G.skip (bG (G.L (fun a0=>?_)));refine o.V ?_;refine aW vC (ya bU (D.cB p) w0 _ al.rd.any (by have:=n1 aA p;omega)) (fun cM aD b2=>?_);obtain⟨aF,ap,rfl,N,ac,O,ab⟩:=b2;replace n:=n.M ab;replace aL:=aL.M ab;replace C:=C.M ab;replace al:=al.M ab;replace q:=q.bc ab;have cN:=ab.size;replace ac:=ac.bw;have ad:=ac.bY;have am:az (fun b=>aB.size≤b∧b<aD.size) K:=az.iy (fun b h=>h.1) (by first|exact aa|exact fun k H=>Nat.le_trans (aa k H) (by omega)|assumption);have V:ay (fun b=>aB.size≤b∧b<aD.size) (F.size+1):=ay.iy (fun b h=>h.1) (by first|exact cr|exact cu|omega);replace O:=fun x S=>(O x S).bw;have a7:az (fun b=>aB.size≤b∧b<aD.size) K:=az.iy (fun b h=>h.1) (by first|exact aa|exact fun k H=>Nat.le_trans (aa k H) (by omega)|assumption);have ar:ay (fun b=>aB.size≤b∧b<aD.size) (F.size+1):=ay.iy (fun b h=>h.1) (by first|exact cr|exact cu|omega);refine o.V ?_;refine o.v1 cO ?_;refine o.v1 cO ?_;refine o.v1 cO ?_;have ct:=congrArg List.length N;simp only[cI,List.length_map]at ct;refine o.aQ 3 ?_;refine a0 (G.t1 (fun aT=>G.L (fun a8=>?_)));refine o.V ?_;refine o.v1 b9 ?_;refine o.V ?_;refine o.bj (d:=50) rfl (fun b3=>?_) (fun b3=>?_)
     ·
      refine o.ax 2 ?_;refine o.ao (bb al.rd dc) ?_;refine o.ao bJ ?_;refine o.N ?_;refine o.nil (a8 ?_);refine aU (fun b4=>?_) (fun b4=>?_)
      ·
       refine G.region ?_;refine o.ax 2 ?_;refine aW r8 (r_ bk K g b D F.size p 0 false aF ap _ cb w0 _ n aL (ae.mono (by omega)) (dk) C (Z) (bl) ac (ad.mono (by omega)) (am) O (ad.mono (by omega)) (a7) (fun x h=>x7 _ _ (by rw[←N];exact List.mem_map_of_mem h)) (by rw[N];have U:=(mL (D.cB p)).1;omega) (V) (ar) bq aA (by rw[N];omega) (by omega)) (fun cP cS b5=>?_);obtain⟨b6,c_,rfl,n,ba,C,bo,aO⟩:=b5;have a2:=az.hk (am) (ad.mono (by omega)) ba;have a_:aZ K I.size b6:=aZ.L (P) ba q.size;replace ac:=ac.ab aO (az.app am (az.J V));replace O:=fun x S=>(O x S).ab aO (az.app a7 (az.J ar));replace q:=q.aJ aO (ag.app (ag.cH (P) (by intro k H;simp[H])) (ag.J (aq.q R)));have db:=aO.size;have aa:=n.aB;refine o.ak ?_;refine aT (G.t2 (fun a3 a4=>G.L (fun a5=>?_)));refine o.V ?_;refine o.v1 cU (o.nil (a5 ?_));refine aU (fun ai=>?_) (fun ai=>?_)
       ·
        refine G.L (fun bs=>?_);refine o.aQ 4 ?_;refine bs ?_;refine G.ret (a4 (Q ?_));have B:(eJ D p (eb (D.cB p))).1≠0:=by rw[←N];omega
        have j:=m2 (D:=D) L M (by omega) (by omega) (by omega);rw[if_neg B]at j;rw[N]at n;exact⟨.pointer none,0,⟨none,0,0⟩,[],_,_,(fun _=>False),by rw[j,N],by rw[j];exact n,a_,⟨.inl ⟨rfl,rfl⟩⟩,(.inl rfl),ah.kb,⟨fun h=>absurd h (by rw[j];exact B),fun _=>⟨rfl,rfl⟩⟩,by rw[j];rfl,Rd.nil _ _ _ _,(fun x h=>by cases h),(fun b h=>h.elim),(fun c h=>h.elim),(fun k H b h=>h.elim),(fun b h=>h.elim),q⟩
       ·
        try (have B:(eJ D p (cI ap)).1=0:=(by omega);rw[oX B,oW B]at C)
        refine G.skip (a3 (G.L (fun bt=>?_)));refine o.ax 2 ?_;refine o.v1 (bb ac h7) ?_;refine o.bH ?_;refine o.v1 (Y.ai C.N rfl gm rfl b0) ?_;refine o.s1 (dj C 2 ([ptr b,aI p,.int .i64 ((ap.length:Nat):Int),.bool false]) (rfl) b0 (by simp) (rfl)) fun bc ak=>?_;obtain⟨C,E⟩:=ak;replace E:=E.bs;replace n:=n.ab E (ez.cons bo ez.nil);replace ac:=ac.ab E (az.J V);replace O:=fun x S=>(O x S).ab E (az.J ar);replace q:=q.aJ E (ag.J (aq.q R));have de:=E.size;refine o.nil (bt (G.L (fun bu=>?_)));refine o.aQ 5 ?_;refine bu ?_;refine G.ret (Q ?_)
        have j:(eV D p).1=0∧(eV D p).2.1=eb (D.cB p):=by
         first
         |(have A:=m2 (D:=D) L M (by omega) (by omega) (by omega);have B:(eJ D p (eb (D.cB p))).1=0:=(by rw[←N];omega);rw[B,if_pos rfl]at A;rw[A];exact⟨rfl,rfl⟩)
         |(have A:=nY (D:=D) L M (by omega) (by omega) (by omega);rw[A];exact⟨rfl,rfl⟩)
        exact⟨ptr F.size,(F.size+1),aF,ap,_,_,_,by rw[j.1];rfl,(by first|(have A:=m2 (D:=D) L M (by omega) (by omega) (by omega);rw[A];rw[N]at n;exact n)|(have A:=nY (D:=D) L M (by omega) (by omega) (by omega);rw[A];exact n)),a_,⟨.inr ⟨_,rfl,rfl,C⟩⟩,R,bo,⟨fun _=>⟨_,rfl,rfl⟩,fun h=>absurd j.1 h⟩,by rw[j.2];exact N,ac,(fun x h=>O x h),(ad.mono (by omega)),(fun c h=>by have A:=h.1;omega),(a2),(V),q⟩
      ·
       refine G.skip (aT (G.t2 (fun a9 bN=>G.L (fun b7=>?_))));refine o.V ?_;refine o.v1 cU (o.nil (b7 ?_));refine aU (fun ai=>?_) (fun ai=>?_)
       ·
        refine G.L (fun b8=>?_);refine o.aQ 4 ?_;refine b8 ?_;refine G.ret (bN (Q ?_));have B:gw (D.cB p)≠0:=by omega
        have j:=x5 (D:=D) L M (by omega) B;exact⟨.pointer none,0,⟨none,0,0⟩,[],_,_,(fun _=>False),by rw[j];rfl,by rw[j];exact n,P,⟨.inl ⟨rfl,rfl⟩⟩,(.inl rfl),ah.kb,⟨fun h=>absurd h (by rw[j];exact B),fun _=>⟨rfl,rfl⟩⟩,by rw[j];rfl,Rd.nil _ _ _ _,(fun x h=>by cases h),(fun b h=>h.elim),(fun c h=>h.elim),(fun k H b h=>h.elim),(fun b h=>h.elim),q⟩
       ·
        try (have B:(eJ D p (cI ap)).1=0:=(by omega);rw[oX B,oW B]at C)
        refine G.skip (a9 (G.L (fun b_=>?_)));refine o.ax 2 ?_;refine o.v1 (bb ac h7) ?_;refine o.bH ?_;refine o.v1 (Y.ai C.N rfl gm rfl b0) ?_;refine o.s1 (dj C 2 ([ptr b,aI p,.int .i64 ((ap.length:Nat):Int),.bool false]) (rfl) b0 (by simp) (rfl)) fun bc ak=>?_;obtain⟨C,E⟩:=ak;replace E:=E.bs;replace n:=n.ab E (ez.cons Z ez.nil);replace ac:=ac.ab E (az.J V);replace O:=fun x S=>(O x S).ab E (az.J ar);replace q:=q.aJ E (ag.J (aq.q R));have df:=E.size;refine o.nil (b_ (G.L (fun bT=>?_)));refine o.aQ 5 ?_;refine bT ?_;refine G.ret (Q ?_)
        have j:(eV D p).1=0∧(eV D p).2.1=eb (D.cB p):=by
         first
         |(have A:=m2 (D:=D) L M (by omega) (by omega) (by omega);have B:(eJ D p (eb (D.cB p))).1=0:=(by rw[←N];omega);rw[B,if_pos rfl]at A;rw[A];exact⟨rfl,rfl⟩)
         |(have A:=nY (D:=D) L M (by omega) (by omega) (by omega);rw[A];exact⟨rfl,rfl⟩)
        exact⟨ptr F.size,(F.size+1),aF,ap,_,_,_,by rw[j.1];rfl,(by first|(have A:=m2 (D:=D) L M (by omega) (by omega) (by omega);rw[A];rw[N]at n;exact n)|(have A:=nY (D:=D) L M (by omega) (by omega) (by omega);rw[A];exact n)),P,⟨.inr ⟨_,rfl,rfl,C⟩⟩,R,Z,⟨fun _=>⟨_,rfl,rfl⟩,fun h=>absurd j.1 h⟩,by rw[j.2];exact N,ac,(fun x h=>O x h),(ad.mono (by omega)),(fun c h=>by have A:=h.1;omega),(am),(V),q⟩
     ·
      refine o.ax 5 ?_;refine o.nil (a8 ?_);refine dw ?_;refine G.skip (aT (G.t2 (fun be ca=>G.L (fun cc=>?_))));refine o.V ?_;refine o.v1 cU (o.nil (cc ?_));refine aU (fun ai=>?_) (fun ai=>?_)
      ·
       refine G.L (fun bi=>?_);refine o.aQ 4 ?_;refine bi ?_;refine G.ret (ca (Q ?_));have B:gw (D.cB p)≠0:=by omega
       have j:=x5 (D:=D) L M (by omega) B;exact⟨.pointer none,0,⟨none,0,0⟩,[],_,_,(fun _=>False),by rw[j];rfl,by rw[j];exact n,P,⟨.inl ⟨rfl,rfl⟩⟩,(.inl rfl),ah.kb,⟨fun h=>absurd h (by rw[j];exact B),fun _=>⟨rfl,rfl⟩⟩,by rw[j];rfl,Rd.nil _ _ _ _,(fun x h=>by cases h),(fun b h=>h.elim),(fun c h=>h.elim),(fun k H b h=>h.elim),(fun b h=>h.elim),q⟩
      ·
       try (have B:(eJ D p (cI ap)).1=0:=(by omega);rw[oX B,oW B]at C)
       refine G.skip (be (G.seq (fun bm cd _=>G.region ?_)));refine o.ax 2 ?_;refine o.v1 (bb ac h7) ?_;refine o.bH ?_;refine o.v1 (Y.ai C.N rfl gm rfl b0) ?_;refine o.s1 (dj C 2 ([ptr b,aI p,.int .i64 ((ap.length:Nat):Int),.bool false]) (rfl) b0 (by simp) (rfl)) fun bc ak=>?_;obtain⟨C,E⟩:=ak;replace E:=E.bs;replace n:=n.ab E (ez.cons Z ez.nil);replace ac:=ac.ab E (az.J V);replace O:=fun x S=>(O x S).ab E (az.J ar);replace q:=q.aJ E (ag.J (aq.q R));have cW:=E.size;refine o.nil (cd _ _ (G.L (fun cf=>?_)));refine o.aQ 5 ?_;refine cf ?_;refine G.ret (Q ?_)
       have j:(eV D p).1=0∧(eV D p).2.1=eb (D.cB p):=by
        first
        |(have A:=m2 (D:=D) L M (by omega) (by omega) (by omega);have B:(eJ D p (eb (D.cB p))).1=0:=(by rw[←N];omega);rw[B,if_pos rfl]at A;rw[A];exact⟨rfl,rfl⟩)
        |(have A:=nY (D:=D) L M (by omega) (by omega) (by omega);rw[A];exact⟨rfl,rfl⟩)
       exact⟨ptr F.size,(F.size+1),aF,ap,_,_,_,by rw[j.1];rfl,(by first|(have A:=m2 (D:=D) L M (by omega) (by omega) (by omega);rw[A];rw[N]at n;exact n)|(have A:=nY (D:=D) L M (by omega) (by omega) (by omega);rw[A];exact n)),P,⟨.inr ⟨_,rfl,rfl,C⟩⟩,R,Z,⟨fun _=>⟨_,rfl,rfl⟩,fun h=>absurd j.1 h⟩,by rw[j.2];exact N,ac,(fun x h=>O x h),(ad.mono (by omega)),(fun c h=>by have A:=h.1;omega),(am),(V),q⟩
theorem H9(bk:Int)(K:List Nat)(g:cD)(b:Nat)(D:aG)(p:aH)(cb:Nat)(w0:World)(I:Heap)(O:bn K g I b D)(aL:dY bk I)(i:bh (fun b=>b=0) I.size)(dk:az (fun b=>b=0) K)(P:p.length≤4294960000)(M:bQ cb D)(N:cb≤80000000)(he:(eV D p).1=0):
 aC Tryz.prog w0 35 #[ptr b,aI p] I (fun r d=>∃(aY:Nat) (t:aN) (l:List (aN×Rec)) (bp:List Nat) (g2:cD) (aR:Nat→Prop),r= .tuple #[ptr aY,t.v,.int .i64 0]∧bn bp g2 d b (eV D p).2.2∧aZ K I.size bp∧Var 206 d aY [ptr b,aI p,.int .i64 (l.length:Int),.bool false]∧T 0 I.size (aY+1)∧ah (aY+1) bp∧cI l=(eV D p).2.1∧Rd aR d iG 1 t.v l∧(∀x∈l,Rd aR d a1 1 x.1.v x.2)∧bh aR d.size∧(∀c,aR c→I.size≤c)∧az aR bp∧ay aR (aY+1)∧W (aE K) I d):=by
 refine(H8 bk K g b D p cb w0 I O aL i dk P M N).mono ?_;rintro r d ⟨cw,Q,t,l,bp,g2,aR,rfl,j,U,B,C,E,F,G,H,L,n,o,q,A,k⟩;obtain⟨aY,rfl,rfl⟩:=F.1 he;exact⟨aY,t,l,bp,g2,aR,by rw[he];rfl,j,U,B.var.2,C,E,G,H,L,n,o,q,A,k⟩
end oq

namespace og
open E Go.RowKit ft gd gr gN gV hi hv hH hU iY iZ kh kG lk lN mA nm oq ev eQ eR fC fD fI fS ga gz gq
abbrev fg:aH:=[106,111,117,114,110,97,108]
theorem AN(aY:Nat)(s s2:cW):ed (ptr aY::bS s) 1 (bS s2)=ptr aY::bS s2:=by
 unfold ed;rw[b4];rw[List.drop_eq_nil_of_le (by rw[List.length_cons,b4];omega)];simp
theorem AM(aY:Nat)(s:cW):(ptr aY::bS s).length=75:=by rw[List.length_cons,b4]
theorem uf{F:Nat→Prop}{H:Heap}:eS F H la:=⟨Rd.nil _ _ _ _,Rd.nil _ _ _ _,(fun y h=>by cases h),Rd.nil _ _ _ _,Rd.nil _ _ _ _,(fun y h=>by cases h)⟩
theorem zU:la.m=lI:=rfl
def kl(D:aG)(n:Nat)(br:Bool)(m:eA)(t:b1):Int×Nat×Bool×aG×eA:=
 if eI m t≠0 then(eI m t,n,br,D,m)
 else if(e_ D fg n br (fl t)).1≠0 then(((e_ D fg n br (fl t)).1:Int),(e_ D fg n br (fl t)).2.1,(e_ D fg n br (fl t)).2.2.1,(e_ D fg n br (fl t)).2.2.2,m)
 else(0,(e_ D fg n br (fl t)).2.1,(e_ D fg n br (fl t)).2.2.1,(e_ D fg n br (fl t)).2.2.2,m.ap t)
section
variable {D : aG} {n : Nat} {br : Bool} {m : eA} {t : b1}
theorem do_1(h:eI m t≠0):kl D n br m t=(eI m t,n,br,D,m):=by unfold kl;rw[if_pos h]
theorem CV(h:eI m t=0)(U:(e_ D fg n br (fl t)).1≠0):kl D n br m t=(((e_ D fg n br (fl t)).1:Int),(e_ D fg n br (fl t)).2.1,(e_ D fg n br (fl t)).2.2.1,(e_ D fg n br (fl t)).2.2.2,m):=by unfold kl;rw[if_neg (by rw[h];decide),if_pos U]
theorem vT(h:eI m t=0)(U:(e_ D fg n br (fl t)).1=0):kl D n br m t=(0,(e_ D fg n br (fl t)).2.1,(e_ D fg n br (fl t)).2.2.1,(e_ D fg n br (fl t)).2.2.2,m.ap t):=by unfold kl;rw[if_neg (by rw[h];decide),if_neg (by rw[U];decide)]
end
theorem FE(bk:Int)(K:List Nat)(g:cD)(b:Nat)(D:aG)(cb:Nat)(w0:World)(I:Heap)
 (d:bn K g I b D) (aL:dY bk I) (aM:bh (fun b=>b=0) I.size) (dk:az (fun b=>b=0) K) (aO:bQ cb D) (aP:cb≤80000000) (he:(eV D fg).1=0) (aS:(eV D fg).2.1=[]):
 aC Tryz.prog w0 14 #[ptr b] I (fun r B=>∃t:Nat,∃aY:Nat,∃bp:List Nat,∃g2:cD,r= .tuple #[ptr t,.int .i64 0]∧(bn bp g2 B b (eV D fg).2.2)∧(aZ K I.size bp)∧(Var 206 B aY [ptr b,aI fg,.int .i64 0,.bool false])∧(T 0 I.size (aY+1))∧(ah (aY+1) bp)∧(Var 108 B t (ptr aY::bS la))∧(T 0 I.size (t+1))∧(ah (t+1) bp)∧(af (aY+1) (t+1))∧W (aE K) I B):=by
 refine aC.aK [ptr b] Tryz.func14 ?_;intro a1 aT;have i:W (aE K) I I:=W.refl _ _;have E:=aZ.refl K I.size;have aA:=d.aB;refine G.L (fun M=>?_);refine o.aQ 2 ?_;refine M (G.seq (fun bp N _=>G.region ?_));refine o.V ?_;refine aW BO (H9 bk K g b D fg _ w0 _ d aL (aM.mono (by omega)) (dk) (by decide) aO (aP) he) (fun a_ n O=>?_);obtain⟨A,P,L,au,Q,ba,rfl,d,aB,j,aD,aN,ad,C,a7,bg,bj,bl,bm,F⟩:=O;have R:aZ K I.size au:=aZ.L (E) aB i.size;have S:T 0 I.size (A+1):=T.L (T.refl 0 _) aD i.size;replace i:=i.aJ F (ag.cH (E) (by intro k aQ;simp[aQ]));have bc:=F.size;have aA:=d.aB;have bf:=j.le;rw[aS]at ad;have aR:L.length=0:=by have:=congrArg List.length ad;simpa[cI]using this
 rw[aR]at j;refine o.V ?_;refine o.v1 cO ?_;refine o.v1 cO ?_;refine o.v1 cO ?_;refine o.aQ 3 ?_;refine N _ _ (G.t1 (fun V=>G.L (fun X=>?_)));refine o.V ?_;refine o.v1 ((cU).fm ((fun h=>h rfl))) (o.nil (X ?_));refine dw ?_;refine G.skip (V (G.L (fun Z=>?_)));refine o.V ?_;refine o.v1 (Y.build (v:= .agg (ptr A::bS la).toArray) rfl rfl (by intro w;kernel_rfl)) ?_;refine o.aO cq fun bd am aa=>?_;obtain⟨rfl,x,q,a8,aF⟩:=aa;have a6:am.size=n.size+1:=by rw[aF];simp
 have ab:ah (n.size+1) au:=ah.ho d.aB;have ae:af (A+1) (n.size+1):=af.new j.le;have ap:T 0 I.size (n.size+1):=T.new i.size;replace d:=d.M q;replace j:=j.M q;replace C:=C.M q;replace i:=i.bc q;have a0:=q.size;replace x:Var 108 am n.size ((ptr A::bS la)):=x;refine o.ak ?_;refine Z (G.t1 (fun ai=>G.L (fun ak=>?_)));refine o.V ?_;refine o.v1 (bb C h7) ?_;refine o.V (o.nil (ak ?_));refine G.aB (fun _ al _=>?_)
 refine G.bg (fun(_:Unit)=>[(7,.pointer (some ⟨n.size,0,none⟩)),(24,P.v),(25,.int .i64 (L.length:Int)),(26,.int .i64 0)])
  (fun(_:Unit) (H:Heap)=>(True)∧aj am H)
  (fun(_:Unit)=>0) () ⟨rfl,rfl,rfl,rfl,trivial⟩ ?_ ?_
 ·
  exact⟨trivial,W.refl _ _⟩
 intro _ a2 aq aX a3 ar;obtain⟨bo,ac⟩:=aq;replace d:=d.M ac;replace j:=j.M ac;replace x:=x.M ac;replace i:=i.bc ac;have a4:=ac.size;refine G.L (fun aH=>?_);refine o.v1 bJ (o.nil (aH ?_));refine G.t2 (fun _ aJ=>?_);refine aU (fun ay=>?_) (fun ay=>?_)
 ·
  omega
 ·
  refine G.exit (aJ (ar (al ?_)));refine ai (G.L (fun aK=>?_));refine o.aQ 3 ?_;refine aK ?_;refine G.ret (aT ?_);exact⟨n.size,A,au,Q,rfl,d,R,j,S,aN,x,ap,ab,ae,i⟩
theorem vU(bk:Int)(K:List Nat)(g:cD)(b:Nat)(D:aG)(cb aY x n:Nat)(br:Bool)(s:cW)(t:b1)(F C:Nat→Prop)(w0:World)(I:Heap)
 (i:bn K g I b D) (aL:dY bk I) (aX:bh (fun b=>b=0) I.size) (dk:az (fun b=>b=0) K) (j:Var 206 I aY [ptr b,aI fg,.int .i64 (n:Int),.bool br]) (dl:ah (aY+1) K) (bP:ay (fun b=>b=0) (aY+1)) (d:Var 108 I x (ptr aY::bS s)) (aH:ah (x+1) K) (a6:af (aY+1) (x+1)) (cr:ay (fun b=>b=0) (x+1)) (al:∀u:Unit,eS F I s) (V:bh F I.size) (aN:az F K) (ir:ay F (aY+1)) (c8:ay F (x+1)) (A:e2 C I t) (aF:bh C I.size) (b3:az C K) (b5:ay C (aY+1)) (cw:ay C (x+1)) (ok:s.m.Ok) (ae:lh t) (bR:bQ cb D) (bU:cb≤80000000) (bZ:n≤1000000000):
 aC Tryz.prog w0 15 #[ptr x,dG t] I (fun r L=>∃bp:List Nat,∃g2:cD,∃s2:cW,∃aR:Nat→Prop,r= .int .i64 (kl D n br s.m t).1∧(bn bp g2 L b (kl D n br s.m t).2.2.2.1)∧(aZ K I.size bp)∧(Var 206 L aY [ptr b,aI fg,.int .i64 ((kl D n br s.m t).2.1:Int),.bool (kl D n br s.m t).2.2.1])∧(ah (aY+1) bp)∧(Var 108 L x (ptr aY::bS s2))∧(ah (x+1) bp)∧(∀u:Unit,eS aR L s2)∧(bh aR L.size)∧(az aR bp)∧(ay aR (aY+1))∧(ay aR (x+1))∧(s2.m=(kl D n br s.m t).2.2.2.2)∧W (aE (K++[(aY+1),(x+1)])) I L):=by
 refine aC.aK [ptr x,dG t] Tryz.func15 ?_;intro b6 aK;have q:W (aE (K++[(aY+1),(x+1)])) I I:=W.refl _ _;have ak:=aZ.refl K I.size;have aA:=i.aB;have bJ:=T.refl (aY+1) I.size;have bL:=j.lt;have bK:=T.refl (x+1) I.size;have au:=d.lt;have bX:=ae.l3;refine G.L (fun bs=>?_);refine o.aO cq ?_;rintro v3 aO ⟨rfl,B,am,a9,bt⟩;have b_:aO.size=I.size+1:=by rw[bt];simp
 have bu:ah (I.size+1) K:=ah.ho i.aB;have bw:af (aY+1) (I.size+1):=af.new j.lt;replace i:=i.M am;replace aL:=aL.M am;replace j:=j.M am;replace d:=d.M am;replace al:=fun u=>(al u).M am;replace A:=A.M am;replace q:=q.bc am;have ca:=am.size;replace B:Var 32 aO I.size (c_ t):=B;refine o.ak ?_;refine bs (G.seq (fun bp bx bz=>G.t1 (fun bA=>?_)));refine iW 5 (fun b7 bV=>?_);refine o.ax 2 ?_;refine o.v1 (Y.ai d.N rfl pr rfl di) ?_;refine o.v1 (aT (d.N.drop 1) eC di (b4 _)) ?_;refine o.v1 (aT B.N fj ef (dg _)) ?_;refine o.nil (bV _ ?_);refine aW r6 (ny s t F C bk w0 _ aL (aX.mono (by omega)) (al ()) (V.mono (by omega)) A (aF.mono (by omega)) ok ae) (fun cc cd bC=>?_);obtain⟨rfl,ac⟩:=bC;replace i:=i.M ac;replace aL:=aL.M ac;replace j:=j.M ac;replace d:=d.M ac;replace al:=fun u=>(al u).M ac;replace A:=A.M ac;replace B:=B.M ac;replace q:=q.bc ac;have bT:=ac.size;refine o.ak ?_;refine bA (G.L (fun bD=>?_));refine o.V ?_;refine o.v1 cU (o.nil (bD ?_));refine aU (fun ai=>?_) (fun ai=>?_)
 ·
  have an:=do_1 (D:=D) (n:=n) (br:=br) ai;refine G.L (fun bE=>?_);refine o.aQ 2 ?_;refine bE ?_;refine G.ret (bz .ret nofun _ _ (aK ?_));exact⟨K,g,s,F,by rw[an],(by rw[an];exact i),ak,(by rw[an];exact j),dl,d,aH,al,(V.mono (by omega)),(aN),(ir),(c8),by rw[an],q⟩
 ·
  have ab:eI s.m t=0:=by simpa using ai
  have b0:=si ae ab;refine G.skip (bx _ _ (G.L (fun bF=>?_)));refine o.v1 (aT B.N fj ef (dg _)) ?_;refine aW vs (wb t C w0 _ A (aF.mono (by omega)) b0) (fun be cg bG=>?_);obtain⟨b2,a8,rfl,aM,a7,ad⟩:=bG;have bI:ah a8 K:=ah.oy (ah.kb) i.aB a7;have bc:af (aY+1) a8:=af.app (af.z) j.lt a7;replace i:=i.M ad;replace aL:=aL.M ad;replace j:=j.M ad;replace d:=d.M ad;replace al:=fun u=>(al u).M ad;replace A:=A.M ad;replace B:=B.M ad;replace q:=q.bc ad;have cj:=ad.size;have b9:=aM.le;refine o.V ?_;refine o.v1 cO ?_;refine o.v1 cO ?_;refine o.aQ 2 ?_;refine bF (G.t2 (fun a0 a2=>G.L (fun a3=>?_)));refine o.ax 2 ?_;refine o.v1 (Y.ai d.N rfl pr rfl GP) ?_;refine o.v1 (ar d.N hj) ?_;refine o.V ?_;refine aW BP (H0 bk K g b D aY fg n br b2 (fl t) _ cb w0 _ i aL (aX.mono (by omega)) (dk) j (dl) (bP) aM.rd (bh.of aM.le) (az.of (bI)) (ay.of (bc.symm)) bX (by decide) bR bU bZ) (fun bi Q a4=>?_);have bd:=d.lt;obtain⟨R,aP,rfl,i,aB,j,a1,M⟩:=a4;have aD:ah (x+1) R:=ah.hk (aH) bd aB;have bf:=az.hk (aN) (V.mono q.size) aB;have aQ:aZ K I.size R:=aZ.L (ak) aB q.size;replace d:=d.ab M (ah.app aH (ah.J a6.symm));replace al:=fun u=>(al u).ab M (az.app aN (az.J ir));replace A:=A.ab M (az.app b3 (az.J b5));replace B:=B.ab M (ah.app bu (ah.J bw.symm));replace q:=q.aJ M (ag.app (ag.cH (ak) (by intro k aJ;simp[aJ])) (ag.J (aq.r bJ)));have ck:=M.size;have aA:=i.aB;refine o.ak ?_;refine a3 (G.L (fun a5=>?_));refine o.V ?_;refine o.v1 cU (o.nil (a5 ?_));refine aU (fun ba=>?_) (fun ba=>?_)
  ·
   have an:=CV (D:=D) (n:=n) (br:=br) ab (by omega);refine G.L (fun bg=>?_);refine o.aQ 2 ?_;refine bg ?_;refine G.ret (a2 (aK ?_));exact⟨R,aP,s,F,by rw[an],(by rw[an];exact i),aQ,(by rw[an];exact j),a1,d,aD,al,(V.mono (by omega)),(bf),(ir),(c8),by rw[an],q⟩
  ·
   have an:=vT (D:=D) (n:=n) (br:=br) ab (by omega);refine G.skip (a0 (G.t1 (fun bj=>?_)));refine dx (fun Z=>aj Q Z) [7,8,9] ?_;have H:=aj.refl Q;refine O.V 0 rfl H ?_;refine O.V 1 rfl H ?_;refine O.bH 2 rfl H ?_;refine O.t1 3 rfl (fun Z X=>Y.ai (d.N.M X) rfl pr rfl di) H ?_;refine O.t1 4 rfl (fun Z X=>aT ((d.N.drop 1).M X) eC di (b4 _)) H ?_;refine O.t1 5 rfl (fun Z X=>aT (B.N.M X) fj ef (dg _)) H ?_;refine O.aX 6 ?_;refine cf r7 (rP s t F C w0 _ (al ()) (V.mono (by omega)) A (aF.mono (by omega)) ok ab ae) (fun cl aa bb=>?_);obtain⟨a_,rfl,P,bY,N⟩:=bb;replace i:=i.M N;replace j:=j.M N;replace d:=d.M N;replace q:=q.bc N;have cm:=N.size;replace P:=P.bw;have ap:=P.bY;have bl:az (fun b=>Q.size≤b∧b<aa.size) R:=az.iy (fun b h=>h.1) (by first|exact aA|exact fun k aJ=>Nat.le_trans (aA k aJ) (by omega)|assumption);have bm:ay (fun b=>Q.size≤b∧b<aa.size) (aY+1):=ay.iy (fun b h=>h.1) (by first|exact cu|exact bL|omega);have aS:ay (fun b=>Q.size≤b∧b<aa.size) (x+1):=ay.iy (fun b h=>h.1) (by first|exact ct|exact au|omega);have bN:=H.L N;refine O.cc bN ?_;have bO:=aj.refl aa;refine O.aX 7 ?_;refine hg rfl (Y.nilCheck rfl rfl) (.inl rfl) ?_;refine O.aX 8 ?_;refine hg rfl (Y.ai d.N rfl pr rfl di) (.inl rfl) ?_;refine O.aX 9 ?_;refine gL rfl (S.var d (_) ((ptr aY::bS a_)) rfl rfl rfl rfl ((jT _)) di (b4 _) (by rw[AM];exact Nat.le_of_ble_eq_true rfl) ((AN _ _ _))) (fun b8 bo=>?_);obtain⟨d,E⟩:=bo;replace E:=E.bs;replace i:=i.ab E (ez.cons aD ez.nil);replace j:=j.ab E (ah.J a6);replace P:=P.ab E (az.J aS);replace q:=q.aJ E (ag.J (aq.r bK));have cn:=E.size;refine⟨.inl rfl,?_⟩;refine cx ?_;have cv:=bO;refine bj (G.L (fun bq=>?_));refine o.ak ?_;refine bq ?_;refine G.ret (aK ?_);exact⟨R,aP,a_,_,by rw[an],(by rw[an];exact i),aQ,(by rw[an];exact j),a1,d,aD,(fun _=>P),(ap.mono (by omega)),(bl),(bm),(aS),by rw[an];exact bY,q⟩
theorem Ho(aY t:Nat)(s:cW)(F:Nat→Prop)(w0:World)(I:Heap)
 (k:Var 108 I t (ptr aY::bS s)) (al:eS F I s) (P:bh F I.size) (ok:s.m.Ok):
 aC Tryz.prog w0 17 #[ptr t] I (fun r n=>∃s2:cW,r=eg s2∧(eS (fun b=>I.size≤b) n s2)∧(s2.m=s.m)∧aj I n):=by
 refine aC.enter (args:=[ptr t]) Tryz.func17 rfl rfl rfl ?_;intro V R;have d:aj I I:=W.refl _ _;have X:=k.lt;refine G.L (fun L=>?_);refine o.aO (cV kC) ?_;rintro v2 n ⟨rfl,j,ac,ap,M⟩;have aa:n.size=I.size+1:=by rw[M];simp
 have N:T 0 I.size (I.size+1):=T.new d.size;replace k:=k.M ac;replace al:=al.M ac;replace d:=d.L ac;have ae:=ac.size;refine o.nil (L (G.L (fun O=>?_)));refine o.ax 2 ?_;refine o.v1 (Y.ai k.N rfl pr rfl di) ?_;refine o.v1 (aT (k.N.drop 1) eC di (b4 _)) ?_;refine aW vt (zq s F w0 _ al (P.mono (by omega)) ok) ?_;rintro aF S ⟨H,C,aR,rfl,x,q,B,aA,A,aB,Q,ad⟩;have au:af (I.size+1) C:=af.app (af.z) j.lt B;have am:T 0 I.size C:=T.L (T.refl 0 _) B d.size;replace j:=j.M ad;replace d:=d.L ad;have ai:=ad.size;have Z:=q.le;have ak:ay _ (I.size+1):=ay.iy A (by first|exact aD|exact aE|omega);refine o.s1 (dM j (_) (bS H) (jT _) di (b4 _) ((c9 (b4 _).symm))) fun ab K=>?_;obtain⟨j,i⟩:=K;replace i:=i.bs;replace q:=q.ab i (ah.J au.symm);replace x:=x.ab i (az.J ak);replace d:=d.bo i (ag.J (aq.q N));have ar:=i.size;refine o.nil (O ?_);refine G.ret (R .ret (.inr rfl) _ _ _ (j6 rfl rfl j.N eC di (b4 _)) ?_);exact⟨H,rfl,(js.st (x.imp (fun b _ e=>by have E:=A b e;omega)) (q.rd.imp (fun b _ e=>by have E:=(am);unfold T at E;omega))),Q,d⟩
end og

namespace pH
open E Go.RowKit eM eP e1 e7 ev eQ eR fC fD fI fS ga gz gq og hG lK mq ng oh ke mr ni pF pG rD mu rE dz
def o5(b8:dR)(on:List Bool)(t:b1):b1:={t with ml:=jj b8 on t.ml}
theorem sf:∀{a b:List bA},a.map (fun x=>(x.k,x.d))=b.map (fun x=>(x.k,x.d))→ie a=ie b∧(∀l,gB l a=gB l b)∧hn a=hn b∧(a=[]↔b=[])
 |[],[],_=>⟨rfl,fun _=>rfl,rfl,Iff.rfl⟩
 |x::a,[],h=>by cases h
 |[],y::b,h=>by cases h
 |x::a,y::b,h=>by
  simp only[List.map_cons,List.cons.injEq,Prod.mk.injEq]at h;obtain⟨i,U,d,_⟩:=sf h.2;have e:gE x=gE y:=by unfold gE;rw[h.1.1,h.1.2]
  refine⟨by rw[ie,ie,e,i],fun l=>?_,?_,by simp⟩
  ·show gB (d_ l x.k.1 x.d) a=gB (d_ l y.k.1 y.d) b
   rw[h.1.1,h.1.2];exact U _
  ·unfold hn at d⊢
   simp only[List.map_cons,List.sum_cons,h.1.2,d]
theorem yk{a b:cZ}(h:a.p=b.p):gJ a=gJ b∧a.k=b.k∧a.br=b.br∧a.a6=b.a6:=
 ⟨(congrArg gJ h:gJ a.p=gJ b.p),(congrArg (·.k) h:a.p.k=b.p.k),(congrArg (·.br) h:a.p.br=b.p.br),(congrArg (·.a6) h:a.p.a6=b.p.a6)⟩
theorem Cv{a b:b1}(h:kF a b)(m:eA):eI m a=eI m b:=by
 obtain⟨j,U,k,n,o,q⟩:=h;obtain⟨aK,d,_,i⟩:=sf q;obtain⟨r,t,_,_⟩:=yk o;unfold eI eF fw gl ig;rw[j,U,k,n,aK,d,r,t];simp only[i]
theorem qh{a b:b1}(h:kF a b)(j:iw a):iw b:=by
 obtain⟨t,U,n,x,o,i⟩:=h;obtain⟨_,_,k,_⟩:=sf i;obtain⟨_,_,q,r⟩:=yk o;have d:=congrArg List.length i;simp only[List.length_map]at d;unfold iw mW at j⊢;rw[←U,←q,←n,←k,←d,←r];exact j
theorem kF.symm{a b:b1}(h:kF a b):kF b a:=⟨h.1.symm,h.2.1.symm,h.2.2.1.symm,h.2.2.2.1.symm,h.2.2.2.2.1.symm,h.2.2.2.2.2.symm⟩
theorem Ft(b8:dR)(on:List Bool)(i:Nat)(m:bF):(kW b8 on i m).n=m.n∧(kW b8 on i m).y=m.y∧(kW b8 on i m).w=m.w:=by unfold kW;split<;>exact⟨rfl,rfl,rfl⟩
theorem Ff(b8:dR)(on:List Bool)(ml:List bF):gH (jj b8 on ml)=gH ml:=by
 unfold gH jj;congr 1;refine List.ext_getElem (by simp) (fun i j U=>?_);simp only[List.getElem_map,List.getElem_mapIdx];obtain⟨aK,d,_⟩:=Ft b8 on i (ml[i]'(by simpa using U));rw[aK,d]
theorem sn{t:b1}(b8:dR)(on:List Bool)(h:iw t):iw (o5 b8 on t):=by
 unfold iw mW o5 at*;rw[Ff]
 simpa[jj]using h
end pH
end Go.Proofs.YtfjmpninmdjcaaaGreatDoor
