/-
  Contracts of functions of the program, and plain laws: put together of several texts.
-/
import Derived.Test.YtfjmpninmdjcaaaGreatDoorGd
import Derived.Test.YtfjmpninmdjcaaaGreatDoorGa
import Derived.Test.YtfjmpninmdjcaaaGreatDoorGb
import Derived.Test.YtfjmpninmdjcaaaGreatDoorRows
import Derived.Test.YtfjmpninmdjcaaaGreatDoorGc
import Derived.Shelf.Vars
set_option linter.unusedVariables false
set_option linter.unusedSimpArgs false
set_option linter.unusedSectionVars false
set_option linter.defProp false
set_option maxHeartbeats 8000000
set_option maxRecDepth 20000
namespace Go.Proofs.YtfjmpninmdjcaaaGreatDoor

namespace pF
open E Go.RowKit eJ eN eW e3 ey eX eY fF fG fO fY gg gx gy hQ lH mo nd oe kF dz
set_option maxRecDepth 100000 in
theorem oQ:c6 Tryz.prog 69 9 1 16:=⟨Tryz.underlying69,_,_,rfl,rfl,rfl,rfl,rfl⟩
theorem Dq{ul:List cw}{m:bF}(av:c8 m.n=0)(d:m.J=bz)(hw:¬m.w=bz):iH m.n ((ul.map (·.n)).filter (fun x=>decide (x≠m.n)))=if hI (bN ul) m=true then 13 else 0:=by
 rw[wz av (fun h=>by have:=(List.mem_filter.1 h).2;simp at this)];unfold hI;rw[decide_eq_true (show m.J=bz∧m.w≠bz from⟨d,hw⟩),Bool.true_and,List.any_filter,show(bN ul).map (·.1)=ul.map (·.n)by simp[bN]]
theorem qI{l:dP}{ml:List bF}{j:Nat}{e:Int}(n:j<ml.length)(k:∀q (h:q<j),∀U:q<ml.length,gQ l (ml.take q) ml[q]=0)(he:gQ l (ml.take j) ml[j]=e)(aA:e≠0):ft l ml=e:=by
 have d:=sP (ml:=ml) (l:=l) (pre:=[]) (j:=j) n (fun i h=>by rw[List.nil_append];exact k i h (by omega)) (by rw[List.nil_append,he];exact aA);rw[List.nil_append,he]at d;rw[ft,if_pos (by rw[d];exact aA),d]
theorem xA(l:dP)(m:bF):(dK l m).length≤l.length+1:=by
 unfold dK;split
 ·have:(d_ l m.n).length≤l.length:=List.length_filter_le _ _
  omega
 ·exact wJ _ _ _
theorem kY(l:List cw):(bN l).length=l.length:=List.length_map ..
theorem DN{ml:List bF}{n:aH}{j k:Nat}(d:k<j)(i:k<ml.length)(h:ml[k].n=n):n∈(ml.take j).map (·.n):=
 List.mem_map.2 ⟨ml[k],List.mem_take_iff_getElem.2 ⟨k,by omega,rfl⟩,h⟩
theorem sX{ml:List bF}{n:aH}{j:Nat}(h:∀q,q<j→∀U:q<ml.length,¬ml[q].n=n):n∉(ml.take j).map (·.n):=by
 intro hm;obtain⟨x,d,e⟩:=List.mem_map.1 hm;obtain⟨q,i,rfl⟩:=List.mem_take_iff_getElem.1 d;exact h q (by omega) (by omega) e
set_option maxHeartbeats 1600000 in
theorem GA(s:c2)(t:b0)(w0:World)(I:Heap)
 (C:bw I du 33 s.ej.v s.bb) (c9:dc (bN s.bb)) (gJ:s.bb.length≤200) (fo:∀x∈(bN s.bb),x.1.length≤60) (hm:bw I dt 66 t.eL.v t.ml) (gF:t.ml.length≤65535) (cj:∀m∈t.ml,m.n.length≤140737488355328):
 aC Tryz.prog w0 41 #[ed s,eg t] I (fun r M=>r= .int .i64 (ft (bN s.bb) t.ml)∧ak I M):=by
 refine aC.aK [ed s,eg t] Tryz.func41 ?_;intro fz aE;have n:ak I I:=V.refl _ _;replace C:=C.bt;have cu:=C.bY;replace hm:=hm.bt;have cv:=hm.bY;refine G.L (fun eu=>?_);refine o.aO cr ?_;rintro v2 M ⟨rfl,F,a2,fP,ev⟩;have fI:M.size=I.size+1:=by rw[ev];simp
 replace C:=C.M a2;replace hm:=hm.M a2;replace n:=n.L a2;have fQ:=a2.size;replace F:Var 47 M I.size (bS s):=F;refine o.aO cr ?_;rintro v3 bc ⟨rfl,A,aR,fS,ew⟩;have fJ:bc.size=M.size+1:=by rw[ew];simp
 replace C:=C.M aR;replace hm:=hm.M aR;replace F:=F.M aR;replace n:=n.L aR;have fT:=aR.size;replace A:Var 32 bc M.size (df t):=A;refine o.aj ?_;refine eu (G.t2 (fun ey a3=>G.L (fun eA=>?_)));refine o.aj ?_;refine eA (G.aB (fun _ eB a4=>?_))
 refine G.bd (fun(j:(Nat))=>[(2,.pointer (some ⟨I.size,0,none⟩)),(3,.pointer (some ⟨M.size,0,none⟩)),(5,.int .i64 (j:Int))])
  (fun(j:(Nat)) (H:Heap)=>(j≤t.ml.length)∧(∀q (h:q<j),∀U:q<t.ml.length,gQ (bN s.bb) (t.ml.take q) t.ml[q]=0)∧ak bc H)
  (fun(j:(Nat))=>t.ml.length-j) 0 ⟨rfl,rfl,rfl,trivial⟩ ?_ ?_
 ·
  exact⟨(by omega),(fun q h=>absurd h (Nat.not_lt_zero _)),V.refl _ _⟩
 intro j X eC fy eD aS;obtain⟨gC,aN,E⟩:=eC;replace C:=C.M E;replace hm:=hm.M E;replace F:=F.M E;replace A:=A.M E;replace n:=n.L E;have fU:=E.size;refine G.t2 (fun eF eG=>G.L (fun eH=>?_));refine o.W ?_;refine o.v1 (Y.ai A.N rfl bx rfl ek) ?_;refine o.v1 (ar (A.N.drop 2) ez) ?_;refine o.v1 (ba hm dG) ?_;refine o.v1 bG (o.nil (eH ?_));refine aT (fun eI=>?_) (fun eI=>?_)
 ·
  refine G.skip (eF (G.t2 (fun eJ a5=>G.aB (fun eK _ bd=>G.L (fun cq=>?_)))));refine o.v1 (Y.ai A.N rfl bx rfl ek) ?_;refine o.v1 (ar (A.N.drop 2) ez) ?_;refine o.W ?_;have P:j<t.ml.length:=by omega
  obtain⟨y,L⟩:∃q,q=t.ml[j]:=⟨_,rfl⟩;have a6:y∈t.ml:=by rw[L];exact List.getElem_mem P
  have gK:=cj y a6;refine o.bR (Y.bJ hm (j) rfl dG dM rfl rfl) fun fK a9=>?_;refine o.v1 (Y.cast (v2:= .agg (dt y).toArray) (aW a9.N iE dM (e0 _)) (by rw[L])) ?_;refine o.aO (cQ mi) ?_;rintro v6 cp ⟨rfl,B,aA,fV,ei⟩;have fB:cp.size=X.size+1:=by rw[ei];simp
  have ej:=(ay.new (cu.mono n.size):ay _ (X.size+1));have dE:=(ay.new (cv.mono n.size):ay _ (X.size+1));have cG:af (I.size+1) (X.size+1):=af.new F.lt;have dL:af (M.size+1) (X.size+1):=af.new A.lt;have dN:T 0 I.size (X.size+1):=T.new n.size;have dP:T 0 bc.size (X.size+1):=T.new E.size;replace C:=C.M aA;replace hm:=hm.M aA;replace F:=F.M aA;replace A:=A.M aA;replace n:=n.L aA;replace E:=E.L aA;have fW:=aA.size;refine o.s1 (dy B (_) (dt y) (kO y) dM (e0 _) ((c0 (e0 _).symm))) fun fC bT=>?_;obtain⟨B,ac⟩:=bT;replace ac:=ac.bp;replace C:=C.ab ac (az.J ej);replace hm:=hm.ab ac (az.J dE);replace F:=F.ab ac (ah.J cG);replace A:=A.ab ac (ah.J dL);replace n:=n.bl ac (ag.J (aq.q dN));replace E:=E.bl ac (ag.J (aq.q dP));have fX:=ac.size;refine o.nil (cq (G.t2 (fun be dR=>G.L (fun dS=>?_))));refine o.v1 (Y.ai B.N rfl cy rfl bO) ?_;refine o.v1 (ar B.N bL) ?_;refine aV pW (qS y.n w0 _ (by omega)) (fun fY en eo=>?_);obtain⟨rfl,aa⟩:=eo;replace C:=C.M aa;replace hm:=hm.M aa;replace F:=F.M aa;replace A:=A.M aa;replace B:=B.M aa;replace n:=n.L aa;replace E:=E.L aa;have fZ:=aa.size;refine o.v1 c1 (o.nil (dS ?_));refine aT (fun aK=>?_) (fun aK=>?_)
  ·
   refine G.L (fun bi=>?_);refine o.aj ?_;refine bi ?_;refine G.ret (dR (bd (a5 (aS (a4 (a3 (aE ?_)))))));exact⟨by rw[qI (e:=7) P aN (by rw[←L];unfold gQ;rw[if_pos aK]) (by decide)],n⟩
  ·
   refine G.skip (be (G.t2 (fun dT aB=>G.L (fun dU=>?_))));refine o.aj ?_;refine dU (G.aB (fun _ dV dW=>?_))
   refine G.bd (fun(k:(Nat))=>[(2,.pointer (some ⟨I.size,0,none⟩)),(3,.pointer (some ⟨M.size,0,none⟩)),(5,.int .i64 (j:Int)),(6,.pointer (some ⟨X.size,0,none⟩)),(7,.int .i64 (k:Int))])
    (fun(k:(Nat)) (H:Heap)=>(k≤j)∧(∀q,q<k→∀U:q<t.ml.length,¬t.ml[q].n=y.n)∧ak en H)
    (fun(k:(Nat))=>j-k) 0 ⟨rfl,rfl,rfl,rfl,rfl,trivial⟩ ?_ ?_
   ·
    exact⟨(by omega),(fun q h=>absurd h (Nat.not_lt_zero _)),V.refl _ _⟩
   intro k b7 cE f_ dY bM;obtain⟨fl,a7,W⟩:=cE;replace C:=C.M W;replace hm:=hm.M W;replace F:=F.M W;replace A:=A.M W;replace B:=B.M W;replace n:=n.L W;replace E:=E.L W;have ga:=W.size;refine G.t2 (fun dZ d_=>G.L (fun br=>?_));refine o.ax 2 ?_;refine o.v1 bG (o.nil (br ?_));refine aT (fun ep=>?_) (fun ep=>?_)
   ·
    refine G.skip (dZ (G.t2 (fun ea eb=>G.aB (fun ec _ bv=>G.t1 (fun ef=>?_)))));refine hf ?_;refine o.v1 (Y.ai A.N rfl bx rfl ek) ?_;refine o.v1 (ar (A.N.drop 2) ez) ?_;refine o.W ?_;have bl:k<t.ml.length:=by omega
    obtain⟨z,ab⟩:∃q,q=t.ml[k]:=⟨_,rfl⟩;refine o.bR (Y.bJ hm (k) rfl dG dM rfl rfl) fun fD bP=>?_;refine o.v1 (Y.ai bP.N rfl cy rfl bO) ?_;refine o.v1 (Y.cast (v2:=aI z.n) (ar (bP.N.drop 0) bL) (by rw[ab])) ?_;refine o.v1 (Y.ai B.N rfl cy rfl bO) ?_;refine o.v1 (ar B.N bL) ?_;refine o.v1 (Y.jB rfl rfl rfl) (o.nil (ef ?_));refine aT (fun bF=>?_) (fun bF=>?_)
    ·
     refine G.L (fun eh=>?_);refine o.aj ?_;refine eh ?_;refine G.ret (bv (eb (bM (dW (aB (bd (a5 (aS (a4 (a3 (aE ?_)))))))))));exact⟨by rw[qI (e:=18) P aN (by rw[←L];unfold gQ;rw[if_neg aK,if_pos (DN (k:=k) (by omega) bl (by rw[←ab];exact bF))]) (by decide)],n⟩
    ·
     refine G.skip (ec (ea (G.region ?_)));refine o.W ?_;refine o.v1 bD ?_;refine o.aj ?_;refine aP.sub (dY (k+1) _ ?_ ?_) ⟨rfl,rfl,(aD (by omega)),rfl,(aD (by omega)),trivial⟩
     ·exact⟨(by omega),(fun q h U=>by rcases Nat.lt_succ_iff_lt_or_eq.1 h with Z|rfl;exact a7 q Z U;rw[←ab];exact bF),W⟩
     ·first|omega|(simp only;omega)|(simp;omega)
   ·
    have fm:k=j:=by omega
    rw[fm]at a7;refine G.exit (d_ (bM (dV ?_)));refine dT (G.t2 (fun cZ c3=>G.t1 (fun c5=>?_)));refine dC (fun aj=>ak b7 aj) [] ?_;have aO:=ak.refl b7;refine O.t1 0 rfl (fun aj R=>aW (F.N.M R) fg dx (b8 _)) aO ?_;refine O.t1 1 rfl (fun aj R=>Y.ai (B.N.M R) rfl cy rfl bO) aO ?_;refine O.t1 2 rfl (fun aj R=>ar (B.N.M R) bL) aO ?_;refine O.t1 4 rfl (fun aj R=>Y.ai (B.N.M R) rfl cy rfl a_) aO ?_;refine O.t1 5 rfl (fun aj R=>Y.cast (v2:=bs y.J) (aW (((B.N.drop 1).M R).take 32) b_ a_ (by rw[gY];exact bB _)) (b6 (gY _))) aO ?_;refine O.aY 3 ?_;refine ch vc (uB s y.n w0 _ C.any) (fun gf et eL=>?_);obtain⟨rfl,aZ⟩:=eL;replace B:=B.M aZ;replace n:=n.L aZ;replace E:=E.L aZ;have gg:=aZ.size;have cz:=aO.L aZ;refine O.cn cz ?_;have b3:=ak.refl et;refine O.t1 6 rfl (fun aj R=>Y.jN rfl Tryz.eqGuardType26 (fun w=>fR 9998 Tryz.underlying26 Tryz.underlying5 cL dQ ((hG (bN s.bb) y.n).2) (y.J.2) w) rfl rfl) b3 ?_;refine cD ?_;have gH:=b3;refine c5 ?_;refine aT (fun bh=>?_) (fun bh=>?_)
    ·
     refine G.L (fun c6=>?_);refine o.aj ?_;refine c6 ?_;refine G.ret (c3 (bd (a5 (aS (a4 (a3 (aE ?_)))))));exact⟨by rw[qI (e:=21) P aN (by rw[←L];unfold gQ;rw[if_neg aK,if_neg (sX a7),if_pos (fun e=>bh (congrArg Subtype.val e))]) (by decide)],n⟩
    ·
     refine G.skip (cZ (G.L (fun c_=>?_)));refine o.v1 (Y.ai B.N rfl cy rfl a_) ?_;refine o.v1 (Y.cast (v2:=bs y.w) (aW ((B.N.drop 33).take 32) b_ a_ (by rw[e1];exact bB _)) (b6 (e1 _))) ?_;refine o.v1 (Y.ai B.N rfl cy rfl a_) ?_;refine o.v1 (Y.cast (v2:=bs y.J) (aW ((B.N.drop 1).take 32) b_ a_ (by rw[gY];exact bB _)) (b6 (gY _))) ?_;refine o.v1 (Y.h_ rfl Tryz.eqGuardType26 (fun w=>fR 9998 Tryz.underlying26 Tryz.underlying5 cL dQ (y.w.2) (y.J.2) w) rfl rfl) (o.nil (c_ ?_));refine aT (fun bE=>?_) (fun bE=>?_)
     ·
      refine G.L (fun da=>?_);refine o.aj ?_;refine da ?_;refine G.ret (bd (a5 (aS (a4 (a3 (aE ?_))))));exact⟨by rw[qI (e:=26) P aN (by rw[←L];unfold gQ;rw[if_neg aK,if_neg (sX a7),if_neg (fun e=>e (Subtype.ext (Classical.not_not.1 bh))),if_pos (Subtype.ext bE)]) (by decide)],n⟩
     ·
      refine G.skip (eK (eJ (G.region ?_)));refine o.W ?_;refine o.v1 bD ?_;refine o.aj ?_;refine aP.sub (eD (j+1) _ ?_ ?_) ⟨rfl,rfl,(aD (by omega)),trivial⟩
      ·exact⟨(by omega),(fun q h U=>by rcases Nat.lt_or_ge q j with Z|Z;exact aN q Z U;obtain rfl:q=j:=(by omega);rw[←L];unfold gQ;rw[if_neg aK,if_neg (sX a7),if_neg (fun e=>e (Subtype.ext (Classical.not_not.1 bh))),if_neg (fun e=>bE (congrArg Subtype.val e))]),E⟩
      ·first|omega|(simp only;omega)|(simp;omega)
 ·
  obtain rfl:j=t.ml.length:=by omega
  have bb:h0 (bN s.bb) [] t.ml=0:=sQ (fun i cf=>by rw[List.nil_append];exact aN i cf cf);have fq:=zn fo bb;refine G.exit (eG (aS (eB ?_)));refine ey (G.L (fun db=>?_));refine o.v1 (Y.ai F.N rfl ca rfl hb) ?_;refine o.v1 (ar (F.N.drop 1) iw) ?_;refine o.aj ?_;refine db (G.t1 (fun de=>G.L (fun dg=>?_)));refine o.aj ?_;refine dg (G.aB (fun _ dh _=>?_))
  refine G.bd (fun(bH:(Nat)×(aM)×(List cw)×(Nat→Prop))=>match bH with|(i2,aJ,ul,aQ)=>[(3,.pointer (some ⟨M.size,0,none⟩)),(8,aJ.v),(9,.int .i64 (i2:Int))])
   (fun(i2,aJ,ul,aQ) (H:Heap)=>(i2≤t.ml.length)∧(∀u:Unit,Rd aQ H du 33 aJ.v ul)∧(bg aQ H.size)∧(bN ul=(t.ml.take i2).foldl dK (bN s.bb))∧(ul.length≤200+i2)∧ak X H)
   (fun(i2,aJ,ul,aQ)=>t.ml.length-i2) (0,s.ej,s.bb,fun b=>True∧b<I.size) ⟨rfl,rfl,rfl,trivial⟩ ?_ ?_
  ·
   exact⟨(by omega),(fun _=>C),(fun b e=>Nat.lt_of_lt_of_le e.2 n.size),rfl,(by omega),V.refl _ _⟩
  rintro⟨i2,aJ,ul,aQ⟩ b9 e_ gh di dj;obtain⟨gA,hu,cB,ai,gE,an⟩:=e_;replace hm:=hm.M an;replace A:=A.M an;replace n:=n.L an;have cb:=an.size;refine G.t2 (fun dk dm=>G.L (fun dp=>?_));refine o.W ?_;refine o.v1 (Y.ai A.N rfl bx rfl ek) ?_;refine o.v1 (ar (A.N.drop 2) ez) ?_;refine o.v1 (ba hm dG) ?_;refine o.v1 bG (o.nil (dp ?_));refine aT (fun bf=>?_) (fun bf=>?_)
  ·
   refine G.skip (dk (G.t1 (fun dq=>G.aB (fun dr _ _=>G.region ?_))));refine o.W ?_;refine o.v1 (Y.ai A.N rfl bx rfl ek) ?_;refine o.v1 (ar (A.N.drop 2) ez) ?_;refine o.W ?_;have P:i2<t.ml.length:=by omega
   obtain⟨y,L⟩:∃q,q=t.ml[i2]:=⟨_,rfl⟩;refine o.bR (Y.bJ hm (i2) rfl dG dM rfl rfl) fun ee dv=>?_;refine o.v1 (Y.cast (v2:= .agg (dt y).toArray) (aW dv.N iE dM (e0 _)) (by rw[L])) ?_;refine aV vp (xw _ ul y w0 _ (hu ()).any (by omega)) (fun gi gj dd=>?_);obtain⟨fa,gO,rfl,bA,gn,bQ⟩:=dd;replace an:=an.L bQ;have gp:=bQ.size;have fA:=bA.le;have cl:bN (kv y ul)=(t.ml.take (i2+1)).foldl dK (bN s.bb):=by rw[kq P,←L,←ai];exact xy y ul (by rw[ai];exact kr c9)
   refine o.aj ?_;refine dr (dq (G.region ?_));refine o.W ?_;refine o.v1 bD ?_;refine o.aj ?_;refine aP.sub (di (i2+1,fa,kv y ul,fun b=>b+1=gO) _ ?_ ?_) ⟨rfl,rfl,(aD (by omega)),trivial⟩
   ·exact⟨(by omega),(fun _=>bA.rd),(bg.of bA.le),cl,(by rw[←kY,cl,kq P];refine Nat.le_trans (xA _ _) ?_;rw[←ai,kY];omega),an⟩
   ·first|omega|(simp only;omega)|(simp;omega)
  ·
   obtain rfl:i2=t.ml.length:=by omega
   rw[List.take_length]at ai;refine G.exit (dm (dj (dh ?_)));refine de (G.t2 (fun dw dz=>G.L (fun dB=>?_)));refine o.W ?_;refine o.v1 (ba (hu ()) gI) ?_;refine o.v1 eT (o.nil (dB ?_));refine aT (fun fc=>?_) (fun fc=>?_)
   ·
    refine G.L (fun dD=>?_);refine o.aj ?_;refine dD ?_;refine G.ret (dz (aE ?_));exact⟨by rw[ft,if_neg (by rw[bb];decide),if_pos (by rw[←ai,kY];omega)],n⟩
   ·
    have cc:¬200<(t.ml.foldl dK (bN s.bb)).length:=by rw[←ai,kY];omega
    refine G.skip (dw (G.t2 (fun dF dH=>G.L (fun dI=>?_))));refine o.aj ?_;refine dI (G.aB (fun _ cI cK=>?_))
    refine G.bd (fun(i3:(Nat))=>[(3,.pointer (some ⟨M.size,0,none⟩)),(8,aJ.v),(10,.int .i64 (i3:Int))])
     (fun(i3:(Nat)) (H:Heap)=>(i3≤t.ml.length)∧(∀m∈t.ml.take i3,hI (t.ml.foldl dK (bN s.bb)) m=false)∧ak b9 H)
     (fun(i3:(Nat))=>t.ml.length-i3) 0 ⟨rfl,rfl,rfl,trivial⟩ ?_ ?_
    ·
     exact⟨(by omega),(fun m h=>by simp at h),V.refl _ _⟩
    intro i3 aX fe gk bR bU;obtain⟨gB,Z,K⟩:=fe;replace hm:=hm.M K;replace A:=A.M K;replace hu:=fun u=>(hu u).M K;replace n:=n.L K;have gq:=K.size;refine G.t2 (fun cM cN=>G.L (fun cP=>?_));refine o.W ?_;refine o.v1 (Y.ai A.N rfl bx rfl ek) ?_;refine o.v1 (ar (A.N.drop 2) ez) ?_;refine o.v1 (ba hm dG) ?_;refine o.v1 bG (o.nil (cP ?_));refine aT (fun dl=>?_) (fun dl=>?_)
    ·
     refine G.skip (cM (G.t2 (fun bV cS=>G.aB (fun cT cV cW=>G.L (fun cY=>?_)))));refine o.v1 (Y.ai A.N rfl bx rfl ek) ?_;refine o.v1 (ar (A.N.drop 2) ez) ?_;refine o.W ?_;have P:i3<t.ml.length:=by omega
     obtain⟨y,L⟩:∃q,q=t.ml[i3]:=⟨_,rfl⟩;have a6:y∈t.ml:=by rw[L];exact List.getElem_mem P
     refine o.bR (Y.bJ hm (i3) rfl dG dM rfl rfl) fun cJ dJ=>?_;refine o.v1 (Y.cast (v2:= .agg (dt y).toArray) (aW dJ.N iE dM (e0 _)) (by rw[L])) ?_;refine o.aO (cQ mi) fun gl dn ff=>?_;obtain⟨rfl,Q,bk,gr,eM⟩:=ff;have fE:dn.size=aX.size+1:=by rw[eM];simp
     have eN:=(ay.new (cB.mono (by omega)):ay _ (aX.size+1));have eO:T 0 I.size (aX.size+1):=T.new n.size;have eR:T 0 b9.size (aX.size+1):=T.new K.size;replace hu:=fun u=>(hu u).M bk;replace n:=n.L bk;replace K:=K.L bk;have gb:=bk.size;refine o.s1 (dy Q (_) (dt y) (kO y) dM (e0 _) ((c0 (e0 _).symm))) fun au cC=>?_;obtain⟨Q,aL⟩:=cC;replace aL:=aL.bp;replace hu:=fun u=>(hu u).ab aL (az.J eN);replace n:=n.bl aL (ag.J (aq.q eO));replace K:=K.bl aL (ag.J (aq.q eR));have ds:=aL.size;refine o.nil (cY (G.t2 (fun ce eS=>G.L (fun eU=>?_))));refine o.v1 (Y.ai Q.N rfl cy rfl a_) ?_;refine o.v1 (Y.cast (v2:=bs y.J) (aW ((Q.N.drop 1).take 32) b_ a_ (by rw[gY];exact bB _)) (b6 (gY _))) ?_;refine o.v1 (Y.build (v:=bs bz) rfl rfl (by intro w;kernel_rfl)) ?_;refine o.v1 (Y.cast (v2:= .bool (decide (¬y.J=bz))) (Y.jN rfl Tryz.eqGuardType26 (fun w=>fR 9998 Tryz.underlying26 Tryz.underlying5 cL dQ (y.J.2) (bz.2) w) rfl rfl) ((congrArg Value.bool (decide_eq_decide.2 ⟨fun h e=>h (congrArg Subtype.val e),fun h e=>h (Subtype.ext e)⟩)))) ?_;refine o.W ?_;refine o.join (d:=96) (v:= .bool (decide (¬(y.J=bz∧y.w≠bz)))) 5 (fun bJ=>?_) ?_
     ·
      refine o.bj (d:=91) rfl (fun aY=>?_) (fun aY=>?_)
      ·
       refine o.ax 5 ?_;exact bJ _ (congrArg (fun b=>some (Value.bool b)) (by simp[aY])) (ae (ae (ae (ae (ae (bC (congrArg Value.bool (decide_eq_true aY).symm)))))))
      ·
       refine o.an (Y.ai Q.N rfl cy rfl a_) ?_;refine o.an (Y.cast (v2:=bs y.w) (aW ((Q.N.drop 33).take 32) b_ a_ (by rw[e1];exact bB _)) (b6 (e1 _))) ?_;refine o.an (Y.build (v:=bs bz) rfl rfl (by intro w;kernel_rfl)) ?_;refine o.an (Y.cast (v2:= .bool (decide (y.w=bz))) (Y.h_ rfl Tryz.eqGuardType26 (fun w=>fR 9998 Tryz.underlying26 Tryz.underlying5 cL dQ (y.w.2) (bz.2) w) rfl rfl) ((congrArg Value.bool (decide_eq_decide.2 ⟨fun e=>Subtype.ext e,fun e=>congrArg Subtype.val e⟩)))) ?_;refine o.dF ?_;exact bJ _ (congrArg (fun b=>some (Value.bool b)) (by simp[aY])) (ae (ae (ae (ae (ae (bC (congrArg Value.bool (decide_eq_false aY).symm)))))))
     refine o.nil (eU ?_);refine aT (fun dX=>?_) (fun dX=>?_)
     ·
      have bm:=dX;refine G.exit (eS (cV ?_));refine bV (G.region ?_);refine o.W ?_;refine o.v1 bD ?_;refine o.aj ?_;refine aP.sub (bR (i3+1) _ ?_ ?_) ⟨rfl,rfl,(aD (by omega)),trivial⟩
      ·exact⟨(by omega),mC Z P (by rw[←L];unfold hI;rw[decide_eq_false bm];rfl),K⟩
      ·first|omega|(simp only;omega)|(simp;omega)
     ·
      have bm:y.J=bz∧¬y.w=bz:=Classical.not_not.1 dX;refine G.skip (ce (G.L (fun ci=>?_)));refine o.aj ?_;refine ci (G.t1 (fun eV=>G.L (fun eW=>?_)));refine o.aj ?_;refine eW (G.aB (fun _ eX _=>?_))
      refine G.bd (fun(bH:(Nat)×(aM)×(Nat)×(List aH))=>match bH with|(k,so,aF,out)=>[(3,.pointer (some ⟨M.size,0,none⟩)),(8,aJ.v),(10,.int .i64 (i3:Int)),(11,.pointer (some ⟨aX.size,0,none⟩)),(12,so.v),(13,.int .i64 (k:Int))])
       (fun(k,so,aF,out) (H:Heap)=>(k≤ul.length)∧(aU aF 9 H gd 1 so.v out)∧(out=((ul.take k).map (·.n)).filter (fun x=>decide (x≠y.n)))∧(out.length≤k)∧(T 0 au.size aF)∧ak au H)
       (fun(k,so,aF,out)=>ul.length-k) (0,cO,0,[]) ⟨rfl,rfl,rfl,rfl,rfl,rfl,trivial⟩ ?_ ?_
      ·
       exact⟨(by omega),aU.nil mL nA,rfl,(by simp),T.refl _ _,V.refl _ _⟩
      rintro⟨k,so,aF,out⟩ fh fi gm bX eY;obtain⟨fl,S,a8,gG,cH,N⟩:=fi;replace hu:=fun u=>(hu u).M N;replace Q:=Q.M N;replace n:=n.L N;replace K:=K.L N;have gv:=N.size;have ct:=S.le;have bn:=cH;refine G.t2 (fun eZ co=>G.L (fun e2=>?_));refine o.ax 2 ?_;refine o.v1 (ba (hu ()) gI) ?_;refine o.v1 bG (o.nil (e2 ?_));refine aT (fun e3=>?_) (fun e3=>?_)
      ·
       refine G.skip (eZ (G.t1 (fun bY=>G.aB (fun bZ _ _=>G.t1 (fun e4=>?_)))));refine hf ?_;refine o.ax 2 ?_;have bl:k<ul.length:=by omega
       obtain⟨z,ab⟩:∃q,q=ul[k]:=⟨_,rfl⟩;refine o.bR (Y.bJ (hu ()) (k) rfl gI hL rfl rfl) fun fF b4=>?_;refine o.v1 (Y.ai b4.N rfl me rfl bO) ?_;refine o.v1 (Y.cast (v2:=aI z.n) (ar (b4.N.drop 0) bL) (by rw[ab])) ?_;refine o.v1 (Y.ai Q.N rfl cy rfl bO) ?_;refine o.v1 (ar Q.N bL) ?_;refine o.v1 (Y.iS rfl rfl rfl) (o.nil (e4 ?_));refine aT (fun bp=>?_) (fun bp=>?_)
       ·
        refine G.region ?_;refine o.ax 3 ?_;refine o.bR (Y.bJ (hu ()) (k) rfl gI hL rfl rfl) fun fG b5=>?_;refine o.v1 (Y.ai b5.N rfl me rfl bO) ?_;refine o.v1 (Y.cast (v2:=aI z.n) (ar (b5.N.drop 0) bL) (by rw[ab])) ?_;refine o.aO (cU _ ([z.n]) oQ mL nA (rfl)) fun gw b1 cs=>?_;obtain⟨fu,am,fH,a0⟩:=cs;have fL:b1.size=fh.size+1:=by rw[a0];simp
        replace S:=S.M am;replace N:=N.L am;have gx:=am.size;refine o.aO (dO S fu.rd oQ (by simp;omega) (by simp;omega)) fun b2 gy bo=>?_;obtain⟨bq,S,bu,bj⟩:=bo;replace bu:T aF b1.size bq:=bu;replace bj:=bj.md;have dA:T 0 au.size bq:=T.L (bn) bu N.size;replace N:=N.bl bj (ag.J (aq.q bn));have gz:=bj.size;have ct:=S.le;obtain⟨e5,rfl⟩:∃s:aM,b2=s.v:=⟨cg b2,S.bm.symm⟩;refine o.aj ?_;refine bZ (bY (G.region ?_));refine o.W ?_;refine o.v1 bD ?_;refine o.aj ?_;refine aP.sub (bX (k+1,e5,bq,out++[z.n]) _ ?_ ?_) ⟨rfl,rfl,(aD (by omega)),rfl,rfl,(aD (by omega)),trivial⟩
        ·exact⟨(by omega),S,by rw[List.take_succ_eq_append_getElem bl,List.map_append,List.filter_append,←a8];simp[←ab,bp],(by simp;omega),dA,N⟩
        ·first|omega|(simp only;omega)|(simp;omega)
       ·
        refine G.skip (bZ (bY (G.region ?_)));refine o.W ?_;refine o.v1 bD ?_;refine o.aj ?_;refine aP.sub (bX (k+1,so,aF,out) _ ?_ ?_) ⟨rfl,rfl,(aD (by omega)),rfl,rfl,(aD (by omega)),trivial⟩
        ·exact⟨(by omega),S,by rw[List.take_succ_eq_append_getElem bl,List.map_append,List.filter_append,←a8];simp[←ab,Classical.not_not.1 bp],(by omega),bn,N⟩
        ·first|omega|(simp only;omega)|(simp;omega)
      ·
       obtain rfl:k=ul.length:=by omega
       rw[List.take_length]at a8;have fr:=nR bb y a6;have cd:iH y.n out=if hI (t.ml.foldl dK (bN s.bb)) y=true then 13 else 0:=by rw[a8,←ai];exact Dq fr bm.1 bm.2
       have fp:∀x∈out,x.length≤140737488355328:=fun x cn=>by
        rw[a8]at cn;obtain⟨z9,cb,fj⟩:=List.mem_map.1 (List.mem_filter.1 cn).1;have fk:=fq (z9.n,z9.i) (by rw[←ai];exact List.mem_map.2 ⟨z9,cb,rfl⟩);rw[←fj];simp only at fk;omega
       refine G.exit (co (eY (eX ?_)));refine eV (G.L (fun e6=>?_));refine o.v1 (Y.ai Q.N rfl cy rfl bO) ?_;refine o.v1 (ar Q.N bL) ?_;refine o.W ?_;refine aV AU (Gw y.n _ out w0 _ S.rd.any (cj y a6) fp) (fun fM fN e7=>?_);obtain⟨rfl,ap⟩:=e7;replace n:=n.L ap;replace K:=K.L ap;have fO:=ap.size;refine o.v1 c1 (o.nil (e6 ?_));refine aT (fun bt=>?_) (fun bt=>?_)
       ·
        refine G.L (fun e8=>?_);refine o.aj ?_;refine e8 ?_;refine G.ret (cW (cS (bU (cK (dH (aE ?_))))));exact⟨by have a1:hI (t.ml.foldl dK (bN s.bb)) y=true:=(by cases a1:hI (t.ml.foldl dK (bN s.bb)) y with|true=>rfl|false=>exact absurd (by rw[cd,a1];rfl) bt);rw[ft,if_neg (by rw[bb];decide),if_neg cc,wx a6 a1],n⟩
       ·
        refine G.skip (cT (bV (G.region ?_)));refine o.W ?_;refine o.v1 bD ?_;refine o.aj ?_;refine aP.sub (bR (i3+1) _ ?_ ?_) ⟨rfl,rfl,(aD (by omega)),trivial⟩
        ·exact⟨(by omega),mC Z P (by rw[←L];cases a1:hI (t.ml.foldl dK (bN s.bb)) y with|false=>rfl|true=>exact absurd (by rw[cd,a1];decide) bt),K⟩
        ·first|omega|(simp only;omega)|(simp;omega)
    ·
     refine G.exit (cN (bU (cI ?_)));refine dF (G.L (fun er=>?_));refine o.aj ?_;refine er ?_;refine G.ret (aE ?_);exact⟨by obtain rfl:i3=t.ml.length:=(by omega);rw[List.take_length]at Z;rw[ft,if_neg (by rw[bb];decide),if_neg cc,wy Z],n⟩
end pF

namespace rz
open E Go.RowKit eJ eN eW e3 ey eX eY fF fG fO fY gg gx gy hQ lH mo nd oe kF mq ng pF dz
section
variable {s : dU} {t : b0}
theorem Cp(h:eC t=1):eE s t=1:=by unfold eE;rw[if_pos (by rw[h];decide),h]
theorem Cq(i:eC t=0)(h:fr t≠0):eE s t=7:=by
 have e:fr t=7:=by
  unfold fr at h⊢;split
  ·rename_i d
   rw[if_pos d]at h;rcases p3 t.al with e|e
   ·exact absurd e h
   ·exact e
  ·rename_i d;rw[if_neg d]at h;exact absurd rfl h
 unfold eE;rw[if_neg (by rw[i];decide),if_pos h,e]
theorem Cr(d:eC t=0)(i:fr t=0)(h:ft s.b5 t.ml≠0):eE s t=ft s.b5 t.ml:=by unfold eE;rw[if_neg (by rw[d];decide),if_neg (by rw[i];decide),if_pos h]
theorem Cs(d:eC t=0)(i:fr t=0)(U:ft s.b5 t.ml=0)(h:gj t≠0):eE s t=gj t:=by unfold eE;rw[if_neg (by rw[d];decide),if_neg (by rw[i];decide),if_neg (by rw[U];decide),if_pos h]
theorem p1(d:eC t=0)(i:fr t=0)(U:ft s.b5 t.ml=0)(j:gj t=0):eE s t=ie s.gB t.el:=by unfold eE;rw[if_neg (by rw[d];decide),if_neg (by rw[i];decide),if_neg (by rw[U];decide),if_neg (by rw[j];decide)]
end
theorem xf{el:List bA}(h:ic el=0):∀x∈el,¬x.k=bz∧x.d.length≤65536:=fun x i=>by
 have d:=oZ h x i;unfold gC at d;split at d
 ·cases d
 ·rename_i U
  split at d
  ·cases d
  ·exact⟨U,by omega⟩
theorem p8(l:List bA):(cl l).length=l.length:=List.length_map ..
theorem xh{l:jJ}{el:List bA}{i:Nat}{e:Int}(k:i<el.length)(j:∀x∈el.take i,gC x=0)(he:gC el[i]=e)(aA:e≠0):ie l el=e:=by
 have d:=sE k j (by rw[he];exact aA);rw[ie,if_pos (by rw[d,he];exact aA),d,he]
set_option maxHeartbeats 1600000 in
theorem F6(s:c2)(t:b0)(F aS:Nat→Prop)(w0:World)(I:Heap)
 (ao:e4 F I s) (bf:bg F I.size) (n:e6 aS I t) (cu:bg aS I.size) (ok:s.m.Ok) (K:lf t):
 aC Tryz.prog w0 20 #[ed s,eg t] I (fun r B=>r= .int .i64 (eE s.m t)∧ak I B):=by
 refine aC.aK [ed s,eg t] Tryz.func20 ?_;intro cQ C;have k:ak I I:=V.refl _ _;have dR:=n.m.len;have dN:=n.e.len;have aO:=K.al;have z2:=K.br;have cO:s.bb.length≤200:=by have:=ok.g_;rwa[show s.m.b5=bN s.bb from rfl,kY]at this
 have dT:s.el.length≤500:=by have:=ok.iM;rwa[show s.m.gB=cl s.el from rfl,p8]at this
 refine G.L (fun cC=>?_);refine o.aO cr ?_;rintro v2 B ⟨rfl,A,af,dv,cD⟩;have dE:B.size=I.size+1:=by rw[cD];simp
 replace ao:=ao.M af;replace n:=n.M af;replace k:=k.L af;have dw:=af.size;replace A:Var 47 B I.size (bS s):=A;refine o.aO cr ?_;rintro v3 Q ⟨rfl,j,ap,dy,cE⟩;have dF:Q.size=B.size+1:=by rw[cE];simp
 replace ao:=ao.M ap;replace n:=n.M ap;replace A:=A.M ap;replace k:=k.L ap;have dz:=ap.size;replace j:Var 32 Q B.size (df t):=j;refine o.aj ?_;refine cC (G.t2 (fun bv cG=>G.L (fun cH=>?_)));refine o.v1 (Y.ai j.N rfl bx rfl cW) ?_;refine o.v1 (ar j.N dr) ?_;refine o.v1 eI ?_;refine o.W ?_;refine o.join (d:=16) (v:= .bool (decide (t.bE=false∧t.ao=false))) 4 (fun aM=>?_) ?_
 ·
  refine o.split (d:=12) rfl (fun aA=>?_) (fun aA=>?_)
  ·
   refine o.an (Y.ai j.N rfl bx rfl cW) ?_;refine o.an (ar (j.N.drop 3) dr) ?_;refine o.an eI ?_;refine o.N ?_;exact aM _ (congrArg (fun b=>some (Value.bool b)) (by cases aK:t.bE<;>cases U:t.ao<;>simp_all)) (ae (ae (ae (ae (bC (congrArg Value.bool aA.symm))))))
  ·
   refine o.ax 4 ?_;exact aM _ (congrArg (fun b=>some (Value.bool b)) (by cases aK:t.bE<;>simp_all)) (ae (ae (ae (ae (bC (congrArg Value.bool aA.symm))))))
 refine o.W ?_;refine o.join (d:=22) (v:= .bool (decide ((t.bE=false∧t.ao=false)∧(t.ml.length:Int)=0))) 5 (fun aN=>?_) ?_
 ·
  refine o.bj (d:=17) rfl (fun R=>?_) (fun R=>?_)
  ·
   refine o.an (Y.ai j.N rfl bx rfl ek) ?_;refine o.an (ar (j.N.drop 2) ez) ?_;refine o.an (ba n.m dG) ?_;refine o.an b9 ?_;refine o.N ?_;exact aN _ (congrArg (fun b=>some (Value.bool b)) (decide_eq_decide.2 ⟨fun h=>⟨R,h⟩,fun h=>h.2⟩)) (ae (ae (ae (ae (ae (bC (congrArg Value.bool (decide_eq_true R).symm)))))))
  ·
   refine o.ax 5 ?_;exact aN _ (congrArg (fun b=>some (Value.bool b)) ((decide_eq_false (fun h=>R h.1)).symm)) (ae (ae (ae (ae (ae (bC (congrArg Value.bool (decide_eq_false R).symm)))))))
 refine o.W ?_;refine o.join (d:=28) (v:= .bool (decide (((t.bE=false∧t.ao=false)∧(t.ml.length:Int)=0)∧(t.el.length:Int)=0))) 5 (fun aQ=>?_) ?_
 ·
  refine o.bj (d:=23) rfl (fun S=>?_) (fun S=>?_)
  ·
   refine o.an (Y.ai j.N rfl bx rfl dp) ?_;refine o.an (ar j.N.fT dS) ?_;refine o.an (ba n.e cq) ?_;refine o.an b9 ?_;refine o.N ?_;exact aQ _ (congrArg (fun b=>some (Value.bool b)) (decide_eq_decide.2 ⟨fun h=>⟨S,h⟩,fun h=>h.2⟩)) (ae (ae (ae (ae (ae (bC (congrArg Value.bool (decide_eq_true S).symm)))))))
  ·
   refine o.ax 5 ?_;exact aQ _ (congrArg (fun b=>some (Value.bool b)) ((decide_eq_false (fun h=>S h.1)).symm)) (ae (ae (ae (ae (ae (bC (congrArg Value.bool (decide_eq_false S).symm)))))))
 refine o.nil (cH ?_);refine aT (fun ag=>?_) (fun ag=>?_)
 ·
  refine G.L (fun cI=>?_);refine o.aj ?_;refine cI ?_;refine G.ret (cG (C ?_));exact⟨(congrArg (Value.int .i64) (Cp (by unfold eC;rw[if_pos ⟨ag.1.1.1,ag.1.1.2,List.eq_nil_of_length_eq_zero (by omega),List.eq_nil_of_length_eq_zero (by omega)⟩]))).symm,k⟩
 ·
  have E:eC t=0:=by
   unfold eC;rw[if_neg];rintro⟨aK,U,cJ,cK⟩;exact ag ⟨⟨⟨aK,U⟩,by rw[cJ];rfl⟩,by rw[cK];rfl⟩
  refine G.skip (bv ?_)
  refine G.bo (fun(_:Unit)=>[(2,.pointer (some ⟨I.size,0,none⟩)),(3,.pointer (some ⟨B.size,0,none⟩))])
   (fun(_:Unit) (H:Heap)=>(fr t=0)∧ak Q H) (fun _ bj bU=>?_) ?_
  ·
   have an:ak Q Q:=V.refl _ _;refine G.L (fun bk=>?_);refine o.v1 (Y.ai j.N rfl bx rfl cW) ?_;refine o.v1 (ar j.N dr) ?_;refine o.W ?_;refine o.join (d:=35) (v:= .bool (decide (t.bE=true∧¬t.al=[]))) 4 (fun aR=>?_) ?_
   ·
    refine o.split (d:=31) rfl (fun T=>?_) (fun T=>?_)
    ·
     refine o.an (Y.ai j.N rfl bx rfl bO) ?_;refine o.an (ar (j.N.drop 1) bL) ?_;refine o.an (Y.iS rfl rfl rfl) ?_;refine o.N ?_;exact aR _ (congrArg (fun b=>some (Value.bool b)) (by simp[T])) (ae (ae (ae (ae (bC (congrArg Value.bool T.symm))))))
    ·
     refine o.ax 4 ?_;exact aR _ (congrArg (fun b=>some (Value.bool b)) (by simp[T])) (ae (ae (ae (ae (bC (congrArg Value.bool T.symm))))))
   refine o.W ?_;refine o.bj (d:=36) rfl (fun ah=>?_) (fun ah=>?_)
   ·
    refine o.an (Y.ai j.N rfl bx rfl bO) ?_;refine o.an (ar (j.N.drop 1) bL) ?_;refine o.call rfl pW rfl bh rfl rfl (qS t.al w0 _ (by omega)) (fun dA dC bV=>?_);obtain⟨rfl,au⟩:=bV;replace k:=k.L au;replace an:=an.L au;have cZ:=au.size;refine o.an c1 ?_;refine o.N ?_;refine o.nil (bk ?_);refine aT (fun aE=>?_) (fun aE=>?_)
    ·
     refine G.L (fun bX=>?_);refine o.aj ?_;refine bX ?_;refine G.ret (bU (C ?_));exact⟨(congrArg (Value.int .i64) (Cq E (by unfold fr;rw[if_pos ah];exact aE))).symm,k⟩
    ·
     refine G.skip ?_;refine aP.sub (bj () _ ?_) ⟨rfl,rfl,trivial⟩;exact⟨by unfold fr;rw[if_pos ah];exact Classical.not_not.1 aE,an⟩
   ·
    refine o.ax 5 ?_;refine o.nil (bk ?_);refine dB ?_;refine G.skip ?_;refine aP.sub (bj () _ ?_) ⟨rfl,rfl,trivial⟩;exact⟨by unfold fr;rw[if_neg ah],an⟩
  ·
   intro _ cU bP;obtain⟨P,L⟩:=bP;replace ao:=ao.M L;replace n:=n.M L;replace A:=A.M L;replace j:=j.M L;replace k:=k.L L;have c0:=L.size;refine G.L (fun bZ=>?_);refine o.v1 (aW A.N fg dx (b8 _)) ?_;refine o.v1 (aW j.N gM fk (dY _)) ?_;refine aV BO (GA s t w0 _ ao.r.any ok.e9 cO ok.bb n.m.any K.ml K.iM) (fun c3 aF b2=>?_);obtain⟨rfl,N⟩:=b2;replace ao:=ao.M N;replace n:=n.M N;replace A:=A.M N;replace j:=j.M N;replace k:=k.L N;have c5:=N.size;refine o.aj ?_;refine bZ (G.t2 (fun b3 b4=>G.L (fun bt=>?_)));refine o.W ?_;refine o.v1 c1 (o.nil (bt ?_));refine aT (fun aH=>?_) (fun aH=>?_)
   ·
    refine G.L (fun bw=>?_);refine o.aR 2 ?_;refine bw ?_;refine G.ret (b4 (C ?_));exact⟨(congrArg (Value.int .i64) (Cr (s:=s.m) E P aH)).symm,k⟩
   ·
    have aa:ft (bN s.bb) t.ml=0:=Classical.not_not.1 aH;refine G.skip (b3 ?_)
    refine G.bo (fun(_:Unit)=>[(2,.pointer (some ⟨I.size,0,none⟩)),(3,.pointer (some ⟨B.size,0,none⟩))])
     (fun(_:Unit) (H:Heap)=>(gj t=0)∧ak aF H) (fun _ bb bA=>?_) ?_
    ·
     have aj:ak aF aF:=V.refl _ _;refine G.L (fun bE=>?_);refine o.v1 (Y.ai j.N rfl bx rfl cW) ?_;refine o.v1 (ar (j.N.drop 3) dr) ?_;refine o.W ?_;refine o.join (d:=55) (v:= .bool (decide (t.ao=true∧¬t.q.k=0))) 5 (fun aX=>?_) ?_
     ·
      refine o.split (d:=50) rfl (fun W=>?_) (fun W=>?_)
      ·
       refine o.an (Y.ai j.N rfl bx rfl cT) ?_;refine o.an (Y.ai (j.N.drop 4) rfl bu rfl b1) ?_;refine o.an (ar j.N.n2 cd) ?_;refine o.an c1 ?_;refine o.N ?_;exact aX _ (congrArg (fun b=>some (Value.bool b)) (by simp[W])) (ae (ae (ae (ae (ae (bC (congrArg Value.bool W.symm)))))))
      ·
       refine o.ax 5 ?_;exact aX _ (congrArg (fun b=>some (Value.bool b)) (by simp[W])) (ae (ae (ae (ae (ae (bC (congrArg Value.bool W.symm)))))))
     refine o.nil (bE ?_);refine aT (fun X=>?_) (fun X=>?_)
     ·
      refine G.L (fun bF=>?_);refine o.v1 (Y.ai j.N rfl bx rfl cT) ?_;refine o.v1 (Y.cast (v2:=eo t.q) (aW ((j.N.drop 4).take 70) h8 cT (by rw[jc];exact ef _)) (b6 (jc t))) ?_;refine aV BP (CU t.q w0 _ n.q.any (by omega)) (fun c6 c_ b5=>?_);obtain⟨rfl,am⟩:=b5;replace k:=k.L am;replace aj:=aj.L am;have dc:=am.size;refine o.aj ?_;refine bF (G.L (fun bH=>?_));refine o.W ?_;refine o.v1 c1 (o.nil (bH ?_));refine aT (fun aI=>?_) (fun aI=>?_)
      ·
       refine G.L (fun bJ=>?_);refine o.aR 2 ?_;refine bJ ?_;refine G.ret (bA (C ?_));exact⟨(congrArg (Value.int .i64) ((Cs (s:=s.m) E P aa (by unfold gj;rw[if_pos X];exact aI)).trans (by unfold gj;rw[if_pos X]))).symm,k⟩
      ·
       refine G.skip ?_;refine aP.sub (bb () _ ?_) ⟨rfl,rfl,trivial⟩;exact⟨by unfold gj;rw[if_pos X];exact Classical.not_not.1 aI,aj⟩
     ·
      refine G.skip ?_;refine aP.sub (bb () _ ?_) ⟨rfl,rfl,trivial⟩;exact⟨by unfold gj;rw[if_neg X],aj⟩
    ·
     intro _ bR bQ;obtain⟨az,M⟩:=bQ;replace ao:=ao.M M;replace n:=n.M M;replace A:=A.M M;replace j:=j.M M;replace k:=k.L M;have de:=M.size;refine G.t2 (fun a0 bc=>G.L (fun a2=>?_));refine o.aj ?_;refine a2 (G.aB (fun _ a3 bd=>?_))
     refine G.bd (fun(i:(Nat))=>[(2,.pointer (some ⟨I.size,0,none⟩)),(3,.pointer (some ⟨B.size,0,none⟩)),(6,.int .i64 (i:Int))])
      (fun(i:(Nat)) (H:Heap)=>(i≤t.el.length)∧(∀x∈t.el.take i,gC x=0)∧ak bR H)
      (fun(i:(Nat))=>t.el.length-i) 0 ⟨rfl,rfl,rfl,trivial⟩ ?_ ?_
     ·
      exact⟨(by omega),(fun x h=>by simp at h),V.refl _ _⟩
     intro i dg b7 dh a4 aJ;obtain⟨dO,Z,ac⟩:=b7;replace ao:=ao.M ac;replace n:=n.M ac;replace A:=A.M ac;replace j:=j.M ac;replace k:=k.L ac;have dD:=ac.size;refine G.t2 (fun a5 bo=>G.L (fun bp=>?_));refine o.W ?_;refine o.v1 (Y.ai j.N rfl bx rfl dp) ?_;refine o.v1 (ar j.N.fT dS) ?_;refine o.v1 (ba n.e cq) ?_;refine o.v1 bG (o.nil (bp ?_));refine aT (fun cb=>?_) (fun cb=>?_)
     ·
      refine G.skip (a5 (G.t2 (fun bq aY=>G.aB (fun a9 _ aZ=>G.t2 (fun bM cn=>G.L (fun cp=>?_))))));refine o.v1 (Y.ai j.N rfl bx rfl dp) ?_;refine o.v1 (ar j.N.fT dS) ?_;refine o.W ?_;have ay:i<t.el.length:=by omega
      obtain⟨y,O⟩:∃q,q=t.el[i]:=⟨_,rfl⟩;have cM:y∈t.el:=by rw[O];exact List.getElem_mem ay
      refine o.bR (Y.bJ n.e (i) rfl cq cf rfl rfl) fun di a1=>?_;refine o.v1 (Y.ai a1.N rfl eS rfl a_) ?_;refine o.v1 (Y.cast (v2:=bs y.k) (aW ((a1.N.drop 0).take 32) b_ a_ (by rw[eK];exact bB _)) ((by rw[O];exact b6 (eK _)))) ?_;refine o.v1 (Y.build (v:=bs bz) rfl rfl (by intro w;kernel_rfl)) ?_;refine o.v1 (Y.cast (v2:= .bool (decide (y.k=bz))) (Y.h_ rfl Tryz.eqGuardType26 (fun w=>fR 9998 Tryz.underlying26 Tryz.underlying5 cL dQ (y.k.2) (bz.2) w) rfl rfl) ((congrArg Value.bool (decide_eq_decide.2 ⟨fun e=>Subtype.ext e,fun e=>congrArg Subtype.val e⟩)))) (o.nil (cp ?_));refine aT (fun ai=>?_) (fun ai=>?_)
      ·
       refine G.L (fun ct=>?_);refine o.aj ?_;refine ct ?_;refine G.ret (cn (aZ (aY (aJ (bd (bc (C ?_)))))));exact⟨(congrArg (Value.int .i64) ((p1 (s:=s.m) E P aa az).trans (xh ay Z (by rw[←O];unfold gC;rw[if_pos ai]) (by decide)))).symm,k⟩
      ·
       refine G.skip (bM (G.L (fun bT=>?_)));refine o.v1 (Y.ai j.N rfl bx rfl dp) ?_;refine o.v1 (ar j.N.fT dS) ?_;refine o.W ?_;refine o.bR (Y.bJ n.e (i) rfl cq cf rfl rfl) fun dj a6=>?_;refine o.v1 (Y.ai a6.N rfl eS rfl da) ?_;refine o.v1 (Y.cast (v2:=y.v.v) (ar (a6.N.ji) eA) (by rw[O])) ?_;refine o.v1 (ba (n.d y cM) db) ?_;refine o.v1 eT (o.nil (bT ?_));refine aT (fun cc=>?_) (fun cc=>?_)
       ·
        refine G.L (fun be=>?_);refine o.aj ?_;refine be ?_;refine G.ret (aZ (aY (aJ (bd (bc (C ?_))))));exact⟨(congrArg (Value.int .i64) ((p1 (s:=s.m) E P aa az).trans (xh ay Z (by rw[←O];unfold gC;rw[if_neg ai,if_pos (by omega)]) (by decide)))).symm,k⟩
       ·
        refine G.skip (a9 (bq (G.region ?_)));refine o.W ?_;refine o.v1 bD ?_;refine o.aj ?_;refine aP.sub (a4 (i+1) _ ?_ ?_) ⟨rfl,rfl,(aD (by omega)),trivial⟩
        ·exact⟨(by omega),mC Z ay (by rw[←O];unfold gC;rw[if_neg ai,if_neg (by omega)]),ac⟩
        ·first|omega|(simp only;omega)|(simp;omega)
     ·
      obtain rfl:i=t.el.length:=by omega
      rw[List.take_length]at Z;have aL:ic t.el=0:=sF Z;have bn:=xf aL;refine G.exit (bo (aJ (a3 ?_)));refine a0 (G.t2 (fun bY cv=>G.L (fun cw=>?_)));refine o.v1 (Y.ai A.N rfl ca rfl dp) ?_;refine o.v1 (ar A.N.iB dS) ?_;refine o.v1 (Y.ai j.N rfl bx rfl dp) ?_;refine o.v1 (ar j.N.fT dS) ?_;refine aV vk (ym _ _ s.el t.el F w0 _ ao.e (bf.mono k.size) n.e.any ao.d (bf.mono k.size) (fun y hy=>(n.d y hy).any) (by omega) (by have:=K.el;omega) (fun x ab=>by have:=(bn x ab).2;omega) (fun x ab=>(bn x ab).1)) (fun dH dI cg=>?_);obtain⟨dJ,dU,dK,rfl,cP,cV,dk,cY,dm,bm,aq⟩:=cg;replace n:=n.M aq;replace j:=j.M aq;replace k:=k.L aq;have ce:=aq.size;refine o.v1 (ba (cP ()) cq) ?_;refine o.v1 eT (o.nil (cw ?_));refine aT (fun ch=>?_) (fun ch=>?_)
      ·
       refine G.L (fun bi=>?_);refine o.aj ?_;refine bi ?_;refine G.ret (cv (C ?_));exact⟨(congrArg (Value.int .i64) ((p1 (s:=s.m) E P aa az).trans (by rw[ie,if_neg (by rw[aL];decide),if_pos (by rw[show s.m.gB=cl s.el from rfl,←bm,p8];omega)]))).symm,k⟩
      ·
       have bl:eE s.m t=0:=(p1 (s:=s.m) E P aa az).trans (by rw[ie,if_neg (by rw[aL];decide),if_neg (by rw[show s.m.gB=cl s.el from rfl,←bm,p8];omega)]);have ab:=r8 K bl;have dP:=K.l1;refine G.skip (bY (G.L (fun cy=>?_)));refine o.v1 (aW j.N gM fk (dY _)) ?_;refine aV BQ (C4 t aS w0 _ n (cu.mono k.size) ab ⟨aO,z2⟩) (fun dL dM cj=>?_);obtain⟨dX,ci,rfl,a7,dq,a8⟩:=cj;replace k:=k.L a8;have dt:=a8.size;have cS:=a7.le;refine o.W ?_;refine o.v1 cN ?_;refine o.v1 cN ?_;refine o.aR 2 ?_;refine cy (G.t1 (fun aB=>G.L (fun cz=>?_)));refine o.W ?_;refine o.v1 ((c1).fC (by simp)) ?_;refine o.ax 2 ?_;refine o.an (ba a7.rd db) ?_;refine o.an ((eT).fC (by omega)) ?_;refine o.dF ?_;refine o.nil (cz ?_);refine dB ?_;refine G.skip (aB (G.L (fun cB=>?_)));refine o.aj ?_;refine cB ?_;refine G.ret (C ?_);exact⟨by rw[bl],k⟩
end rz

namespace tY
open E Go.RowKit eJ eN eW e3 ey eX eY fF fG fO fY gg gx gy hQ lH mo nd oe kF mq ng pF rz dz
set_option maxRecDepth 100000 in
theorem lY:c6 Tryz.prog 27 129 33 40:=⟨Tryz.underlying27,_,_,rfl,rfl,rfl,rfl,rfl⟩
theorem ay.jj{F aS:Nat→Prop}{k h:Nat}(x:∀b,aS b→F b∨h≤b)(d:ay F k)(i:k≤h):ay aS k:=fun b e U=>(x b e).elim (fun e=>d b e U) (fun e=>by omega)
theorem w8(l:List e5):(cm l).length=l.length:=List.length_map ..
set_option maxHeartbeats 1600000 in
theorem F5(s:c2)(t:b0)(F b9:Nat→Prop)(w0:World)(I:Heap)
 (ao:e4 F I s) (aI:bg F I.size) (n:e6 b9 I t) (dI:bg b9 I.size) (ok:s.m.Ok) (av:eE s.m t=0) (bZ:lf t):
 aC Tryz.prog w0 25 #[ed s,eg t] I (fun r W=>∃b5:c2,∃bE:Nat→Prop,r=ed b5∧(∀u:Unit,e4 bE W b5)∧(bg bE W.size)∧(∀b,bE b→F b∨I.size≤b)∧(b5.m=s.m.ap t)∧ak I W):=by
 refine aC.enter (args:=[ed s,eg t]) Tryz.func25 rfl rfl rfl ?_;intro eU eM;have k:ak I I:=V.refl _ _;have ee:=p0 av;have gh:=bZ.a6;have gi:=bZ.ml;have gj:=bZ.el;have cy:=xf ee.gB;have gf:s.bb.length≤200:=by have:=ok.g_;rwa[show s.m.b5=bN s.bb from rfl,kY]at this
 have gg:s.el.length≤500:=by have:=ok.iM;rwa[show s.m.gB=cl s.el from rfl,p8]at this
 have ga:s.bW.length≤200:=by have bA:=congrArg List.length ok.cK;rw[List.length_map,List.length_map,show s.m.b5=bN s.bb from rfl,show s.m.dJ=cm s.bW from rfl,kY,w8]at bA;omega
 refine G.L (fun cV=>?_);refine o.aO cr ?_;rintro v2 W ⟨rfl,aY,bw,fH,cZ⟩;have e3:W.size=I.size+1:=by rw[cZ];simp
 replace ao:=ao.M bw;replace n:=n.M bw;replace k:=k.L bw;have fI:=bw.size;replace aY:Var 47 W I.size (bS s):=aY;refine o.aO cr ?_;rintro v3 E ⟨rfl,j,a3,fJ,dH⟩;have fT:E.size=W.size+1:=by rw[dH];simp
 replace ao:=ao.M a3;replace n:=n.M a3;replace aY:=aY.M a3;replace k:=k.L a3;have fK:=a3.size;replace j:Var 32 E W.size (df t):=j;refine o.aO (cQ jq) ?_;rintro v4 A ⟨rfl,B,a0,fL,ec⟩;have fU:A.size=E.size+1:=by rw[ec];simp
 have b2:=(ay.new (aI.mono k.size):ay _ (E.size+1));have dJ:T 0 I.size (E.size+1):=T.new k.size;replace ao:=ao.M a0;replace n:=n.M a0;replace aY:=aY.M a0;replace j:=j.M a0;replace k:=k.L a0;have fM:=a0.size;refine o.nil (cV (G.L (fun ce=>?_)));refine o.v1 (aW aY.N fg dx (b8 _)) ?_;refine o.aO (cQ jq) ?_;rintro v5 cD ⟨rfl,d,a2,fN,eh⟩;have fV:cD.size=A.size+1:=by rw[eh];simp
 have ab:=(ay.new (aI.mono k.size):ay _ (A.size+1));have aK:=(ay.new (dI.mono k.size):ay _ (A.size+1));have aL:af (W.size+1) (A.size+1):=af.new j.lt;have aN:af (E.size+1) (A.size+1):=af.new B.lt;have aO:T 0 I.size (A.size+1):=T.new k.size;replace ao:=ao.M a2;replace n:=n.M a2;replace j:=j.M a2;replace B:=B.M a2;replace k:=k.L a2;have fO:=a2.size;refine o.s1 (dy d (_) (bS s) (iG _) dx (b8 _) ((c0 (b8 _).symm))) fun bq dL=>?_;obtain⟨d,am⟩:=dL;replace am:=am.bp;replace ao:=ao.ab am (az.J ab);replace n:=n.ab am (az.J aK);replace j:=j.ab am (ah.J aL);replace B:=B.ab am (ah.J aN);replace k:=k.bl am (ag.J (aq.q aO));have fP:=am.size;refine o.nil (ce ?_)
 refine G.cut (fun(K:(List UInt8))=>[(3,.pointer (some ⟨W.size,0,none⟩)),(4,.pointer (some ⟨E.size,0,none⟩)),(5,.pointer (some ⟨A.size,0,none⟩))])
  (fun(K:(List UInt8)) (H:Heap)=>(Var 47 H A.size (bS {s with al:=K}))∧(K=if t.bE=true then t.al else s.al)∧V (aE [(A.size+1)]) bq H) (fun _ cp _=>?_) ?_
 ·
  have bs:V (aE [(A.size+1)]) bq bq:=V.refl _ _;have cG:=T.refl (A.size+1) bq.size;refine G.L (fun dX=>?_);refine o.v1 (Y.ai j.N rfl bx rfl cW) ?_;refine o.v1 (ar j.N dr) (o.nil (dX ?_));refine cI (fun bR=>?_) (fun bR=>?_)
  ·
   refine G.region ?_;refine o.v1 (Y.ai j.N rfl bx rfl bO) ?_;refine o.v1 (ar (j.N.drop 1) bL) ?_;refine o.v1 (Y.ai d.N rfl ca rfl bO) ?_;refine o.s1 (dh d 0 (bS {s with al:=t.al}) (rfl) bO (by rw[b8];omega) ((yV _))) fun ci dN=>?_;obtain⟨d,bp⟩:=dN;replace bp:=bp.bp;replace bs:=bs.aJ bp (ag.J (aq.r cG));have fQ:=bp.size;refine o.nil ?_;refine aP.sub (cp (t.al) _ ?_) ⟨rfl,rfl,rfl,trivial⟩;exact⟨d,by rw[if_pos bR],bs⟩
  ·
   refine G.skip ?_;refine aP.sub (cp (s.al) _ ?_) ⟨rfl,rfl,rfl,trivial⟩;exact⟨d,by rw[if_neg (by simp[bR])],bs⟩
 ·
  intro K cc cJ;obtain⟨d,eH,a1⟩:=cJ;replace ao:=ao.ab a1 (az.J ab);replace n:=n.ab a1 (az.J aK);replace j:=j.ab a1 (ah.J aL);replace B:=B.ab a1 (ah.J aN);replace k:=k.bl a1 (ag.J (aq.q aO));have fi:=a1.size;refine G.t1 (fun ep=>G.L (fun er=>?_));refine o.aj ?_;refine er (G.aB (fun _ et _=>?_))
  refine G.bd (fun(b7:(Nat)×(aM)×(List cw)×(Nat→Prop)×(aM)×(List e5)×(Nat→Prop))=>match b7 with|(i,R,ul,an,O,C,P)=>[(3,.pointer (some ⟨W.size,0,none⟩)),(4,.pointer (some ⟨E.size,0,none⟩)),(5,.pointer (some ⟨A.size,0,none⟩)),(6,.int .i64 (i:Int))])
   (fun(i,R,ul,an,O,C,P) (H:Heap)=>(i≤t.ml.length)∧(Var 47 H A.size (bS {s with al:=K,ej:=R,bb:=ul,cu:=O,bW:=C}))∧(∀u:Unit,Rd an H du 33 R.v ul)∧(bg an H.size)∧(ay an (A.size+1))∧(ay an (E.size+1))∧(∀u:Unit,Rd P H ei 2 O.v C)∧(bg P H.size)∧(ay P (A.size+1))∧(ay P (E.size+1))∧(∀y∈C,Rd P H dm 65 y.v.v y.l)∧(bg P H.size)∧(ay P (A.size+1))∧(ay P (E.size+1))∧(∀b,an b→F b∨I.size≤b)∧(∀b,P b→F b∨I.size≤b)∧(bN ul=(t.ml.take i).foldl dK s.m.b5)∧(cm C=(t.ml.take i).foldl hl s.m.dJ)∧(ul.length≤200+i)∧V (aE [(A.size+1)]) cc H)
   (fun(i,R,ul,an,O,C,P)=>t.ml.length-i) (0,s.ej,s.bb,F,s.cu,s.bW,F) ⟨rfl,rfl,rfl,rfl,trivial⟩ ?_ ?_
  ·
   exact⟨(by omega),d,(fun _=>ao.r),(aI.mono (by omega)),(ab),(b2),(fun _=>ao.g),(aI.mono (by omega)),(ab),(b2),ao.n,(aI.mono (by omega)),(ab),(b2),(fun b e=>Or.inl e),(fun b e=>Or.inl e),rfl,rfl,(by omega),V.refl _ _⟩
  rintro⟨i,R,ul,an,O,C,P⟩ a4 eu eT ev co;obtain⟨fZ,d,hu,e_,bQ,eO,M,a5,g1,g2,N,cN,bI,eN,cS,bM,a8,a7,gb,L⟩:=eu;replace ao:=ao.ab L (az.J ab);replace n:=n.ab L (az.J aK);replace j:=j.ab L (ah.J aL);replace B:=B.ab L (ah.J aN);replace k:=k.bl L (ag.J (aq.q aO));have fj:=L.size;have cf:=T.refl (A.size+1) cc.size
  have f_:C.length=ul.length:=by
   have bA:=congrArg List.length (qs (ml:=t.ml.take i) ok.cK);rw[List.length_map,List.length_map,←a7,←a8,w8,kY]at bA;exact bA
  have eI:∀y∈C,y.l.length≤100:=fun y hy=>sO (ml:=t.ml.take i) ok.bW (y.n,y.l) (by rw[←a7];exact List.mem_map.2 ⟨y,hy,rfl⟩);refine G.t2 (fun ew ey=>G.L (fun dP=>?_));refine o.W ?_;refine o.v1 (Y.ai j.N rfl bx rfl ek) ?_;refine o.v1 (ar (j.N.drop 2) ez) ?_;refine o.v1 (ba n.m dG) ?_;refine o.v1 bG (o.nil (dP ?_));refine aT (fun eA=>?_) (fun eA=>?_)
  ·
   refine G.skip (ew (G.t1 (fun br=>G.aB (fun dQ _ _=>G.t1 (fun dR=>?_)))));refine iV 7 (fun eV eF=>?_);refine o.v1 (Y.ai d.N rfl ca rfl hb) ?_;refine o.v1 (ar (d.N.drop 1) iw) ?_;refine o.v1 (Y.ai j.N rfl bx rfl ek) ?_;refine o.v1 (ar (j.N.drop 2) ez) ?_;refine o.W ?_;have bC:i<t.ml.length:=by omega
   obtain⟨y,bl⟩:∃q,q=t.ml[i]:=⟨_,rfl⟩;have gd:y∈t.ml:=by rw[bl];exact List.getElem_mem bC
   refine o.bR (Y.bJ n.m (i) rfl dG dM rfl rfl) fun cs dT=>?_;refine o.v1 (Y.cast (v2:= .agg (dt y).toArray) (aW dT.N iE dM (e0 _)) (by rw[bl])) ?_;refine o.nil (eF _ ?_);refine aV vp (xw _ ul y w0 _ (hu ()).any (by omega)) (fun fk dE eB=>?_);obtain⟨bv,bz,rfl,ai,bF,aQ⟩:=eB;have dV:af (E.size+1) bz:=af.app (af.z) B.lt bF;have bH:af (A.size+1) bz:=af.app (af.z) d.lt bF;have dW:T 0 I.size bz:=T.L (T.refl 0 _) bF k.size;replace n:=n.M aQ;replace j:=j.M aQ;replace d:=d.M aQ;replace M:=fun u=>(M u).M aQ;replace N:=fun y Q=>(N y Q).M aQ;replace L:=L.bc aQ;have fl:=aQ.size;have eX:=ai.le;have cz:bN (kv y ul)=(t.ml.take (i+1)).foldl dK s.m.b5:=by rw[kq bC,←bl,←a8];exact xy y ul (by rw[a8];exact kr ok.e9)
   refine o.v1 (Y.ai d.N rfl ca rfl hb) ?_;refine o.s1 (dh d 1 (bS {s with al:=K,ej:=bv,bb:=kv y ul,cu:=O,bW:=C}) (rfl) hb (by rw[b8];omega) ((tD _ _))) fun bo dY=>?_;obtain⟨d,au⟩:=dY;replace au:=au.bp;replace n:=n.ab au (az.J aK);replace j:=j.ab au (ah.J aL);replace M:=fun u=>(M u).ab au (az.J g1);replace N:=fun y Q=>(N y Q).ab au (az.J bI);replace ai:=ai.ab au (ah.J bH.symm);replace L:=L.aJ au (ag.J (aq.r cf));have dA:=au.size;refine o.nil (dR ?_);refine iV 7 (fun eW eG=>?_);refine o.v1 (Y.ai d.N rfl ca rfl fS) ?_;refine o.v1 (ar (d.N.drop 2) ht) ?_;refine o.v1 (Y.ai j.N rfl bx rfl ek) ?_;refine o.v1 (ar (j.N.drop 2) ez) ?_;refine o.W ?_;refine o.bR (Y.bJ n.m (i) rfl dG dM rfl rfl) fun fW c3=>?_;refine o.v1 (Y.cast (v2:= .agg (dt y).toArray) (aW c3.N iE dM (e0 _)) (by rw[bl])) ?_;refine o.nil (eG _ ?_);refine aV B1 (Ey _ C y P w0 _ (M ()) (a5.mono (by omega)) N (cN.mono (by omega)) (by omega) eI) (fun fm fo eC=>?_);obtain⟨cq,cC,eD,rfl,b4,cK,bU,cL,a_,eK,bt⟩:=eC;replace d:=d.M bt;replace ai:=ai.M bt;replace L:=L.bc bt;have fX:=bt.size;have b_:=(ay.jj a_ (g1) (by omega));have c5:=(ay.jj a_ (g2) (by omega));have cb:=(ay.jj a_ (g1) (by omega));have c6:=(ay.jj a_ (g2) (by omega));refine o.v1 (Y.ai d.N rfl ca rfl fS) ?_;refine o.s1 (dh d 2 (bS {s with al:=K,ej:=bv,bb:=kv y ul,cu:=cq,bW:=cC}) (rfl) fS (by rw[b8];omega) ((q5 _ _))) fun fq c_=>?_;obtain⟨d,aX⟩:=c_;replace aX:=aX.bp;replace ai:=ai.ab aX (ah.J bH.symm);replace b4:=fun u=>(b4 u).ab aX (az.J b_);replace bU:=fun y Q=>(bU y Q).ab aX (az.J cb);replace L:=L.aJ aX (ag.J (aq.r cf));have fr:=aX.size;refine o.nil (dQ (br (G.region ?_)));refine o.W ?_;refine o.v1 bD ?_;refine o.aj ?_;refine aP.sub (ev (i+1,bv,kv y ul,fun b=>b+1=bz,cq,cC,eD) _ ?_ ?_) ⟨rfl,rfl,rfl,(aD (by omega)),trivial⟩
   ·exact⟨(by omega),d,(fun _=>ai.rd),(bg.of ai.le),(ay.of (bH.symm)),(ay.of (dV.symm)),b4,(cK.mono (by omega)),(b_),(c5),bU,(cL.mono (by omega)),(cb),(c6),(fun b e=>Or.inr (by have b3:=(dW);unfold T at b3;omega)),(fun b e=>(a_ b e).elim (bM b) (fun e=>Or.inr (by omega))),cz,by rw[eK (by rw[a7];exact ql ok.c9),a7,kq bC,←bl],(by rw[←kY,cz,kq bC];refine Nat.le_trans (xA _ _) ?_;rw[←a8,kY];omega),L⟩
   ·first|omega|(simp only;omega)|(simp;omega)
  ·
   obtain rfl:i=t.ml.length:=by omega
   rw[List.take_length]at a8 a7;refine G.exit (ey (co (et ?_)));refine ep ?_
   refine G.cut (fun(b7:(cY)×(Nat→Prop))=>match b7 with|(Z,aJ)=>[(3,.pointer (some ⟨W.size,0,none⟩)),(4,.pointer (some ⟨E.size,0,none⟩)),(5,.pointer (some ⟨A.size,0,none⟩))])
    (fun(Z,aJ) (H:Heap)=>(Var 47 H A.size (bS {s with al:=K,ej:=R,bb:=ul,cu:=O,bW:=C,q:=Z}))∧(∀u:Unit,Rd aJ H c4 33 Z.cM.v Z.a6)∧(bg aJ H.size)∧(ay aJ (A.size+1))∧(ay aJ (E.size+1))∧(∀b,aJ b→F b∨I.size≤b)∧(Z.p=if t.ao=true then(if t.q.k=0 then hN else t.q.p)else s.m.q)∧V (aE [(A.size+1)]) a4 H) (fun _ bJ _=>?_) ?_
   ·
    have ac:V (aE [(A.size+1)]) a4 a4:=V.refl _ _;have bP:=T.refl (A.size+1) a4.size;refine G.L (fun da=>?_);refine o.v1 (Y.ai j.N rfl bx rfl cW) ?_;refine o.v1 (ar (j.N.drop 3) dr) (o.nil (da ?_));refine cI (fun bi=>?_) (fun bi=>?_)
    ·
     refine G.L (fun db=>?_);refine o.v1 (Y.build (v:=eo hN) rfl rfl (by intro w;kernel_rfl)) ?_;refine o.v1 (Y.ai d.N rfl ca rfl cT) ?_;refine o.s1 (S.var d (_) (bS {s with al:=K,ej:=R,bb:=ul,cu:=O,bW:=C,q:=hN}) rfl rfl rfl rfl ((kp _)) cT (ef _) (by rw[b8];exact Nat.le_of_ble_eq_true rfl) ((q6 _))) fun fa a9=>?_;obtain⟨d,aA⟩:=a9;replace aA:=aA.bp;replace n:=n.ab aA (az.J aK);replace j:=j.ab aA (ah.J aL);replace B:=B.ab aA (ah.J aN);replace k:=k.bl aA (ag.J (aq.q aO));replace ac:=ac.aJ aA (ag.J (aq.r bP));have ft:=aA.size;refine o.nil (db (G.L (fun dc=>?_)));refine o.v1 (Y.ai j.N rfl bx rfl cT) ?_;refine o.v1 (Y.ai (j.N.drop 4) rfl bu rfl b1) ?_;refine o.v1 (ar j.N.n2 cd) ?_;refine o.v1 c1 (o.nil (dc ?_));refine aT (fun dZ=>?_) (fun dZ=>?_)
     ·
      refine G.L (fun de=>?_);refine o.v1 (Y.ai j.N rfl bx rfl cT) ?_;refine o.v1 (Y.cast (v2:=eo t.q) (aW ((j.N.drop 4).take 70) h8 cT (by rw[jc];exact ef _)) (b6 (jc t))) ?_;refine o.v1 (Y.ai d.N rfl ca rfl cT) ?_;refine o.s1 (S.var d (_) (bS {s with al:=K,ej:=R,bb:=ul,cu:=O,bW:=C,q:=t.q}) rfl rfl rfl rfl ((kp _)) cT (ef _) (by rw[b8];exact Nat.le_of_ble_eq_true rfl) ((q6 _))) fun a6 cO=>?_;obtain⟨d,aF⟩:=cO;replace aF:=aF.bp;replace n:=n.ab aF (az.J aK);replace j:=j.ab aF (ah.J aL);replace B:=B.ab aF (ah.J aN);replace k:=k.bl aF (ag.J (aq.q aO));replace ac:=ac.aJ aF (ag.J (aq.r bP));have fu:=aF.size;refine o.nil (de (G.region ?_));refine o.aO (cU _ (([]:List fA)) lY hU mM (rfl)) fun cE ch d_=>?_;obtain⟨aj,aR,fy,dg⟩:=d_;have eY:ch.size=a6.size+1:=by rw[dg];simp
      have di:af (E.size+1) (a6.size+1):=af.new B.lt;have ct:af (A.size+1) (a6.size+1):=af.new d.lt;have dj:T 0 I.size (a6.size+1):=T.new k.size;have dk:T 0 a4.size (a6.size+1):=T.new ac.size;replace n:=n.M aR;replace j:=j.M aR;replace B:=B.M aR;replace d:=d.M aR;replace k:=k.L aR;replace ac:=ac.bc aR;have fz:=aR.size;refine o.v1 (Y.ai j.N rfl bx rfl cT) ?_;refine o.v1 (Y.ai (j.N.drop 4) rfl bu rfl en) ?_;refine o.v1 (ar j.N.rb ff) ?_;refine o.aO (dO aj n.q lY (by simp;omega) (by simp;omega)) fun cj fp ea=>?_;obtain⟨bk,aj,bc,bd⟩:=ea;replace bc:T (a6.size+1) ch.size bk:=bc;replace bd:=bd.md;have dq:af (E.size+1) bk:=af.app (di) B.lt bc;have cv:af (A.size+1) bk:=af.app (ct) d.lt bc;have dv:T 0 I.size bk:=T.L (dj) bc k.size;replace d:=d.ab bd (ah.J ct);replace ac:=ac.aJ bd (ag.J (aq.q dk));have fB:=bd.size;have e7:=aj.le;rw[List.nil_append]at aj;obtain⟨cn,rfl⟩:∃s:aM,cj=s.v:=⟨cg cj,aj.bm.symm⟩;refine o.v1 (Y.ai d.N rfl ca rfl cT) ?_;refine o.v1 (Y.ai (d.N.drop 3) rfl bu rfl en) ?_;refine o.s1 (dh d 69 (bS {s with al:=K,ej:=R,bb:=ul,cu:=O,bW:=C,q:={t.q with cM:=cn}}) (rfl) en (by rw[b8];omega) ((tE _ _))) fun eZ bT=>?_;obtain⟨d,bj⟩:=bT;replace bj:=bj.bp;replace aj:=aj.ab bj (ah.J cv.symm);replace ac:=ac.aJ bj (ag.J (aq.r bP));have fC:=bj.size;refine o.nil ?_;refine aP.sub (bJ ({t.q with cM:=cn},fun b=>b+1=bk) _ ?_) ⟨rfl,rfl,rfl,trivial⟩;exact⟨d,(fun _=>aj.rd),(bg.of aj.le),(ay.of (cv.symm)),(ay.of (dq.symm)),(fun b e=>Or.inr (by have b3:=(dv);unfold T at b3;omega)),by rw[if_pos bi,if_neg (by omega)];rfl,ac⟩
     ·
      refine G.skip ?_;refine aP.sub (bJ (hN,fun _=>False) _ ?_) ⟨rfl,rfl,rfl,trivial⟩;exact⟨d,(fun _=>Rd.nil _ _ _ _),(fun b e=>e.elim),(fun b e=>e.elim),(fun b e=>e.elim),(fun b e=>e.elim),by rw[if_pos bi,if_pos (by omega)];rfl,ac⟩
    ·
     refine G.skip ?_;refine aP.sub (bJ (s.q,F) _ ?_) ⟨rfl,rfl,rfl,trivial⟩;exact⟨d,(fun _=>ao.q),(aI.mono (by omega)),(ab),(b2),(fun b e=>Or.inl e),by rw[if_neg (by simp[bi])];rfl,ac⟩
   ·
    rintro⟨Z,aJ⟩ fc cH;obtain⟨d,aS,e8,eR,eS,cP,eL,ae⟩:=cH;replace ao:=ao.ab ae (az.J ab);replace n:=n.ab ae (az.J aK);replace j:=j.ab ae (ah.J aL);replace B:=B.ab ae (ah.J aN);replace hu:=fun u=>(hu u).ab ae (az.J bQ);replace M:=fun u=>(M u).ab ae (az.J g1);replace N:=fun y Q=>(N y Q).ab ae (az.J bI);replace k:=k.bl ae (ag.J (aq.q aO));have fD:=ae.size;refine G.L (fun dw=>?_);refine o.v1 (Y.ai d.N rfl ca rfl dp) ?_;refine o.v1 (ar d.N.iB dS) ?_;refine o.v1 (Y.ai j.N rfl bx rfl dp) ?_;refine o.v1 (ar j.N.fT dS) ?_;refine aV vk (ym _ _ s.el t.el F w0 _ ao.e (aI.mono (by omega)) n.e.any ao.d (aI.mono (by omega)) (fun y hy=>(n.d y hy).any) (by omega) (by omega) (fun x bV=>by have:=(cy x bV).2;omega) (fun x bV=>(cy x bV).1)) (fun fR fY eb=>?_);obtain⟨aB,bm,bf,rfl,bn,fe,bh,fh,aZ,eJ,aH⟩:=eb;replace B:=B.M aH;replace d:=d.M aH;replace hu:=fun u=>(hu u).M aH;replace M:=fun u=>(M u).M aH;replace N:=fun y Q=>(N y Q).M aH;replace aS:=fun u=>(aS u).M aH;replace k:=k.L aH;have fE:=aH.size;have dz:=(ay.jj aZ (ab) (by omega));have dB:=(ay.jj aZ (b2) (by omega));have dC:=(ay.jj aZ (ab) (by omega));have dD:=(ay.jj aZ (b2) (by omega));refine o.v1 (Y.ai d.N rfl ca rfl dp) ?_;refine o.s1 (dh d 73 (bS {s with al:=K,ej:=R,bb:=ul,cu:=O,bW:=C,q:=Z,cB:=aB,el:=bm}) (rfl) dp (by rw[b8];omega) ((tC _ _))) fun e1 be=>?_;obtain⟨d,X⟩:=be;replace X:=X.bp;replace B:=B.ab X (ah.J aN);replace hu:=fun u=>(hu u).ab X (az.J bQ);replace M:=fun u=>(M u).ab X (az.J g1);replace N:=fun y Q=>(N y Q).ab X (az.J bI);replace aS:=fun u=>(aS u).ab X (az.J eR);replace bn:=fun u=>(bn u).ab X (az.J dz);replace bh:=fun x bX=>(bh x bX).ab X (az.J dC);replace k:=k.bl X (ag.J (aq.q aO));have fF:=X.size;refine o.nil (dw (G.L (fun dF=>?_)));refine o.v1 (aW d.N fg dx (b8 _)) ?_;refine o.s1 (dy B (_) (bS {s with al:=K,ej:=R,bb:=ul,cu:=O,bW:=C,q:=Z,cB:=aB,el:=bm}) (iG _) dx (b8 _) ((c0 (b8 _).symm))) fun e2 bY=>?_;obtain⟨B,aa⟩:=bY;replace aa:=aa.bp;replace hu:=fun u=>(hu u).ab aa (az.J eO);replace M:=fun u=>(M u).ab aa (az.J g2);replace N:=fun y Q=>(N y Q).ab aa (az.J eN);replace aS:=fun u=>(aS u).ab aa (az.J eS);replace bn:=fun u=>(bn u).ab aa (az.J dB);replace bh:=fun x bX=>(bh x bX).ab aa (az.J dD);replace k:=k.bl aa (ag.J (aq.q dJ));have fG:=aa.size;refine o.nil (dF ?_);refine G.ret (eM .ret (.inr rfl) _ _ _ (jA rfl rfl B.N fg dx (b8 _)) ?_);exact⟨{s with al:=K,ej:=R,bb:=ul,cu:=O,bW:=C,q:=Z,cB:=aB,el:=bm},_,rfl,(fun _=>(⟨(hu ()).imp (fun b _ e=>cS b e),(M ()).imp (fun b _ e=>bM b e),(fun y hy=>(N y hy).imp (fun b _ e=>bM b e)),(aS ()).imp (fun b _ e=>cP b e),(bn ()).imp (fun b _ e=>((aZ b e).elim Or.inl (fun e=>Or.inr (by omega)))),(fun y hy=>(bh y hy).imp (fun b _ e=>((aZ b e).elim Or.inl (fun e=>Or.inr (by omega)))))⟩:e4 (fun b=>F b∨I.size≤b) _ {s with al:=K,ej:=R,bb:=ul,cu:=O,bW:=C,q:=Z,cB:=aB,el:=bm}).bt),(fun b e=>e.2),(fun b e=>e.1),by show dU.mk K (bN ul) (cm C) Z.p (cl bm)=_;rw[a8,a7,eL,eJ,eH];rfl,k⟩
end tY

namespace pA
open E Go.RowKit dz
def jO(n:Nat):List UInt8:=[UInt8.ofNat (n/2^24),UInt8.ofNat (n/2^16),UInt8.ofNat (n/2^8),UInt8.ofNat n]
def lk(v:Nat)(l:List UInt8):Nat:=l.foldl (fun v x=>v*256+x.toNat) v
theorem uE(n:Nat):(jO n).length=4:=rfl
theorem Fx(n:Nat)(h:n<18446744073709551616):cj 4 (UInt64.ofNat n)=jO n:=by
 have e:∀j,(iR (UInt64.ofNat n) j).toNat=n/2^j:=fun j=>by rw[ts,UInt64.toNat_ofNat',Nat.mod_eq_of_lt h]
 simp only[cj,e,jO];simp
theorem uJ:∀(l:List UInt8) (v:Nat),lk v l<(v+1)*256^l.length
 |[],v=>by simp[lk]
 |x::l,v=>by
  have d:=x.toNat_lt;have:=uJ l (v*256+x.toNat);have e:lk v (x::l)=lk (v*256+x.toNat) l:=rfl;rw[e,List.length_cons,Nat.pow_succ];refine Nat.lt_of_lt_of_le this ?_;have:v*256+x.toNat+1≤(v+1)*256:=by omega
  calc (v*256+x.toNat+1)*256^l.length≤((v+1)*256)*256^l.length:=Nat.mul_le_mul_right _ this
   _=(v+1)*(256^l.length*256):=by rw[Nat.mul_assoc,Nat.mul_comm 256]
theorem Ax(l:List UInt8)(h:l.length≤4):lk 0 l<4294967296:=by
 have:=uJ l 0;have U:256^l.length≤256^4:=Nat.pow_le_pow_right (by decide) h;omega
theorem s4(a:Nat)(x:UInt8):a*2^8|||x.toNat=a*256+x.toNat:=by
 rw[Nat.mul_comm,←Nat.two_pow_add_eq_or_of_lt x.toNat_lt]
end pA

namespace mw
open E Go.RowKit
def ik(x:UInt32)(j:Nat):UInt32:=jC x j|||m6 x (32-j)
theorem Aa:∀j:Nat,j<32→0<j→(UInt64.ofNat (18446744073709551616-j)&&&UInt64.ofNat 31)=UInt64.ofNat (32-j):=by decide+kernel
theorem GB(x:UInt32)(j:Nat)(w0:World)(I:Heap)
 (n:0<j) (q:j<32):
 aC Tryz.prog w0 280 #[.int .u32 x.toNat,.int .i64 (-(j:Int))] I (fun r d=>r= .int .u32 (ik x j).toNat∧d=I):=by
 refine aC.aK [.int .u32 x.toNat,.int .i64 (-(j:Int))] Tryz.func280 ?_;intro A t;refine G.L (fun i=>?_);refine o.aj ?_;refine i (G.L (fun k=>?_));refine o.W ?_;refine o.v1 (Y.conv rfl gl tP rfl) ?_;rw[show IntKind.u64.wrap (-(j:Int))=((UInt64.ofNat (18446744073709551616-j)).toNat:Int)by rw[wrap_u64,UInt64.toNat_ofNat'];omega];refine o.v1 (Y.Ab (b:=(UInt64.ofNat 31)) rfl rfl rfl) ?_;rw[Aa j q n];refine o.aj ?_;refine k (G.L (fun ac=>?_));refine o.ax 2 ?_;refine o.v1 (Y.q3 (32-j) rfl rfl rfl (by rw[UInt64.toNat_ofNat'];omega) (by omega)) ?_;refine o.ax 2 ?_;refine o.v1 (Y.Hv (a:=(UInt64.ofNat 32)) rfl rfl rfl) ?_;rw[show UInt64.ofNat 32-UInt64.ofNat (32-j)=UInt64.ofNat j from UInt64.toNat_inj.1 (by rw[UInt64.toNat_sub,UInt64.toNat_ofNat',UInt64.toNat_ofNat',UInt64.toNat_ofNat'];omega)];refine o.v1 (Y.q4 (j) rfl rfl rfl (by rw[UInt64.toNat_ofNat'];omega) (by omega)) ?_;refine o.v1 (Y.qO rfl rfl rfl) ?_;refine o.aj ?_;refine ac ?_;refine G.ret (t ?_);exact⟨by rw[ik,UInt32.or_comm],rfl⟩
theorem k5(x:UInt32)(j:Nat)(w0:World)(I:Heap)
 (n:0<j) (q:j<32):
 aC Tryz.prog w0 278 #[.int .u32 x.toNat,.int .i64 j] I (fun r d=>r= .int .u32 (ik x j).toNat∧d=I):=by
 refine aC.aK [.int .u32 x.toNat,.int .i64 j] Tryz.func278 ?_;intro B t;refine G.L (fun i=>?_);refine o.aj ?_;refine i (G.L (fun k=>?_));refine o.ax 2 ?_;refine o.v1 (Y.neg rfl rfl) ?_;rw[IntWalk.i64_in _ (by omega),Int.zero_sub];refine aV BL (GB x j w0 I n q) ?_;rintro C A ⟨rfl,rfl⟩;refine o.aj ?_;refine k ?_;refine G.ret (t ?_);exact⟨rfl,rfl⟩
def n8(a b c d:UInt8):UInt32:=m6 (UInt32.ofNat a.toNat) 24|||m6 (UInt32.ofNat b.toNat) 16|||m6 (UInt32.ofNat c.toNat) 8|||UInt32.ofNat d.toNat
theorem Ic(v:Value)(l:List UInt8)(w0:World)(I:Heap)
 (d:bw I a1 1 v l) (H:4≤l.length):
 aC Tryz.prog w0 277 #[v] I (fun r i=>r= .int .u32 (n8 l[0] l[1] l[2] l[3]).toNat∧i=I):=by
 refine aC.aK [v] Tryz.func277 ?_;intro A x;refine G.L (fun ac=>?_);refine o.aj ?_;refine ac (G.t1 (fun n=>?_));refine hf ?_;refine o.W ?_;refine o.bR (Y.indexAddr d (0) rfl db cL rfl rfl (by first|rfl|omega) (by first|omega|(simp;omega)|(simp;done))) fun E q=>?_;refine o.v1 (ar q dQ) ?_;refine o.v1 (Y.p5 rfl jF pt rfl) ?_;refine o.v1 (Y.q3 (24) rfl rfl rfl (by first|rfl|omega) (by omega)) ?_;refine o.W ?_;refine o.bR (Y.indexAddr d (1) rfl db cL rfl rfl (by first|rfl|omega) (by first|omega|(simp;omega)|(simp;done))) fun F t=>?_;refine o.v1 (ar t dQ) ?_;refine o.v1 (Y.p5 rfl jF pt rfl) ?_;refine o.v1 (Y.q3 (16) rfl rfl rfl (by first|rfl|omega) (by omega)) ?_;refine o.v1 (Y.qO rfl rfl rfl) ?_;refine o.W ?_;refine o.bR (Y.indexAddr d (2) rfl db cL rfl rfl (by first|rfl|omega) (by first|omega|(simp;omega)|(simp;done))) fun B j=>?_;refine o.v1 (ar j dQ) ?_;refine o.v1 (Y.p5 rfl jF pt rfl) ?_;refine o.v1 (Y.q3 (8) rfl rfl rfl (by first|rfl|omega) (by omega)) ?_;refine o.v1 (Y.qO rfl rfl rfl) ?_;refine o.W ?_;refine o.bR (Y.indexAddr d (3) rfl db cL rfl rfl (by first|rfl|omega) (by first|omega|(simp;omega)|(simp;done))) fun C k=>?_;refine o.v1 (ar k dQ) ?_;refine o.v1 (Y.p5 rfl jF pt rfl) ?_;refine o.v1 (Y.qO rfl rfl rfl) ?_;refine o.aj ?_;refine n ?_;refine G.ret (x ?_);exact⟨rfl,rfl⟩
end mw

namespace lJ
open E Go.RowKit mw
abbrev fe(x:UInt32):Value:= .int .u32 x.toNat
abbrev hE(x:UInt8):Value:= .int .u8 x.toNat
structure fZ where
 a:UInt32
 b:UInt32
 c:UInt32
 d:UInt32
 e:UInt32
 f:UInt32
 g:UInt32
 h:UInt32
abbrev fZ.list(s:fZ):List UInt32:=[s.a,s.b,s.c,s.d,s.e,s.f,s.g,s.h]
abbrev fZ.cells(s:fZ):List Value:=[fe s.a,fe s.b,fe s.c,fe s.d,fe s.e,fe s.f,fe s.g,fe s.h]
def one(s:fZ)(k w:UInt32):UInt32:=s.h+(ik s.e 6^^^ik s.e 11^^^ik s.e 25)+(s.e&&&s.f^^^ ~~~s.e&&&s.g)+k+w
def two(s:fZ):UInt32:=(ik s.a 2^^^ik s.a 13^^^ik s.a 22)+(s.a&&&s.b^^^s.a&&&s.c^^^s.b&&&s.c)
def pd(s:fZ)(k w:UInt32):fZ:=⟨one s k w+two s,s.a,s.b,s.c,s.d+one s k w,s.e,s.f,s.g⟩
def grow(w:List UInt32):List UInt32:=w++[w.getD (w.length-16) 0+(ik (w.getD (w.length-15) 0) 7^^^ik (w.getD (w.length-15) 0) 18^^^jC (w.getD (w.length-15) 0) 3)+w.getD (w.length-7) 0+(ik (w.getD (w.length-2) 0) 17^^^ik (w.getD (w.length-2) 0) 19^^^jC (w.getD (w.length-2) 0) 10)]
def q1(w0:List UInt32):Nat→List UInt32
 |0=>w0
 |n+1=>grow (q1 w0 n)
def nB(b:List UInt8)(n:Nat):List UInt32:=(List.range n).map (fun i=>n8 (b.getD (4*i) 0) (b.getD (4*i+1) 0) (b.getD (4*i+2) 0) (b.getD (4*i+3) 0))
def jI:List UInt32:=[0x428a2f98,0x71374491,0xb5c0fbcf,0xe9b5dba5,0x3956c25b,0x59f111f1,0x923f82a4,0xab1c5ed5,0xd807aa98,0x12835b01,0x243185be,0x550c7dc3,0x72be5d74,0x80deb1fe,0x9bdc06a7,0xc19bf174,0xe49b69c1,0xefbe4786,0xfc19dc6,0x240ca1cc,0x2de92c6f,0x4a7484aa,0x5cb0a9dc,0x76f988da,0x983e5152,0xa831c66d,0xb00327c8,0xbf597fc7,0xc6e00bf3,0xd5a79147,0x6ca6351,0x14292967,0x27b70a85,0x2e1b2138,0x4d2c6dfc,0x53380d13,0x650a7354,0x766a0abb,0x81c2c92e,0x92722c85,0xa2bfe8a1,0xa81a664b,0xc24b8b70,0xc76c51a3,0xd192e819,0xd6990624,0xf40e3585,0x106aa070,0x19a4c116,0x1e376c08,0x2748774c,0x34b0bcb5,0x391c0cb3,0x4ed8aa4a,0x5b9cca4f,0x682e6ff3,0x748f82ee,0x78a5636f,0x84c87814,0x8cc70208,0x90befffa,0xa4506ceb,0xbef9a3f7,0xc67178f2]
def ti(s:fZ)(w:List UInt32):Nat→fZ
 |0=>s
 |n+1=>pd (ti s w n) (jI.getD n 0) (w.getD n 0)
def uo(s t:fZ):fZ:=⟨s.a+t.a,s.b+t.b,s.c+t.c,s.d+t.d,s.e+t.e,s.f+t.f,s.g+t.g,s.h+t.h⟩
def compress(s:fZ)(b:List UInt8):fZ:=uo s (ti s (q1 (nB b 16) 48) 64)
theorem GC (w0:World)(I:Heap)
 :
 aC Tryz.prog w0 279 #[] I (fun r i=>r= .agg (jI.map fe).toArray∧ak I i):=by
 refine aC.enter (args:=[]) Tryz.func279 rfl rfl rfl ?_;intro B q;refine G.L (fun n=>?_);refine o.aO (cQ zG) ?_;rintro F j ⟨rfl,d,A,E,C⟩;replace d:Var 335 j I.size (List.replicate 64 (fe 0)):=d;refine o.nil (n (G.L (fun ac=>?_)));refine o.v1 (Y.build (v:= .agg (jI.map fe).toArray) rfl rfl (by intro w;kernel_rfl)) ?_;refine o.s1 (S.var d (jI.map fe) (jI.map fe) rfl rfl rfl rfl (by intro u hu;obtain⟨x,_,rfl⟩:=List.mem_map.1 hu;rfl) yC (rfl) (Nat.le_of_ble_eq_true rfl) (by kernel_rfl)) fun ad k=>?_;obtain⟨d,t⟩:=k;refine o.nil (ac ?_);refine G.ret (q .ret (.inr rfl) _ _ _ (jA rfl rfl d.N zR yC (by first|rfl|simp)) ?_);exact⟨rfl,A.trans t (fun _ _ e=>e) (fun b aw e=>by omega)⟩
end lJ

namespace mx
open E Go.RowKit mw lJ
theorem l2(w:List UInt32)(j:Nat)(h:j<w.length):(w.map fe)[j]?=some (fe (w.getD j 0)):=by simp[h]
theorem map_set(w:List UInt32)(j:Nat)(x:UInt32):(w.map fe).set (0+j) (fe x)=(w.set j x).map fe:=by rw[Nat.zero_add,List.map_set]
theorem tI{α:Type}(w:List α)(j:Nat)(x:α)(h:j<w.length):(w.set j x).take (j+1)=w.take j++[x]:=by
 rw[List.take_succ_eq_append_getElem (by simpa using h),List.take_set];rw[List.set_eq_of_length_le (by simp;omega)];simp
theorem getD_take(w:List UInt32)(j k:Nat)(h:j<k):(w.take k).getD j 0=w.getD j 0:=by
 simp[List.getD,List.getElem?_take,h]
theorem Dn(b:List UInt8)(n:Nat):nB b (n+1)=nB b n++[n8 (b.getD (4*n) 0) (b.getD (4*n+1) 0) (b.getD (4*n+2) 0) (b.getD (4*n+3) 0)]:=by
 unfold nB;rw[List.range_succ,List.map_append];rfl
def mX(w:List UInt32)(i:Nat):UInt32:=w.getD (i-16) 0+(ik (w.getD (i-15) 0) 7^^^ik (w.getD (i-15) 0) 18^^^jC (w.getD (i-15) 0) 3)+w.getD (i-7) 0+(ik (w.getD (i-2) 0) 17^^^ik (w.getD (i-2) 0) 19^^^jC (w.getD (i-2) 0) 10)
theorem DC(w:List UInt32)(i:Nat)(j:16≤i)(h:i≤w.length):grow (w.take i)=w.take i++[mX w i]:=by
 unfold grow mX;have d:(w.take i).length=i:=by simp;omega
 rw[d,getD_take w (i-16) i (by omega),getD_take w (i-15) i (by omega),getD_take w (i-7) i (by omega),getD_take w (i-2) i (by omega)]
abbrev av(s:List UInt32)(wt:List UInt8)(n:Nat)(au:UInt64):List Value:=s.map fe++wt.map hE++[.int .i64 n,.int .u64 au.toNat]
theorem lp{s:List UInt32}{wt:List UInt8}{n:Nat}{au:UInt64}(ao:s.length=8)(hw:wt.length=64):(av s wt n au).length=74:=by simp[ao,hw]
theorem wN{s:List UInt32}{wt:List UInt8}{n:Nat}{au:UInt64}(ao:s.length=8)(i:Nat)(x:UInt8)(h:wt[i]?=some x):((av s wt n au).drop 8)[i]?=(a1 x)[0]?∧(a1 x).length=1:=by
 refine⟨?_,rfl⟩;have d:=(List.getElem?_eq_some_iff.1 h).1;have:(s.map fe).length=8:=by simpa using ao
 rw[av,List.append_assoc,List.drop_left' this,List.getElem?_append_left (by simpa using d)];simp[h]
theorem qo{s:List UInt32}{wt:List UInt8}{n:Nat}{au:UInt64}(ao:s.length=8)(hw:wt.length=64):(av s wt n au)[72]?=some (.int .i64 n):=by
 rw[av,List.getElem?_append_right (by simp[ao,hw])];simp[ao,hw]
theorem wL{s:List UInt32}{wt:List UInt8}{n:Nat}{au:UInt64}(ao:s.length=8)(hw:wt.length=64):(av s wt n au)[73]?=some (.int .u64 au.toNat):=by
 rw[av,List.getElem?_append_right (by simp[ao,hw])];simp[ao,hw]
theorem wM{s:List UInt32}{wt:List UInt8}{n m:Nat}{au:UInt64}(ao:s.length=8)(hw:wt.length=64):(av s wt n au).set 72 (.int .i64 m)=av s wt m au:=by
 rw[av,List.set_append_right _ _ (by simp[ao,hw])];simp[ao,hw]
theorem DF{s:List UInt32}{wt:List UInt8}{n:Nat}{au be:UInt64}(ao:s.length=8)(hw:wt.length=64):(av s wt n au).set 73 (.int .u64 be.toNat)=av s wt n be:=by
 rw[av,List.set_append_right _ _ (by simp[ao,hw])];simp[ao,hw]
theorem DI{s:List UInt32}{wt:List UInt8}{n:Nat}{au:UInt64}(i:Nat)(d:i<s.length):(av s wt n au)[i]?=some (fe (s.getD i 0)):=by
 rw[av,List.append_assoc,List.getElem?_append_left (by simpa using d)];simp[d]
theorem DG{s:List UInt32}{wt:List UInt8}{n:Nat}{au:UInt64}(i:Nat)(d:i<s.length)(x:UInt32):(av s wt n au).set (0+i) (fe x)=av (s.set i x) wt n au:=by
 rw[av,List.append_assoc,List.set_append_left _ _ (by simpa using d),Nat.zero_add,←List.append_assoc,av,List.map_set]
theorem Ib(wt:List UInt8)(i:Nat)(h:wt.length=64)(d:i<16)(n:4≤((wt.take 64).drop (4*i)).length):n8 ((wt.take 64).drop (4*i))[0] ((wt.take 64).drop (4*i))[1] ((wt.take 64).drop (4*i))[2] ((wt.take 64).drop (4*i))[3]=n8 (wt.getD (4*i) 0) (wt.getD (4*i+1) 0) (wt.getD (4*i+2) 0) (wt.getD (4*i+3) 0):=by
 have:∀j,j<4→∀(U:j<((wt.take 64).drop (4*i)).length),((wt.take 64).drop (4*i))[j]=wt.getD (4*i+j) 0:=by
  intro j k U;rw[List.getElem_drop,List.getElem_take];simp[List.getD,show 4*i+j<wt.length by omega]
 rw[this 0 (by omega),this 1 (by omega),this 2 (by omega),this 3 (by omega)];rfl
def lQ(a b:List UInt32)(i:Nat):List UInt32:=(List.zipWith (·+ ·) (a.take i) (b.take i))++a.drop i
theorem zW(a b:List UInt32)(i:Nat)(d:a.length=8)(aw:b.length=8)(j:i≤8):(lQ a b i).length=8:=by simp[lQ,d,aw];omega
theorem zV(a b:List UInt32)(i:Nat)(d:a.length=8)(aw:b.length=8)(k:i<8):(lQ a b i).getD i 0=a.getD i 0:=by
 have j:(List.zipWith (·+ ·) (a.take i) (b.take i)).length=i:=by simp[d,aw];omega
 simp only[lQ,List.getD];rw[List.getElem?_append_right (by omega),j,Nat.sub_self,List.getElem?_drop,Nat.add_zero]
theorem zX(a b:List UInt32)(i:Nat)(d:a.length=8)(aw:b.length=8)(j:i<8):(lQ a b i).set i (a.getD i 0+b.getD i 0)=lQ a b (i+1):=by
 have k:(List.zipWith (·+ ·) (a.take i) (b.take i)).length=i:=by simp[d,aw];omega
 unfold lQ;rw[List.set_append_right _ _ (by omega),k,Nat.sub_self,List.drop_eq_getElem_cons (show i<a.length by omega),List.set_cons_zero,List.take_succ_eq_append_getElem (show i<a.length by omega),List.take_succ_eq_append_getElem (show i<b.length by omega),List.zipWith_append (by simp;omega),List.append_assoc];simp[List.getD,d,aw,j]
theorem AA(aw:Nat)(st:fZ)(wt:List UInt8)(n:Nat)(au:UInt64)(w0:World)(I:Heap)
 (A:Var 356 I aw (av st.list wt n au)) (hw:wt.length=64):
 aC Tryz.prog w0 273 #[.pointer (some ⟨aw,0,none⟩)] I (fun r K=>r= .tuple #[]∧Var 356 K aw (av (compress st wt).list wt 0 au)∧V (fun c=>c=aw) I K):=by
 refine aC.enter (args:=[.pointer (some ⟨aw,0,none⟩)]) Tryz.func273 rfl rfl rfl ?_;intro cP cH;have dq:=A.lt;have cI:st.list.length=8:=rfl;refine G.L (fun bH=>?_);refine o.aO (cQ zG) ?_;rintro v2 K ⟨rfl,B,X,c3,bJ⟩;replace A:=A.M X;replace B:Var 335 K I.size ((List.replicate 64 (0:UInt32)).map fe):=B;have c5:K.size=I.size+1:=by rw[bJ];simp
 refine o.nil (bH (G.t1 (fun bL=>G.L (fun bM=>?_))));refine o.W (o.nil (bM ?_));refine G.aB (fun _ bN _=>?_)
 refine G.bd (fun(W:(Nat)×(List UInt32))=>match W with|(i,w)=>[(0,.pointer (some ⟨aw,0,none⟩)),(2,.pointer (some ⟨I.size,0,none⟩)),(14,.int .i64 i)])
  (fun(i,w) (H:Heap)=>i≤16∧w.length=64∧w.take i=nB wt i∧Var 335 H I.size (w.map fe)∧V (fun c=>c=I.size) K H)
  (fun(i,w)=>16-i) (0,List.replicate 64 0) ⟨rfl,rfl,rfl,trivial⟩ ?_ ?_
 ·
  exact⟨by omega,by simp,rfl,B,V.refl _ _⟩
 rintro⟨i,w⟩ H1 bO cO bP bQ;obtain⟨cz,aa,E,B,hm⟩:=bO;replace A:=A.up hm (by omega);refine G.L (fun bR=>?_);refine o.v1 bG (o.nil (bR ?_));refine G.t2 (fun bS bU=>?_);refine aT (fun bV=>?_) (fun bV=>?_)
 ·
  refine G.skip (bS (G.t1 (fun bX=>G.aB (fun bZ _ _=>G.L (fun aJ=>?_)))));refine o.aR 2 ?_;refine aJ (G.region ?_);refine o.ax 3 ?_;refine o.v1 (Y.ai A.N rfl iU rfl yD) ?_;refine o.W ?_;refine o.v1 (Y.jz rfl rfl rfl (by omega)) ?_;refine o.aK (g:=fun v=>v) (Y.pk (F:=fun c=>c=aw) (f:=a1) (xs:=wt) (A.N.drop 8) rfl A.lt (hw) (fun i x h=>wN cI i x h) (4*i) (64) rfl (fun w=> .inl (zk w)) cL rfl (.inr ⟨_,_,_,rfl,rfl,by first|rfl|omega⟩) (.inl ⟨rfl,rfl⟩) (by omega) (by omega) (by decide)) fun ce cM=>?_;refine aV BJ (Ic _ _ w0 H1 cM.any (by simp;omega)) (fun c6 c_ b0=>?_);obtain⟨rfl,rfl⟩:=b0;rw[Ib wt i hw (by omega)];refine o.v1 (eU B.N (i) mc eu) ?_;refine o.s1 (dh B (0+(i)) (_) (rfl) eu (by simp;omega) (map_set w i _)) fun cV aK=>?_;obtain⟨B,aj⟩:=aK;replace hm:=hm.trans aj (fun _ _ e=>e) (fun _ _ e=>e);refine o.nil (bZ (bX (G.region ?_)));refine o.v1 bD ?_;refine o.W (o.nil ?_);refine aP.sub (bP (i+1,w.set i (n8 (wt.getD (4*i) 0) (wt.getD (4*i+1) 0) (wt.getD (4*i+2) 0) (wt.getD (4*i+3) 0))) _ ?_ ?_) ⟨rfl,rfl,(aD (by omega)),trivial⟩
  ·exact⟨by omega,by simp[aa],by rw[tI _ _ _ (by omega),Dn,E],B,hm⟩
  ·show 16-(i+1)<16-i;omega
 ·
  have cC:i=16:=by omega
  subst cC;refine G.exit (bU (bQ (bN ?_)));refine bL (G.t1 (fun aL=>G.L (fun aM=>?_)));refine o.aj ?_;refine aM (G.aB (fun _ aN _=>?_))
  refine G.bd (fun(W:(Nat)×(List UInt32))=>match W with|(i,w)=>[(0,.pointer (some ⟨aw,0,none⟩)),(2,.pointer (some ⟨I.size,0,none⟩)),(4,.int .i64 i)])
   (fun(i,w) (H:Heap)=>16≤i∧i≤64∧w.length=64∧w.take i=q1 (nB wt 16) (i-16)∧Var 335 H I.size (w.map fe)∧V (fun c=>c=I.size) H1 H)
   (fun(i,w)=>64-i) (16,w) ⟨rfl,rfl,rfl,trivial⟩ ?_ ?_
  ·
   exact⟨by omega,by omega,aa,E,B,V.refl _ _⟩
  rintro⟨i,w⟩ Q b2 dX aO aQ;obtain⟨cB,cz,aa,E,B,T⟩:=b2;replace A:=A.up T (by omega);refine G.t2 (fun aR aS=>G.L (fun aX=>?_));refine o.W ?_;refine o.v1 bG (o.nil (aX ?_));refine aT (fun b3=>?_) (fun b3=>?_)
  ·
   refine G.skip (aR (G.t1 (fun aY=>G.aB (fun aZ _ _=>G.t1 (fun a6=>?_)))));refine hf ?_;refine o.W ?_;refine o.v1 fE ?_;refine o.v1 (Y.ox B.N (i-15) rfl mc eu rfl rfl (by omega) (by first|omega|(simp;omega)|(simp;done))) ?_;refine o.v1 (ar (B.N.at (i-15) (l2 w (i-15) (by omega))) e7) ?_;refine o.W ?_;refine o.v1 fE ?_;refine o.v1 (Y.ox B.N (i-2) rfl mc eu rfl rfl (by omega) (by first|omega|(simp;omega)|(simp;done))) ?_;refine o.v1 (ar (B.N.at (i-2) (l2 w (i-2) (by omega))) e7) ?_;refine o.aR 2 ?_;refine a6 ?_;refine dC (fun j=>ak Q j) [29] ?_;have k:=ak.refl Q;refine O.W 0 rfl k ?_;refine O.W 1 rfl k ?_;refine O.t1 2 rfl (fun j d=>fE) k ?_;refine O.t1 3 rfl (fun j d=>Y.ox (B.N.M d) (i-16) rfl mc eu rfl rfl (by omega) (by first|omega|(simp;omega)|(simp;done))) k ?_;refine O.t1 4 rfl (fun j d=>ar ((B.N.at (i-16) (l2 w (i-16) (by omega))).M d) e7) k ?_;refine O.W 5 rfl k ?_;refine O.W 7 rfl k ?_;refine O.W 10 rfl k ?_;refine O.t1 11 rfl (fun j d=>Y.q4 (3) rfl rfl rfl (by first|rfl|omega) (by omega)) k ?_;refine O.W 14 rfl k ?_;refine O.t1 15 rfl (fun j d=>fE) k ?_;refine O.t1 16 rfl (fun j d=>Y.ox (B.N.M d) (i-7) rfl mc eu rfl rfl (by omega) (by first|omega|(simp;omega)|(simp;done))) k ?_;refine O.t1 17 rfl (fun j d=>ar ((B.N.at (i-7) (l2 w (i-7) (by omega))).M d) e7) k ?_;refine O.W 19 rfl k ?_;refine O.W 21 rfl k ?_;refine O.W 24 rfl k ?_;refine O.t1 25 rfl (fun j d=>Y.q4 (10) rfl rfl rfl (by first|rfl|omega) (by omega)) k ?_;refine O.aY 6 ?_;refine ch kI (k5 _ 7 w0 _ (by omega) (by omega)) (fun ci b4 b5=>?_);obtain⟨rfl,rfl⟩:=b5;have a7:=ak.refl b4;have ap:=k.L a7;refine⟨.inr ap,?_⟩;refine O.aY 8 ?_;refine ch kI (k5 _ 18 w0 _ (by omega) (by omega)) (fun da b6 b7=>?_);obtain⟨rfl,rfl⟩:=b7;have a8:=ak.refl b6;have ac:=ap.L a8;refine⟨.inr ac,?_⟩;refine O.t1 9 rfl (fun j d=>Y.kB rfl rfl rfl) ac ?_;refine O.t1 12 rfl (fun j d=>Y.kB rfl rfl rfl) ac ?_;refine O.t1 13 rfl (fun j d=>Y.kj rfl rfl rfl) ac ?_;refine O.t1 18 rfl (fun j d=>Y.kj rfl rfl rfl) ac ?_;refine O.aY 20 ?_;refine ch kI (k5 _ 17 w0 _ (by omega) (by omega)) (fun db b8 b9=>?_);obtain⟨rfl,rfl⟩:=b9;have a_:=ak.refl b8;have aq:=ac.L a_;refine⟨.inr aq,?_⟩;refine O.aY 22 ?_;refine ch kI (k5 _ 19 w0 _ (by omega) (by omega)) (fun dc b_ ca=>?_);obtain⟨rfl,rfl⟩:=ca;have ba:=ak.refl b_;have ad:=aq.L ba;refine⟨.inr ad,?_⟩;refine O.t1 23 rfl (fun j d=>Y.kB rfl rfl rfl) ad ?_;refine O.t1 26 rfl (fun j d=>Y.kB rfl rfl rfl) ad ?_;refine O.t1 27 rfl (fun j d=>Y.kj rfl rfl rfl) ad ?_;refine O.t1 28 rfl (fun j d=>eU (B.N.M d) (i) mc eu) ad ?_;refine O.aY 29 ?_;refine gJ rfl (dh B (0+(i)) (_) (rfl) eu (by simp;omega) (map_set w i _)) (fun cT bk=>?_);obtain⟨B,aj⟩:=bk;refine⟨.inl rfl,?_⟩;refine cD ?_;have aA:=ad;refine aZ (aY (G.region ?_));refine o.W ?_;refine o.v1 bD ?_;refine o.aj ?_;refine aP.sub (aO (i+1,w.set i (mX w i)) _ ?_ ?_) ⟨rfl,rfl,(aD (by omega)),trivial⟩
   ·exact⟨by omega,by omega,by simp[aa],by rw[tI _ _ _ (by omega),E,show i+1-16=(i-16)+1 by omega,q1,←E,DC w i cB (by omega)],B,T.trans aj (fun _ _ e=>e) (fun _ _ e=>e)⟩
   ·show 64-(i+1)<64-i;omega
  ·
   have ai:i=64:=by omega
   subst ai;rw[List.take_of_length_le (by omega)]at E;refine G.exit (aS (aQ (aN ?_)));refine aL (G.L (fun bb=>?_));refine o.ax 2 ?_;refine o.v1 (Y.ai A.N rfl iU rfl lA) ?_;refine o.v1 (aW (A.N.take 8) rF lA (rfl)) ?_;have dr:=B.lt;refine o.aO (cQ Il) ?_;rintro dD cN ⟨rfl,t,R,de,df⟩;replace A:=A.M R;replace B:=B.M R;refine o.s1 (S.var t (st.cells) (st.cells) rfl rfl rfl rfl (by simp[Value.oneCell']) lA (rfl) (Nat.le_of_ble_eq_true rfl) (rfl)) fun c0 bm=>?_;obtain⟨t,P⟩:=bm;replace A:=A.up P (by omega);replace B:=B.up P (by omega);refine o.nil (bb (G.t1 (fun bc=>G.L (fun bd=>?_))));refine aV BK (GC w0 _) (fun co bt bu=>?_);obtain⟨rfl,L⟩:=bu;replace A:=A.M L;replace B:=B.M L;replace t:=t.M L;refine o.W (o.nil (bd ?_));refine G.aB (fun _ bf _=>?_)
   refine G.bd (fun(W:(Nat)×(fZ))=>match W with|(i,q)=>[(0,.pointer (some ⟨aw,0,none⟩)),(2,.pointer (some ⟨I.size,0,none⟩)),(7,.pointer (some ⟨Q.size,0,none⟩)),(72,.agg (jI.map fe).toArray),(73,.int .i64 i)])
    (fun(i,q) (H:Heap)=>i≤64∧q=ti st w i∧Var 336 H Q.size q.cells∧V (fun c=>c=Q.size) bt H)
    (fun(i,q)=>64-i) (0,st) ⟨rfl,rfl,rfl,rfl,rfl,trivial⟩ ?_ ?_
   ·
    exact⟨by omega,rfl,t,V.refl _ _⟩
   rintro⟨i,q⟩ ab bw dg bg bh;obtain⟨dp,a0,t,M⟩:=bw;replace A:=A.up M (by omega);replace B:=B.up M (by omega);refine G.L (fun a2=>?_);refine o.v1 bG (o.nil (a2 ?_));refine G.t2 (fun a3 a4=>?_);refine aT (fun bx=>?_) (fun bx=>?_)
   ·
    refine G.skip (a3 (G.t1 (fun a5=>G.aB (fun aF _ _=>G.L (fun aH=>?_)))));refine o.W ?_;refine o.v1 (Y.rL (i) rfl mc eu e7 rfl rfl (by first|rfl|omega) (by omega) (by rw[List.getElem?_toArray];exact l2 jI i (by simp[jI];omega))) ?_;refine o.aR 2 ?_;refine aH (G.t1 (fun aI=>?_));refine dC (fun j=>ak ab j) [] ?_;have k:=ak.refl ab;refine O.t1 0 rfl (fun j d=>eU (t.N.M d) (7) fV eu) k ?_;refine O.t1 1 rfl (fun j d=>ar ((t.N.drop 7).M d) e7) k ?_;refine O.t1 2 rfl (fun j d=>eU (t.N.M d) (4) fV eu) k ?_;refine O.t1 3 rfl (fun j d=>ar ((t.N.drop 4).M d) e7) k ?_;refine O.t1 5 rfl (fun j d=>eU (t.N.M d) (4) fV eu) k ?_;refine O.t1 6 rfl (fun j d=>ar ((t.N.drop 4).M d) e7) k ?_;refine O.t1 9 rfl (fun j d=>eU (t.N.M d) (4) fV eu) k ?_;refine O.t1 10 rfl (fun j d=>ar ((t.N.drop 4).M d) e7) k ?_;refine O.t1 14 rfl (fun j d=>eU (t.N.M d) (4) fV eu) k ?_;refine O.t1 15 rfl (fun j d=>ar ((t.N.drop 4).M d) e7) k ?_;refine O.t1 16 rfl (fun j d=>eU (t.N.M d) (5) fV eu) k ?_;refine O.t1 17 rfl (fun j d=>ar ((t.N.drop 5).M d) e7) k ?_;refine O.t1 18 rfl (fun j d=>Y.ot rfl rfl rfl) k ?_;refine O.t1 19 rfl (fun j d=>eU (t.N.M d) (4) fV eu) k ?_;refine O.t1 20 rfl (fun j d=>ar ((t.N.drop 4).M d) e7) k ?_;refine O.t1 21 rfl (fun j d=>Y.Fq rfl rfl) k ?_;refine O.t1 22 rfl (fun j d=>eU (t.N.M d) (6) fV eu) k ?_;refine O.t1 23 rfl (fun j d=>ar ((t.N.drop 6).M d) e7) k ?_;refine O.t1 24 rfl (fun j d=>Y.ot rfl rfl rfl) k ?_;refine O.t1 25 rfl (fun j d=>Y.kB rfl rfl rfl) k ?_;refine O.W 27 rfl k ?_;refine O.W 29 rfl k ?_;refine O.t1 30 rfl (fun j d=>eU (B.N.M d) (i) mc eu) k ?_;refine O.t1 31 rfl (fun j d=>ar ((B.N.at (i) (l2 w i (by omega))).M d) e7) k ?_;refine O.aY 4 ?_;refine ch kI (k5 _ 6 w0 _ (by omega) (by omega)) (fun di bz bA=>?_);obtain⟨rfl,rfl⟩:=bA;have a9:=ak.refl bz;have ay:=k.L a9;refine⟨.inr ay,?_⟩;refine O.aY 7 ?_;refine ch kI (k5 _ 11 w0 _ (by omega) (by omega)) (fun dj bC bE=>?_);obtain⟨rfl,rfl⟩:=bE;have bj:=ak.refl bC;have af:=ay.L bj;refine⟨.inr af,?_⟩;refine O.t1 8 rfl (fun j d=>Y.kB rfl rfl rfl) af ?_;refine O.aY 11 ?_;refine ch kI (k5 _ 25 w0 _ (by omega) (by omega)) (fun cs ag bF=>?_);obtain⟨rfl,rfl⟩:=bF;have cb:=ak.refl ag;have C:=af.L cb;refine⟨.inr C,?_⟩;refine O.t1 12 rfl (fun j d=>Y.kB rfl rfl rfl) C ?_;refine O.t1 13 rfl (fun j d=>Y.kj rfl rfl rfl) C ?_;refine O.t1 26 rfl (fun j d=>Y.kj rfl rfl rfl) C ?_;refine O.t1 28 rfl (fun j d=>Y.kj rfl rfl rfl) C ?_;refine O.t1 32 rfl (fun j d=>Y.kj rfl rfl rfl) C ?_;refine O.t1 33 rfl (fun j d=>ev) C ?_;refine cD ?_;have aA:=C;refine aI (G.t1 (fun cc=>?_));refine dC (fun j=>ak ag j) [] ?_;have k:=ak.refl ag;refine O.t1 0 rfl (fun j d=>eU (t.N.M d) (0) fV eu) k ?_;refine O.t1 1 rfl (fun j d=>ar (t.N.M d) e7) k ?_;refine O.t1 3 rfl (fun j d=>eU (t.N.M d) (0) fV eu) k ?_;refine O.t1 4 rfl (fun j d=>ar (t.N.M d) e7) k ?_;refine O.t1 7 rfl (fun j d=>eU (t.N.M d) (0) fV eu) k ?_;refine O.t1 8 rfl (fun j d=>ar (t.N.M d) e7) k ?_;refine O.t1 11 rfl (fun j d=>eU (t.N.M d) (0) fV eu) k ?_;refine O.t1 12 rfl (fun j d=>ar (t.N.M d) e7) k ?_;refine O.t1 13 rfl (fun j d=>eU (t.N.M d) (1) fV eu) k ?_;refine O.t1 14 rfl (fun j d=>ar ((t.N.drop 1).M d) e7) k ?_;refine O.t1 15 rfl (fun j d=>Y.ot rfl rfl rfl) k ?_;refine O.t1 16 rfl (fun j d=>eU (t.N.M d) (0) fV eu) k ?_;refine O.t1 17 rfl (fun j d=>ar (t.N.M d) e7) k ?_;refine O.t1 18 rfl (fun j d=>eU (t.N.M d) (2) fV eu) k ?_;refine O.t1 19 rfl (fun j d=>ar ((t.N.drop 2).M d) e7) k ?_;refine O.t1 20 rfl (fun j d=>Y.ot rfl rfl rfl) k ?_;refine O.t1 21 rfl (fun j d=>Y.kB rfl rfl rfl) k ?_;refine O.t1 22 rfl (fun j d=>eU (t.N.M d) (1) fV eu) k ?_;refine O.t1 23 rfl (fun j d=>ar ((t.N.drop 1).M d) e7) k ?_;refine O.t1 24 rfl (fun j d=>eU (t.N.M d) (2) fV eu) k ?_;refine O.t1 25 rfl (fun j d=>ar ((t.N.drop 2).M d) e7) k ?_;refine O.t1 26 rfl (fun j d=>Y.ot rfl rfl rfl) k ?_;refine O.t1 27 rfl (fun j d=>Y.kB rfl rfl rfl) k ?_;refine O.aY 2 ?_;refine ch kI (k5 _ 2 w0 _ (by omega) (by omega)) (fun cU bT be=>?_);obtain⟨rfl,rfl⟩:=be;have bn:=ak.refl bT;have an:=k.L bn;refine⟨.inr an,?_⟩;refine O.aY 5 ?_;refine ch kI (k5 _ 13 w0 _ (by omega) (by omega)) (fun cW bY cd=>?_);obtain⟨rfl,rfl⟩:=cd;have bp:=ak.refl bY;have ae:=an.L bp;refine⟨.inr ae,?_⟩;refine O.t1 6 rfl (fun j d=>Y.kB rfl rfl rfl) ae ?_;refine O.aY 9 ?_;refine ch kI (k5 _ 22 w0 _ (by omega) (by omega)) (fun c2 cf bi=>?_);obtain⟨rfl,rfl⟩:=bi;have bq:=ak.refl cf;have N:=ae.L bq;refine⟨.inr N,?_⟩;refine O.t1 10 rfl (fun j d=>Y.kB rfl rfl rfl) N ?_;refine O.t1 28 rfl (fun j d=>Y.kj rfl rfl rfl) N ?_;refine O.t1 29 rfl (fun j d=>ev) N ?_;refine cD ?_;have aA:=N;refine cc (G.region ?_);refine o.ax 2 ?_;refine o.v1 (Y.kj rfl rfl rfl) ?_;refine o.v1 (eU t.N (0) fV eu) ?_;refine o.v1 (ar t.N e7) ?_;refine o.v1 (eU t.N (1) fV eu) ?_;refine o.v1 (ar (t.N.drop 1) e7) ?_;refine o.v1 (eU t.N (2) fV eu) ?_;refine o.v1 (ar (t.N.drop 2) e7) ?_;refine o.v1 (eU t.N (3) fV eu) ?_;refine o.v1 (ar (t.N.drop 3) e7) ?_;refine o.W ?_;refine o.v1 (Y.kj rfl rfl rfl) ?_;refine o.v1 (eU t.N (4) fV eu) ?_;refine o.v1 (ar (t.N.drop 4) e7) ?_;refine o.v1 (eU t.N (5) fV eu) ?_;refine o.v1 (ar (t.N.drop 5) e7) ?_;refine o.v1 (eU t.N (6) fV eu) ?_;refine o.v1 (ar (t.N.drop 6) e7) ?_;refine o.v1 (Y.build (v:= .agg (pd q (jI.getD i 0) (w.getD i 0)).cells.toArray) rfl rfl (by intro w;kernel_rfl)) ?_;refine o.s1 (S.var t ((pd q (jI.getD i 0) (w.getD i 0)).cells) ((pd q (jI.getD i 0) (w.getD i 0)).cells) rfl rfl rfl rfl (by simp[Value.oneCell']) lA (rfl) (Nat.le_of_ble_eq_true rfl) (rfl)) fun cY bl=>?_;obtain⟨t,cJ⟩:=bl;refine o.nil (aF (a5 (G.region ?_)));refine o.v1 bD ?_;refine o.W (o.nil ?_);refine aP.sub (bg (i+1,pd q (jI.getD i 0) (w.getD i 0)) _ ?_ ?_) ⟨rfl,rfl,rfl,rfl,(aD (by omega)),trivial⟩
    ·exact⟨by omega,by rw[a0];rfl,t,M.trans cJ (fun _ _ e=>e) (fun _ _ e=>e)⟩
    ·show 64-(i+1)<64-i;omega
   ·
    have ai:i=64:=by omega
    subst ai;rw[E]at a0;have cy:(uo st q).list=(compress st wt).list:=by rw[a0];rfl
    refine G.exit (a4 (bh (bf ?_)));refine bc (G.t1 (fun aB=>G.L (fun cg=>?_)));refine o.v1 (aW t.N rF lA (rfl)) ?_;refine o.W (o.nil (cg ?_));refine G.aB (fun _ cj _=>?_)
    refine G.bd (fun(i:(Nat))=>[(0,.pointer (some ⟨aw,0,none⟩)),(160,.agg q.cells.toArray),(161,.int .i64 i)])
     (fun(i:(Nat)) (H:Heap)=>i≤8∧Var 356 H aw (av (lQ st.list q.list i) wt n au)∧V (fun c=>c=aw) ab H)
     (fun(i:(Nat))=>8-i) 0 ⟨rfl,rfl,rfl,trivial⟩ ?_ ?_
    ·
     exact⟨by omega,A,V.refl _ _⟩
    intro i dk cv bo cl cn;obtain⟨cE,A,Z⟩:=cv;have ah:=zW st.list q.list i rfl rfl cE;refine G.L (fun cp=>?_);refine o.v1 bG (o.nil (cp ?_));refine G.t2 (fun cq br=>?_);refine aT (fun cr=>?_) (fun cr=>?_)
    ·
     refine G.skip (cq (G.t1 (fun ct=>G.aB (fun cu _ _=>G.L (fun bv=>?_)))));refine o.W ?_;refine o.v1 (Y.rL (i) rfl fV eu e7 rfl rfl (by first|rfl|omega) (by omega) (by rw[List.getElem?_toArray];exact l2 q.list i (by simp;omega))) ?_;refine o.aR 2 ?_;refine bv ?_;refine iV 11 (fun cS cw=>?_);refine o.ax 3 ?_;refine o.v1 (Y.ai A.N rfl iU rfl lA) ?_;refine o.v1 (eU A.N (i) fV eu) ?_;refine o.v1 (ar (A.N.at (i) (DI i (by omega))) e7) ?_;rw[zV st.list q.list i rfl rfl (by omega)];refine o.W ?_;refine o.v1 (Y.kj rfl rfl rfl) ?_;refine o.bI ?_;refine o.v1 (Y.ai A.N rfl iU rfl lA) ?_;refine o.v1 (eU A.N (i) fV eu) ?_;refine o.nil (cw _ ?_);refine o.s1 (dh A (0+(i)) (_) (rfl) eu (by rw[lp ah hw];omega) (DG i (by omega) _)) fun cZ am=>?_;obtain⟨A,cK⟩:=am;refine o.nil (cu (ct (G.region ?_)));refine o.v1 bD ?_;refine o.W (o.nil ?_);refine aP.sub (cl (i+1) _ ?_ ?_) ⟨rfl,rfl,(aD (by omega)),trivial⟩
     ·exact⟨by omega,by rw[←zX st.list q.list i rfl rfl (by omega)];exact A,Z.trans cK (fun _ _ e=>e) (fun _ _ e=>e)⟩
     ·omega
    ·
     have cG:i=8:=by omega
     subst cG;refine G.exit (br (cn (cj ?_)));refine aB (G.region ?_);refine o.ax 2 ?_;refine o.v1 (Y.ai A.N rfl iU rfl b1) ?_;refine o.s1 (dh A 72 (_) (rfl) b1 (by rw[lp ah hw];omega) (wM (m:=0) ah hw)) fun c1 bs=>?_;obtain⟨A,aE⟩:=bs;refine o.nil ?_;refine cH .normal (.inl rfl) _ _ _ (iQ rfl) ?_;refine⟨rfl,by rw[←cy];exact A,⟨by have:=X.size;have:=hm.size;have:=T.size;have:=R.size;have:=P.size;have:=L.size;have:=M.size;have:=Z.size;have:=aE.size;omega,fun b dm az=>?_⟩⟩;have dt:=X.size;have dv:=hm.size;have dw:=T.size;have dx:=R.size;have dy:=P.size;have dz:=L.size;have dA:=M.size;have dB:=Z.size;rw[aE.same b (by omega) az,Z.same b (by omega) az,M.same b (by omega) (by omega),L.same b (by omega) (fun e=>e),P.same b (by omega) (by omega),R.same b (by omega) (fun e=>e),T.same b (by omega) (by omega),hm.same b (by omega) (by omega),X.same b (by omega) (fun e=>e)]
end mx

namespace nj
open E Go.RowKit mw lJ mx
def er:fZ:=⟨0x6a09e667,0xbb67ae85,0x3c6ef372,0xa54ff53a,0x510e527f,0x9b05688c,0x1f83d9ab,0x5be0cd19⟩
def run(s:fZ)(b:List UInt8):fZ×List UInt8:=if h:b.length<64 then(s,b)else run (compress s (b.take 64)) (b.drop 64)
termination_by b.length
decreasing_by simp; omega
theorem k0(s:fZ)(b:List UInt8)(h:b.length<64):run s b=(s,b):=by rw[run,dif_pos h]
theorem pe(s:fZ)(b:List UInt8)(h:64≤b.length):run s b=run (compress s (b.take 64)) (b.drop 64):=by rw[run,dif_neg (by omega)]
theorem GM:∀(n:Nat) (s:fZ) (b:List UInt8),b.length≤n→(run s b).2.length<64:=by
 intro n
 induction n with
 |zero=>intro s b h;rw[k0 s b (by omega)];simp;omega
 |succ n ih=>
  intro s b h;by_cases aw:b.length<64
  ·rw[k0 s b aw];exact aw
  ·rw[pe s b (by omega)];exact ih _ _ (by simp;omega)
theorem GH:∀(n:Nat) (s:fZ) (a b:List UInt8),a.length≤n→run s (a++b)=run (run s a).1 ((run s a).2++b):=by
 intro n
 induction n with
 |zero=>intro s a b h;rw[k0 s a (by omega)]
 |succ n ih=>
  intro s a b h;by_cases d:a.length<64
  ·rw[k0 s a d]
  ·rw[pe s a (by omega),pe s (a++b) (by simp;omega),List.take_append_of_le_length (by omega),List.drop_append_of_le_length (by omega)]
   exact ih _ _ _ (by simp;omega)
theorem yy(s:fZ)(a b:List UInt8):run s (a++b)=run (run s a).1 ((run s a).2++b):=GH _ s a b (Nat.le_refl _)
theorem yz(s:fZ)(b:List UInt8):(run s b).2.length<64:=GM _ s b (Nat.le_refl _)
theorem DH{s:List UInt32}{wt xs:List UInt8}{n m:Nat}{au:UInt64}(ao:s.length=8)(hw:wt.length=64)(h:m+xs.length≤64):ec (av s wt n au) (8+m) (xs.flatMap a1)=av s (wt.take m++xs++wt.drop (m+xs.length)) n au:=by
 have d:(s.map fe).length=8:=by simpa using ao
 have i:(xs.flatMap a1).length=xs.length:=by rw[length_flatMap eB,Nat.mul_one]
 have e:∀(wt:List UInt8),av s wt n au=s.map fe++(wt.map hE++[.int .i64 n,.int .u64 au.toNat]):=fun wt=>by rw[av,List.append_assoc]
 rw[ec,i,e,e,List.take_append,List.take_of_length_le (by omega),d,show 8+m-8=m by omega,List.drop_append,List.drop_of_length_le (by omega),d,List.nil_append,show 8+m+xs.length-8=m+xs.length by omega];rw[List.take_append_of_le_length (by simp;omega),List.drop_append_of_le_length (by simp;omega),oN];simp[List.map_append,List.map_take,List.map_drop]
structure js (H:Heap) (aw:Nat) (m:List UInt8) (au:UInt64):Prop where
 ex:∃wt:List UInt8,wt.length=64∧Var 356 H aw (av (run er m).1.list wt (run er m).2.length au)∧wt.take (run er m).2.length=(run er m).2
theorem js.M{H aa:Heap}{aw:Nat}{m:List UInt8}{au:UInt64}(h:js H aw m au)(s:ak H aa):js aa aw m au:=let⟨wt,d,U,i⟩:=h.ex;⟨wt,d,U.M s,i⟩
theorem js.up{H aa:Heap}{aw:Nat}{m:List UInt8}{au:UInt64}{S:Nat→Prop}(h:js H aw m au)(s:V S H aa)(j:¬S aw):js aa aw m au:=let⟨wt,d,U,i⟩:=h.ex;⟨wt,d,U.up s j,i⟩
theorem js.lt{H:Heap}{aw:Nat}{m:List UInt8}{au:UInt64}(h:js H aw m au):aw<H.size:=let⟨_,_,U,_⟩:=h.ex;U.lt
def cat(l:List (aM×List UInt8)):List UInt8:=l.flatMap (·.2)
theorem vv(l:List (aM×List UInt8))(k:Nat)(h:k<l.length):cat (l.take (k+1))=cat (l.take k)++(l[k]).2:=by
 unfold cat;rw[List.take_succ_eq_append_getElem h,List.flatMap_append];simp
theorem sU (w0:World)(I:Heap)
 :
 aC Tryz.prog w0 256 #[] I (fun r d=>r= .pointer (some ⟨I.size,0,none⟩)∧js d I.size [] 0∧ak I d∧d.size=I.size+1):=by
 refine aC.aK [] Tryz.func256 ?_;intro t q;refine G.L (fun k=>?_);refine o.aj ?_;refine k (G.L (fun n=>?_));refine o.v1 (Y.build (v:= .agg (er.list.map fe).toArray) rfl rfl (by intro w;kernel_rfl)) ?_;refine o.v1 (Y.build (v:= .agg (av er.list (List.replicate 64 0) 0 0).toArray) rfl rfl (by intro w;kernel_rfl)) ?_;refine o.aO cr ?_;rintro v3 j ⟨rfl,i,ac,x,ad⟩;replace i:Var 356 j I.size (av er.list (List.replicate 64 0) 0 0):=i;refine o.aj ?_;refine n ?_;refine G.ret (q ?_);exact⟨rfl,⟨List.replicate 64 0,by simp,by rw[k0 er [] (by simp)];exact i,by rw[k0 er [] (by simp)];rfl⟩,ac,by rw[ad];simp⟩
theorem GP{c x wt:List UInt8}{n:Nat}(aA:(run er c).2.length=n)(aw:wt.take n=(run er c).2)(hw:wt.length=64)(h:n+x.length<64):run er (c++x)=((run er c).1,wt.take n++x):=by
 rw[yy,k0 _ _ (by simp;omega),aw]
theorem GL{c x wt:List UInt8}{n:Nat}(aA:(run er c).2.length=n)(aw:wt.take n=(run er c).2)(hw:wt.length=64)(h:n+x.length=64):run er (c++x)=(compress (run er c).1 (wt.take n++x++wt.drop (n+x.length)),[]):=by
 have d:(wt.take n++x).length=64:=by simp;omega
 rw[yy,←aw,pe _ _ (by omega),List.take_of_length_le (by omega),List.drop_of_length_le (by omega),k0 _ _ (by simp),List.drop_of_length_le (show wt.length≤n+x.length by omega),List.append_nil]
theorem D1{wt x:List UInt8}{n:Nat}(hw:wt.length=64)(h:n+x.length≤64):(wt.take n++x++wt.drop (n+x.length)).length=64∧(wt.take n++x++wt.drop (n+x.length)).take (n+x.length)=wt.take n++x:=by
 have d:(wt.take n++x).length=n+x.length:=by simp;omega
 exact⟨by simp;omega,List.take_left' d⟩
theorem rj(aw:Nat)(M:Value)(m:List UInt8)(au:UInt64)(l:List (aM×List UInt8))(w0:World)(I:Heap)
 (E:js I aw m au) (Q:Rd (fun b=>b≠aw) I iF 1 M l) (bd:∀x∈l,Rd (fun b=>b≠aw) I a1 1 x.1.v x.2):
 aC Tryz.prog w0 257 #[.pointer (some ⟨aw,0,none⟩),M] I (fun r R=>r= .tuple #[]∧js R aw (m++cat l) (au+UInt64.ofNat (cat l).length)∧V (fun c=>c=aw) I R):=by
 refine aC.enter (args:=[.pointer (some ⟨aw,0,none⟩),M]) Tryz.func257 rfl rfl rfl ?_;intro bg bb;have bx:=Q.len;refine G.L (fun aZ=>?_);refine o.W ?_;refine o.v1 (ba Q h6) ?_;refine o.W (o.nil (aZ ?_));refine G.aB (fun _ a6 _=>?_)
 refine G.bd (fun(k:(Nat))=>[(0,.pointer (some ⟨aw,0,none⟩)),(7,M),(8,.int .i64 l.length),(9,.int .i64 k)])
  (fun(k:(Nat)) (H:Heap)=>k≤l.length∧js H aw (m++cat (l.take k)) (au+UInt64.ofNat (cat (l.take k)).length)∧V (fun c=>c=aw) I H)
  (fun(k:(Nat))=>l.length-k) 0 ⟨rfl,rfl,rfl,rfl,trivial⟩ ?_ ?_
 ·
  exact⟨by omega,by simpa[cat]using E,V.refl _ _⟩
 intro k bl ae oc af ag;obtain⟨bu,E,hm⟩:=ae;obtain⟨wt,j,d,C⟩:=E.ex;have O:=Q.up hm (fun _ _ q U=>q U);refine G.L (fun ah=>?_);refine o.v1 bG (o.nil (ah ?_));refine G.t2 (fun ai aj=>?_);refine aT (fun an=>?_) (fun an=>?_)
 ·
  refine G.skip (ai (G.t1 (fun aq=>G.aB (fun ay _ _=>G.L (fun az=>?_)))));refine o.bR (Y.indexAddr O (k) rfl h6 da rfl rfl (by first|rfl|omega) (by first|omega|(simp;omega)|(simp;done))) fun bj aL=>?_;refine o.v1 (ar aL eA) ?_;have B:=(bd l[k] (List.getElem_mem _)).up hm (fun _ _ q U=>q U);have bc:=B.len;refine o.aj ?_;refine az (G.L (fun aB=>?_));refine o.ax 2 ?_;refine o.v1 (Y.ai d.N rfl iU rfl qV) ?_;refine o.v1 (ar (d.N.at 73 (wL rfl j)) uh) ?_;refine o.W ?_;refine o.v1 (ba B db) ?_;refine o.v1 (Y.hx rfl gl gT rfl) ?_;refine o.v1 (Y.zZ rfl rfl rfl) ?_;refine o.bI ?_;refine o.v1 (Y.ai d.N rfl iU rfl qV) ?_;refine o.s1 (dh d 73 (_) (rfl) qV (by rw[lp rfl j];omega) (DF rfl j)) fun bt aK=>?_;obtain⟨d,ab⟩:=aK;replace hm:=hm.trans ab (fun _ _ e=>e) (fun _ _ e=>e);replace B:=B.up ab (fun _ _ q U=>q U);refine o.nil (aB (G.aB (fun _ aN _=>?_)))
  refine G.bd (fun(bf:(Value)×(List UInt8)×(List UInt8)×(List UInt8))=>match bf with|(v,r,c,wt)=>[(0,.pointer (some ⟨aw,0,none⟩)),(5,v),(7,M),(8,.int .i64 l.length),(9,.int .i64 k)])
   (fun(v,r,c,wt) (H:Heap)=>wt.length=64∧Var 356 H aw (av (run er c).1.list wt (run er c).2.length (au+UInt64.ofNat (cat (l.take k)).length+UInt64.ofNat (l[k]).2.length))∧wt.take (run er c).2.length=(run er c).2∧Rd (fun b=>b≠aw) H a1 1 v r∧c++r=m++cat (l.take k)++(l[k]).2∧V (fun c=>c=aw) I H)
   (fun(v,r,c,wt)=>r.length) ((l[k]).1.v,(l[k]).2,m++cat (l.take k),wt) ⟨rfl,rfl,rfl,rfl,rfl,trivial⟩ ?_ ?_
  ·
   exact⟨j,d,C,B,rfl,hm⟩
  rintro⟨v,r,c,wt⟩ bm aE bn S aO;obtain⟨j,d,C,t,N,hm⟩:=aE;have bc:=t.len;refine G.t2 (fun aQ aR=>G.L (fun am=>?_));refine o.W ?_;refine o.v1 (ba t db) ?_;refine o.v1 eT (o.nil (am ?_));refine aT (fun aF=>?_) (fun aF=>?_)
  ·
   refine G.skip (aQ (G.aB (fun ac _ _=>G.t1 (fun aS=>?_))));have a_:=yz er c;obtain⟨n,aA⟩:∃n,(run er c).2.length=n:=⟨_,rfl⟩;rw[aA]at d C a_;obtain⟨gi,bw⟩:∃gi,min r.length (64-n)=gi:=⟨_,rfl⟩;have P:(r.take gi).length=gi:=by simp;omega
   obtain⟨A,a8⟩:=D1 (x:=r.take gi) (n:=n) j (by omega);refine iV 9 (fun bh a7=>?_);refine o.ax 2 ?_;refine o.v1 (Y.ai d.N rfl iU rfl yD) ?_;refine o.ax 2 ?_;refine o.v1 (Y.ai d.N rfl iU rfl b1) ?_;refine o.v1 (ar (d.N.at 72 (qo rfl j)) cd) ?_;refine o.v1 ((Y.yK (F:=fun c=>c=aw) (f:=a1) (xs:=wt) (d.N.drop 8) rfl d.lt (j) (fun i x h=>wN rfl i x h) (n) (64) rfl (fun w=> .inl (zk w)) cL rfl (.inr ⟨_,_,_,rfl,rfl,by first|rfl|omega⟩) (.inl ⟨rfl,rfl⟩) (by omega) (by omega) (by decide)).1 _) ?_;rw[if_neg (by omega)];refine o.W ?_;refine o.nil (a7 _ ?_);refine o.aO (Z.copy (off:=8+n) d t eB fH rfl Tryz.underlying57 cL rfl rfl (by rw[lp rfl j];omega) (gi) (by omega)) fun bo bp aH=>?_;obtain⟨rfl,d,T⟩:=aH;rw[DH rfl j (by omega)]at d;replace t:=t.up T (fun _ _ q U=>q U);replace hm:=hm.trans T (fun _ _ e=>e) (fun _ _ e=>e);refine o.aj ?_;refine aS (G.L (fun ap=>?_));refine o.ax 2 ?_;refine o.v1 (Y.ai d.N rfl iU rfl b1) ?_;refine o.v1 (ar (d.N.at 72 (qo rfl A)) cd) ?_;refine o.W ?_;refine o.v1 bD ?_;refine o.bI ?_;refine o.v1 (Y.ai d.N rfl iU rfl b1) ?_;refine o.s1 (dh d 72 (av (run er c).1.list (wt.take n++r.take gi++wt.drop (n+(r.take gi).length)) (n+gi) (au+UInt64.ofNat (cat (l.take k)).length+UInt64.ofNat (l[k]).2.length)) (rfl) b1 (by rw[lp rfl A];omega) (by rw[←wM (m:=n+gi) (n:=n) rfl A,Int.natCast_add])) fun bk aW=>?_;obtain⟨d,X⟩:=aW;replace t:=t.up X (fun _ _ q U=>q U);replace hm:=hm.trans X (fun _ _ e=>e) (fun _ _ e=>e);refine o.nil (ap (G.L (fun aX=>?_)));refine o.ax 2 ?_;refine o.aK (g:=fun v=>v) (Y.slice t (gi) (_) rfl db cL rfl (.inr ⟨_,_,_,rfl,rfl,by first|rfl|omega⟩) (.inl ⟨rfl,rfl⟩) (by omega) (by omega)) fun aa L=>?_;rw[List.take_length]at L;refine o.aj ?_;refine aX (G.L (fun aY=>?_));refine o.ax 2 ?_;refine o.v1 (Y.ai d.N rfl iU rfl b1) ?_;refine o.v1 (ar (d.N.at 72 (qo rfl A)) cd) ?_;refine o.v1 b9 (o.nil (aY ?_));refine aT (fun aI=>?_) (fun aI=>?_)
   ·
    refine G.region ?_;refine o.W ?_;refine aV BI (AA aw _ _ _ _ w0 _ d A) (fun bq bs aJ=>?_);obtain⟨rfl,d,W⟩:=aJ;replace L:=L.up W (fun _ _ q U=>q U);replace hm:=hm.trans W (fun _ _ e=>e) (fun _ _ e=>e);refine o.nil (ac ?_);have K:=GL (x:=r.take gi) (c:=c) (wt:=wt) aA C j (by omega);refine aP.sub (S (aa,r.drop gi,c++r.take gi,wt.take n++r.take gi++wt.drop (n+(r.take gi).length)) _ ?_ ?_) ⟨rfl,rfl,rfl,(aD (by omega)),(aD (by omega)),trivial⟩
    ·exact⟨A,by rw[K];exact d,by rw[K];rfl,L,by rw[List.append_assoc,List.take_append_drop];exact N,hm⟩
    ·show(r.drop gi).length<r.length;rw[List.length_drop];omega
   ·
    refine G.skip (ac ?_);have K:=GP (x:=r.take gi) (c:=c) (wt:=wt) aA C j (by omega);have O:(wt.take n++r.take gi).length=n+gi:=by rw[List.length_append,List.length_take];omega
    refine aP.sub (S (aa,r.drop gi,c++r.take gi,wt.take n++r.take gi++wt.drop (n+(r.take gi).length)) _ ?_ ?_) ⟨rfl,rfl,rfl,(aD (by omega)),(aD (by omega)),trivial⟩
    ·exact⟨A,by rw[K];simp only;rw[O];exact d,by rw[K];simp only;rw[O];simpa only[P]using a8,L,by rw[List.append_assoc,List.take_append_drop];exact N,hm⟩
    ·show(r.drop gi).length<r.length;rw[List.length_drop];omega
  ·
   have B:r=[]:=List.eq_nil_of_length_eq_zero (by omega);subst B;rw[List.append_nil]at N;subst N;refine G.exit (aR (aO (aN ?_)));refine ay (aq (G.region ?_));refine o.v1 bD ?_;refine o.W (o.nil ?_);refine aP.sub (af (k+1) _ ?_ ?_) ⟨rfl,rfl,(aD (by omega)),(aD (by omega)),trivial⟩
   ·exact⟨by omega,⟨wt,j,by rw[vv l k (by omega),←List.append_assoc,List.length_append,UInt64.ofNat_add,←UInt64.add_assoc];exact d,by rw[vv l k (by omega),←List.append_assoc];exact C⟩,hm⟩
   ·omega
 ·
  refine G.exit (aj (ag (a6 ?_)));refine bb .normal (.inl rfl) _ _ _ (iQ rfl) ?_;have P:k=l.length:=by omega
  subst P;rw[List.take_length]at E;exact⟨rfl,E,hm⟩
end nj

namespace rB
open E Go.RowKit mw lJ mx nj
def cj:Nat→UInt64→List UInt8
 |0,_=>[]
 |j+1,x=>UInt8.ofNat (iR x (8*j)).toNat::cj j x
theorem dR:∀(n:Nat) (x:UInt64),(cj n x).length=n
 |0,_=>rfl
 |n+1,x=>by rw[cj,List.length_cons,dR]
end rB

namespace oi
open E Go.RowKit mw lJ mx nj rB
def l6(n:Nat):Nat:=(119-n%64)%64
def iO(n:Nat):List UInt8:=0x80::(List.replicate (l6 n) 0++cj 8 (UInt64.ofNat (8*n)))
def lv(s:List UInt32):List UInt8:=(List.range 32).map (fun i=>UInt8.ofNat (jC (s.getD (i/4) 0) (24-8*(i%4))).toNat)
theorem xW(s:List UInt32):(lv s).length=32:=by simp[lv]
def sumOf(m:List UInt8):List UInt8:=lv (run er (m++iO m.length)).1.list
theorem lC(m:List UInt8):(sumOf m).length=32:=xW _
theorem EH(w:List UInt8)(j:Nat)(x:UInt8):(w.map hE).set (0+j) (hE x)=(w.set j x).map hE:=by rw[Nat.zero_add,List.map_set]
theorem HB(w r:List UInt8)(i:Nat)(x:UInt8)(h:w.take i=r.take i)(k:i<w.length)(n:r[i]?=some x):(w.set i x).take (i+1)=r.take (i+1):=by
 have U:=(List.getElem?_eq_some_iff.1 n);obtain⟨d,j⟩:=U;rw[tI _ _ _ k,h,List.take_succ_eq_append_getElem d,j]
theorem FL(s:List UInt32)(i:Nat)(h:i<32):(lv s)[i]?=some (UInt8.ofNat (jC (s.getD (i/4) 0) (24-8*(i%4))).toNat):=by
 simp[lv,h]
end oi

namespace rC
open E Go.RowKit mw lJ mx nj rB oi
set_option maxRecDepth 100000 in
theorem dv:c6 Tryz.prog 57 5 1 1:=⟨Tryz.underlying57,_,_,rfl,rfl,rfl,rfl,rfl⟩
set_option maxRecDepth 100000 in
theorem lq:c6 Tryz.prog 104 57 1 24:=⟨Tryz.underlying104,_,_,rfl,rfl,rfl,rfl,rfl⟩
theorem Iu:∀w,(zeroValue 356).run Tryz.prog w= .ok (.agg (av (List.replicate 8 0) (List.replicate 64 0) 0 0).toArray) w:=fun w=>by kernel_rfl
theorem Hd{cs d:List Value}(h:cs.length=d.length):ec cs 0 d=d:=by simp[ec,←h]
theorem DE(s:List UInt32)(wt:List UInt8)(n:Nat)(au:UInt64):∀u∈av s wt n au,u.oneCell'=true:=by
 intro u hu;simp only[av,List.mem_append,List.mem_map,List.mem_cons,List.not_mem_nil,or_false]at hu;rcases hu with(⟨x,_,rfl⟩|⟨x,_,rfl⟩)|rfl|rfl<;>rfl
theorem GO:∀(n:Nat) (s:fZ) (b:List UInt8),b.length≤n→(run s b).2.length=b.length%64:=by
 intro n
 induction n with
 |zero=>intro s b h;rw[k0 s b (by omega)];simp only;omega
 |succ n ih=>
  intro s b h;by_cases aw:b.length<64
  ·rw[k0 s b aw];simp only;omega
  ·rw[pe s b (by omega),ih _ _ (by simp;omega)];simp;omega
theorem GN(s:fZ)(b:List UInt8):(run s b).2.length=b.length%64:=GO _ s b (Nat.le_refl _)
theorem FT(z:Nat):(List.replicate (1+z) (0:UInt8)).set 0 0x80=0x80::List.replicate z 0:=by rw[Nat.add_comm,List.replicate_succ,List.set_cons_zero]
theorem FK(s:List UInt32)(i k:Nat)(d:i<8)(j:k<4):(lv s)[4*i+k]?=some (UInt8.ofNat (jC (s.getD i 0) (24-8*k)).toNat):=by
 rw[FL s _ (by omega),show(4*i+k)/4=i by omega,show(4*i+k)%4=k by omega]
theorem F2(aw:Nat)(m:List UInt8)(w0:World)(I:Heap)
 (aK:js I aw m (UInt64.ofNat m.length)) (dm:m.length≤1099511627776):
 aC Tryz.prog w0 258 #[.pointer (some ⟨aw,0,none⟩)] I (fun r L=>r= .agg ((sumOf m).map hE).toArray∧V (fun c=>False) I L):=by
 refine aC.enter (args:=[.pointer (some ⟨aw,0,none⟩)]) Tryz.func258 rfl rfl rfl ?_;intro cp cl;obtain⟨wt,T,E,aN⟩:=aK.ex;have cf:=yz er m;have ch:=GN er m;obtain⟨n,aA⟩:∃n,(run er m).2.length=n:=⟨_,rfl⟩;have cb:=aN;rw[aA]at E aN cf ch;have cu:=E.lt;have cv:=aK.lt;have A:V (fun c=>False) I I:=V.refl _ _;refine G.L (fun b2=>?_);refine o.aO (cQ nb) ?_;rintro v2 L ⟨rfl,B,aq,cC,b3⟩;have cY:L.size=I.size+1:=by rw[b3];simp
 replace E:=E.M aq;replace A:=A.trans aq (fun b t d=>d) (fun b t d=>d.elim);have cD:=aq.size;have cr:=B.lt;replace B:Var 26 L I.size ((List.replicate 32 (0:UInt8)).map hE):=B;refine o.nil (b2 (G.L (fun b4=>?_)));refine o.ax 2 ?_;refine o.v1 (aW E.N zS yE (lp rfl T)) ?_;refine o.aO (cQ Iu) ?_;rintro v3 az ⟨rfl,C,ae,cE,b5⟩;have br:az.size=L.size+1:=by rw[b5];simp
 replace E:=E.M ae;replace A:=A.trans ae (fun b t d=>d) (fun b t d=>d.elim);replace B:=B.M ae;have cG:=ae.size;have ct:=C.lt;replace C:Var 356 az L.size (av (List.replicate 8 0) (List.replicate 64 0) 0 0):=C;refine o.s1 (S.var C (av (run er m).1.list wt n (UInt64.ofNat m.length)) (av (run er m).1.list wt n (UInt64.ofNat m.length)) rfl rfl rfl rfl (DE _ _ _ _) yE (lp rfl T) (Nat.le_of_ble_eq_true rfl) (Hd (by rw[lp (by simp) (by simp),lp rfl T]))) fun ai aY=>?_;obtain⟨C,ah⟩:=aY;replace E:=E.up ah (by omega);replace A:=A.trans ah (fun b t d=>d) (fun b t d=>by omega);replace B:=B.up ah (by omega);have cH:=ah.size;refine o.nil (b4 (G.t1 (fun b6=>?_)));have dp:l6 m.length=(119-m.length%64)%64:=rfl;refine G.region ?_;refine o.v1 (Y.ai C.N rfl iU rfl b1) ?_;refine o.v1 (ar (C.N.at 72 (qo rfl T)) cd) ?_;refine o.v1 fE ?_;refine o.v1 (Y.Gk rfl rfl rfl (by omega)) ?_;refine o.v1 bD ?_;refine o.aO (Z.EG (1+l6 m.length) ((0:UInt8)) rfl dv zH rfl eB fH rfl rfl (by first|rfl|omega) (by omega) (by omega)) fun b7 b8 bv=>?_;obtain⟨ac,X,cZ,aZ⟩:=bv;have cT:b8.size=ai.size+1:=by rw[aZ];simp
 replace E:=E.M X;replace A:=A.trans X (fun b t d=>d) (fun b t d=>d.elim);replace B:=B.M X;replace C:=C.M X;have cS:=X.size;have au:=ac.le;refine o.aj ?_;refine b6 (G.L (fun b9=>?_));refine o.W ?_;refine o.v1 (mh ac (0) db cL) ?_;refine o.s1 (S.FR ac (0) 0 ((0x80:UInt8)) rfl rfl rfl rfl cL (by first|omega|(simp;omega)|(simp;done)) (by decide) (rfl)) fun aH a6=>?_;obtain⟨ac,ad⟩:=a6;replace E:=E.up ad (by omega);replace A:=A.trans ad (fun b t d=>d) (fun b t d=>by omega);replace B:=B.up ad (by omega);replace C:=C.up ad (by omega);have c0:=ad.size;rw[FT]at ac;refine o.nil (b9 (G.t1 (fun ca=>G.L (fun bu=>?_))));refine o.aj ?_;refine bu (G.aB (fun _ bw _=>?_))
 refine G.bd (fun(ab:(Nat)×(Value)×(Nat)×(List UInt8))=>match ab with|(j,O,Q,ys)=>[(0,.pointer (some ⟨aw,0,none⟩)),(2,.pointer (some ⟨I.size,0,none⟩)),(3,.pointer (some ⟨L.size,0,none⟩)),(4,O),(5,.int .i64 (8*(j:Int)-8))])
  (fun(j,O,Q,ys) (H:Heap)=>(j≤8)∧(aU Q 5 H a1 1 O ys)∧(Q=0∨Q=ai.size+1∨aH.size<Q)∧(ys++cj j (UInt64.ofNat (8*m.length))=(0x80::List.replicate (l6 m.length) (0:UInt8))++cj 8 (UInt64.ofNat (8*m.length)))∧V (fun c=>c=ai.size) aH H)
  (fun(j,O,Q,ys)=>j) (8,b7,ai.size+1,(0x80::List.replicate (l6 m.length) (0:UInt8))) ⟨rfl,rfl,rfl,rfl,rfl,trivial⟩ ?_ ?_
 ·
  exact⟨(by omega),ac,(by omega),rfl,V.refl _ _⟩
 rintro⟨j,O,Q,ys⟩ bi bx cn bz bA;obtain⟨dj,ac,dk,W,K⟩:=bx;replace E:=E.up K (by omega);replace A:=A.trans K (fun b t d=>d) (fun b t d=>by omega);replace B:=B.up K (by omega);replace C:=C.up K (by omega);have c1:=K.size;have au:=ac.le;have dt:ys.length+j=l6 m.length+9:=by have:=congrArg List.length W;simpa[dR]using this
 have dq:l6 m.length<64:=by rw[l6];omega
 refine G.t2 (fun bC bE=>G.L (fun a7=>?_));refine o.W ?_;refine o.v1 dH (o.nil (a7 ?_));refine aT (fun bF=>?_) (fun bF=>?_)
 ·
  obtain⟨j,rfl⟩:∃q,j=q+1:=⟨j-1,by omega⟩;refine G.skip (bC (G.t1 (fun a8=>G.aB (fun ba _ _=>G.region ?_))));refine o.ax 3 ?_;refine o.v1 (Y.ai E.N rfl iU rfl qV) ?_;refine o.v1 (ar (E.N.at 73 (wL rfl T)) uh) ?_;refine o.v1 (Y.cast (v2:= .int .u64 (UInt64.ofNat (8*m.length)).toNat) (Y.EY (b:=(UInt64.ofNat 8)) rfl rfl rfl) (by rw[←UInt64.ofNat_mul,Nat.mul_comm])) ?_;refine o.W ?_;refine o.v1 (Y.ph (8*j) rfl rfl rfl (by first|rfl|omega) (by omega)) ?_;refine o.v1 (Y.oF rfl gT jF rfl) ?_;refine o.aO (cU _ ([UInt8.ofNat (iR (UInt64.ofNat (8*m.length)) (8*j)).toNat]) dv eB fH (rfl)) fun c2 bH bJ=>?_;obtain⟨aI,am,cI,bb⟩:=bJ;have cV:bH.size=bi.size+1:=by rw[bb];simp
  replace A:=A.trans am (fun b t d=>d) (fun b t d=>d.elim);replace ac:=ac.M am
  try replace K:=K.trans am (fun b t d=>d) (fun b t d=>d.elim)
  have c3:=am.size;have cw:=aI.le;refine o.aO (dO ac aI.rd dv (by first|omega|(simp;omega)) (by first|omega|(simp;omega))) fun bL ce bM=>?_;obtain⟨bN,aJ,cJ,ap⟩:=bM;replace A:=A.trans ap (fun b t d=>d) (fun b t d=>by omega)
  try replace K:=K.trans ap (fun b t d=>d) (fun b t d=>by omega)
  have c5:=ap.size;have cy:=aJ.le;refine o.aj ?_;refine ba (a8 (G.region ?_));refine o.W ?_;refine o.v1 fE ?_;refine o.aj ?_;refine aP.sub (bz (j,bL,bN,ys++[UInt8.ofNat (iR (UInt64.ofNat (8*m.length)) (8*j)).toNat]) _ ?_ ?_) ⟨rfl,rfl,rfl,rfl,(aD (by omega)),trivial⟩
  ·exact⟨(by omega),aJ,(by omega),by rw[←W,List.append_assoc];rfl,K⟩
  ·first|omega|(simp only;omega)|(simp;omega)
 ·
  obtain rfl:j=0:=by omega
  rw[cj,List.append_nil]at W;replace W:ys=iO m.length:=by rw[W];rfl
  subst W;refine G.exit (bE (bA (bw ?_)));refine ca (G.L (fun bc=>?_));refine o.W ?_;refine o.aO (Z.w6 _ ([((cg O,iO m.length):aM×List UInt8)]) rfl lq rfl rfl rfl (by decide) (by decide) ny nz (by simp only[List.map_cons,List.map_nil,iF];rw[ac.bm,ac.rd.Cm])) fun c6 bO bP=>?_;obtain⟨aE,aa,cK,bd⟩:=bP;have aB:bO.size=bi.size+1:=by rw[bd];simp
  replace A:=A.trans aa (fun b t d=>d) (fun b t d=>d.elim);replace B:=B.M aa;replace C:=C.M aa;replace ac:=ac.M aa;have dX:=aa.size;have cq:=aE.le;refine aV vg (rj L.size _ m (UInt64.ofNat m.length) [((cg O,iO m.length):aM×List UInt8)] w0 _ ⟨wt,T,aA▸C,cb⟩ (aE.rd.imp (fun b _ h=>by omega)) (by intro x aO;simp only[List.mem_singleton]at aO;subst aO;simp only;rw[ac.bm];exact ac.rd.imp (fun b _ h=>by omega))) (fun ci N bQ=>?_);obtain⟨rfl,aL,ay⟩:=bQ;have cc:m++cat [((cg O,iO m.length):aM×List UInt8)]=m++iO m.length:=by simp[cat]
  rw[cc]at aL;obtain⟨dw,dr,C,dg⟩:=aL.ex;replace A:=A.trans ay (fun b t d=>d) (fun b t d=>by omega);replace B:=B.up ay (by omega);have cM:=ay.size;refine o.nil (bc (G.L (fun bf=>?_)));refine o.aO (cQ nb) ?_;rintro v6 an ⟨rfl,F,af,c_,bR⟩;have cN:an.size=N.size+1:=by rw[bR];simp
  replace A:=A.trans af (fun b t d=>d) (fun b t d=>d.elim);replace B:=B.M af;replace C:=C.M af;have cO:=af.size;have aF:=F.lt;replace F:Var 26 an N.size ((List.replicate 32 (0:UInt8)).map hE):=F;refine o.nil (bf (G.t1 (fun bg=>G.L (fun bh=>?_))));refine o.v1 (Y.ai C.N rfl iU rfl lA) ?_;refine o.v1 (Y.cast (v2:= .agg ((run er (m++iO m.length)).1.list.map fe).toArray) (aW (C.N.take 8) rF lA (rfl)) (rfl)) ?_;refine o.W (o.nil (bh ?_));refine G.aB (fun _ bj _=>?_)
  refine G.bd (fun(ab:(Nat)×(List UInt8))=>match ab with|(i,J)=>[(2,.pointer (some ⟨I.size,0,none⟩)),(6,.pointer (some ⟨N.size,0,none⟩)),(40,.agg ((run er (m++iO m.length)).1.list.map fe).toArray),(41,.int .i64 i)])
   (fun(i,J) (H:Heap)=>(i≤8)∧(J.length=32)∧(J.take (4*i)=(lv (run er (m++iO m.length)).1.list).take (4*i))∧(Var 26 H N.size (J.map hE))∧V (fun c=>c=N.size) an H)
   (fun(i,J)=>8-i) (0,List.replicate 32 0) ⟨rfl,rfl,rfl,rfl,trivial⟩ ?_ ?_
  ·
   exact⟨(by omega),by simp,by simp,F,V.refl _ _⟩
  rintro⟨i,J⟩ bS bU da bk bl;obtain⟨di,aj,P,F,M⟩:=bU;replace A:=A.trans M (fun b t d=>d) (fun b t d=>by omega);replace B:=B.up M (by omega);have cP:=M.size;have aF:=F.lt;refine G.L (fun bm=>?_);refine o.v1 bG (o.nil (bm ?_));refine G.t2 (fun a0 a2=>?_);refine aT (fun bq=>?_) (fun bq=>?_)
  ·
   refine G.skip (a0 (G.t1 (fun a3=>G.aB (fun a4 _ _=>G.L (fun a5=>?_)))));refine o.W ?_;refine o.v1 (Y.rL (i) rfl fV eu e7 rfl rfl (by first|rfl|omega) (by omega) ((by rw[List.getElem?_toArray];exact l2 (run er (m++iO m.length)).1.list i (by simp;omega)))) ?_;refine o.aR 2 ?_;refine a5 (G.L (fun aQ=>?_));refine o.W (o.nil (aQ ?_));refine G.aB (fun _ aR _=>?_)
   refine G.bd (fun(ab:(Nat)×(List UInt8))=>match ab with|(k,J)=>[(2,.pointer (some ⟨I.size,0,none⟩)),(6,.pointer (some ⟨N.size,0,none⟩)),(7,.int .i64 i),(8,.int .u32 ((run er (m++iO m.length)).1.list.getD i 0).toNat),(40,.agg ((run er (m++iO m.length)).1.list.map fe).toArray),(41,.int .i64 i),(45,.int .i64 k)])
    (fun(k,J) (H:Heap)=>(k≤4)∧(J.length=32)∧(J.take (4*i+k)=(lv (run er (m++iO m.length)).1.list).take (4*i+k))∧(Var 26 H N.size (J.map hE))∧V (fun c=>c=N.size) bS H)
    (fun(k,J)=>4-k) (0,J) ⟨rfl,rfl,rfl,rfl,rfl,rfl,rfl,trivial⟩ ?_ ?_
   ·
    exact⟨(by omega),aj,P,F,V.refl _ _⟩
   rintro⟨k,J⟩ dc bs de aS a9;obtain⟨df,aj,P,F,R⟩:=bs;replace A:=A.trans R (fun b t d=>d) (fun b t d=>by omega)
   try replace M:=M.trans R (fun b t d=>d) (fun b t d=>by omega)
   have cz:=R.size;have aF:=F.lt;refine G.L (fun bn=>?_);refine o.v1 bG (o.nil (bn ?_));refine G.t2 (fun bV bX=>?_);refine aT (fun bt=>?_) (fun bt=>?_)
   ·
    refine G.skip (bV (G.t1 (fun bZ=>G.aB (fun bT _ _=>G.L (fun be=>?_)))));refine o.aR 2 ?_;refine be (G.region ?_);refine o.W ?_;refine o.v1 (Y.jz rfl rfl rfl (by omega)) ?_;refine o.W ?_;refine o.v1 bD ?_;refine o.ax 2 ?_;refine o.v1 (Y.jz rfl rfl rfl (by omega)) ?_;refine o.v1 fE ?_;refine o.v1 (Y.q4 (24-8*k) rfl rfl rfl (by omega) (by omega)) ?_;refine o.v1 (Y.oF rfl pt jF rfl) ?_;refine o.v1 (eU F.N (4*i+k) k8 cL) ?_;refine o.s1 (dh F (0+(4*i+k)) (_) (rfl) cL (by simp;omega) (EH J (4*i+k) _)) fun bY bo=>?_;obtain⟨F,ag⟩:=bo;replace A:=A.trans ag (fun b t d=>d) (fun b t d=>by omega)
    try replace M:=M.trans ag (fun b t d=>d) (fun b t d=>by omega)
    try replace R:=R.trans ag (fun b t d=>d) (fun b t d=>by omega)
    have cB:=ag.size;refine o.nil (bT (bZ (G.region ?_)));refine o.v1 bD ?_;refine o.W (o.nil ?_);refine aP.sub (aS (k+1,J.set (4*i+k) (UInt8.ofNat (jC ((run er (m++iO m.length)).1.list.getD i 0) (24-8*k)).toNat)) _ ?_ ?_) ⟨rfl,rfl,(aD (by omega)),(aD (by omega)),rfl,(aD (by omega)),(aD (by omega)),trivial⟩
    ·exact⟨(by omega),by simp[aj],HB J _ (4*i+k) _ P (by omega) (FK _ i k (by omega) (by omega)),F,R⟩
    ·first|omega|(simp only;omega)|(simp;omega)
   ·
    obtain rfl:k=4:=by omega
    rw[show 4*i+4=4*(i+1)by omega]at P;refine G.exit (bX (a9 (aR ?_)));refine a4 (a3 (G.region ?_));refine o.v1 bD ?_;refine o.W (o.nil ?_);refine aP.sub (bk (i+1,J) _ ?_ ?_) ⟨rfl,rfl,rfl,(aD (by omega)),trivial⟩
    ·exact⟨(by omega),aj,P,F,M⟩
    ·first|omega|(simp only;omega)|(simp;omega)
  ·
   obtain rfl:i=8:=by omega
   rw[List.take_of_length_le (by omega),List.take_of_length_le (by rw[xW];omega),show lv (run er (m++iO m.length)).1.list=sumOf m from rfl]at P;subst P;refine G.exit (a2 (bl (bj ?_)));refine bg (G.L (fun b0=>?_));refine o.v1 (aW F.N b_ a_ (rfl)) ?_;refine o.s1 (S.var B ((sumOf m).map hE) ((sumOf m).map hE) rfl rfl rfl rfl (by intro u hu;obtain⟨x,_,rfl⟩:=List.mem_map.1 hu;rfl) a_ (rfl) (by simp[lC]) (by simp[ec,lC])) fun cW aX=>?_;obtain⟨B,bp⟩:=aX;replace A:=A.trans bp (fun b t d=>d) (fun b t d=>by omega);refine o.nil (b0 ?_);refine G.ret (cl .ret (.inr rfl) _ _ _ (jA rfl rfl B.N b_ a_ (by first|rfl|simp)) ?_);exact⟨rfl,A⟩
theorem Fz(n:Nat):(0:UInt64)+UInt64.ofNat n=UInt64.ofNat n:=by simp
theorem FZ(K:Value)(l:List (aM×List UInt8))(w0:World)(I:Heap)
 (q:bw I iF 1 K l) (t:∀x∈l,bw I a1 1 x.1.v x.2) (P:(cat l).length≤1099511627776):
 aC Tryz.prog w0 224 #[K] I (fun r A=>r= .agg ((sumOf (cat l)).map hE).toArray∧V (fun c=>False) I A):=by
 refine aC.enter (args:=[K]) Tryz.func224 rfl rfl rfl ?_;intro X Q;replace q:=q.lt;replace t:=fun x n=>(t x n).lt;have k:V (fun c=>False) I I:=V.refl _ _;refine G.L (fun M=>?_);refine o.aO (cQ nb) ?_;rintro v2 A ⟨rfl,i,ad,ab,N⟩;have Z:A.size=I.size+1:=by rw[N];simp
 replace q:=q.M ad;replace t:=fun x n=>(t x n).up ad (fun b j d H=>H);replace k:=k.trans ad (fun b j d=>d) (fun b j d=>d.elim);have ae:=ad.size;have Y:=i.lt;replace i:Var 26 A I.size ((List.replicate 32 (0:UInt8)).map hE):=i;refine o.nil (M (G.L (fun au=>?_)));refine aV BG (sU w0 _) ?_;rintro v4 R ⟨rfl,C,B,am⟩;replace q:=q.M B;replace t:=fun x n=>(t x n).up B (fun b j d H=>H);replace k:=k.trans B (fun b j d=>d) (fun b j d=>d.elim);replace i:=i.M B;have af:=B.size;refine o.aj ?_;refine au (G.L (fun O=>?_));refine o.ax 2 ?_;have ah:=C.lt;refine aV vg (rj A.size _ [] 0 l w0 _ C (q.imp (fun b _ h=>by omega)) (fun x n=>(t x n).imp (fun b _ h=>by omega))) ?_;rintro ai T ⟨rfl,C,E⟩;rw[List.nil_append,Fz]at C;replace k:=k.trans E (fun b j d=>d) (fun b j d=>by omega);replace i:=i.up E (by omega);have ag:=E.size;refine o.nil (O (G.L (fun ap=>?_)));refine o.W ?_;refine aV BH (F2 _ (cat l) w0 _ C P) ?_;rintro v9 W ⟨rfl,F⟩;replace k:=k.trans F (fun b j d=>d) (fun b j d=>d.elim);replace i:=i.M F;have am:=F.size;refine o.s1 (S.var i ((sumOf (cat l)).map hE) ((sumOf (cat l)).map hE) rfl rfl rfl rfl (by intro u hu;obtain⟨x,_,rfl⟩:=List.mem_map.1 hu;rfl) a_ (rfl) (by simp[lC]) (by simp[ec,lC])) fun aa L=>?_;obtain⟨i,ac⟩:=L;replace k:=k.trans ac (fun b j d=>d) (fun b j d=>by omega);refine o.nil (ap ?_);refine G.ret (Q .ret (.inr rfl) _ _ _ (jA rfl rfl i.N b_ a_ (by first|rfl|simp)) ?_);exact⟨rfl,k⟩
end rC

namespace ki
open E Go.RowKit dz pA oi
abbrev Rec:=List UInt8
def gz:List UInt8:=[83,76,86,71,87,65,76,49]
def jR(n:Nat)(r:Rec):List UInt8:=(sumOf (dz.cj 8 (UInt64.ofNat n)++r)).take 8
def jf(n:Nat)(r:Rec):List UInt8:=jO r.length++(jR n r++r)
def kz(n:Nat)(r:Rec):List UInt8:=jf n r++[67]
def eZ:Nat→List Rec→List UInt8
 |_,[]=>[]
 |n,r::l=>kz n r++eZ (n+1) l
def cS(l:List Rec):List UInt8:=gz++eZ 0 l
theorem vA(n:Nat)(r:Rec):(jR n r).length=8:=by unfold jR;rw[List.length_take,lC];rfl
theorem oT(n:Nat)(r:Rec):(jf n r).length=12+r.length:=by unfold jf;rw[List.length_append,List.length_append,vA,uE];omega
theorem tf(n:Nat)(r:Rec):(kz n r).length=13+r.length:=by unfold kz;rw[List.length_append,oT];simp;omega
theorem oG:∀(a b:List Rec) (n:Nat),eZ n (a++b)=eZ n a++eZ (n+a.length) b
 |[],b,n=>rfl
 |r::a,b,n=>by rw[List.cons_append,eZ,oG a b (n+1),eZ,List.append_assoc,List.length_cons,show n+1+a.length=n+(a.length+1)by omega]
theorem r7(l:List Rec)(r:Rec):cS (l++[r])=cS l++kz l.length r:=by unfold cS;rw[oG,List.append_assoc];simp[eZ]
theorem vP:∀(l:List Rec) (n:Nat),(eZ n l).length=(l.map (fun r=>13+r.length)).sum
 |[],n=>rfl
 |r::l,n=>by rw[eZ,List.length_append,vP l,tf];simp
theorem C7(l:List Rec):(cS l).length=8+(l.map (fun r=>13+r.length)).sum:=by unfold cS;rw[List.length_append,vP];rfl
def fh(b:List UInt8):Nat:=lk 0 (b.take 4)
def eP(n:Nat)(b:List UInt8):Option Rec:=
 if b.length≤12∨1048576<fh b∨b.length-12≤fh b then none
 else if b.getD (12+fh b) 0=67∧(b.drop 4).take 8=jR n ((b.drop 12).take (fh b))then some ((b.drop 12).take (fh b))else none
theorem o9{n:Nat}{b:List UInt8}{r:Rec}(h:eP n b=some r):r.length=fh b∧13+r.length≤b.length∧r.length≤1048576:=by
 unfold eP at h;split at h
 ·cases h
 ·rename_i d
  split at h
  ·have e:=Option.some.inj h
   rw[←e,List.length_take,List.length_drop];omega
  ·cases h
def j6:Nat→Nat→List UInt8→List Rec
 |0,_,_=>[]
 |f+1,n,b=>match eP n b with
  |none=>[]
  |some r=>r::j6 f (n+1) (b.drop (13+r.length))
theorem s8:∀(f g n:Nat) (b:List UInt8),b.length≤f→b.length≤g→j6 f n b=j6 g n b
 |0,0,_,_,_,_=>rfl
 |0,g+1,n,b,h,_=>by
  have:eP n b=none:=by unfold eP;rw[if_pos (.inl (by omega))]
  simp[j6,this]
 |f+1,0,n,b,_,h=>by
  have:eP n b=none:=by unfold eP;rw[if_pos (.inl (by omega))]
  simp[j6,this]
 |f+1,g+1,n,b,d,U=>by
  unfold j6
  cases h:eP n b with
  |none=>rfl
  |some r=>
   have:=o9 h;simp only;rw[s8 f g (n+1) _ (by rw[List.length_drop];omega) (by rw[List.length_drop];omega)]
def j7(n:Nat)(b:List UInt8):List Rec:=j6 b.length n b
theorem s_{n:Nat}{b:List UInt8}(h:eP n b=none):j7 n b=[]:=by
 unfold j7
 cases aw:b.length with
 |zero=>rfl
 |succ f=>simp[j6,h]
theorem x0{n:Nat}{b:List UInt8}{r:Rec}(h:eP n b=some r):j7 n b=r::j7 (n+1) (b.drop (13+r.length)):=by
 have d:=o9 h;unfold j7;rw[s8 b.length (b.length+1) n b (Nat.le_refl _) (by omega),j6,h];show r::j6 b.length (n+1) (b.drop (13+r.length))=_;rw[s8 b.length _ (n+1) (b.drop (13+r.length)) (by rw[List.length_drop];omega) (Nat.le_refl _)]
theorem Au:∀(a b c d:UInt8),jO (lk 0 [a,b,c,d])=[a,b,c,d]:=fun a b c d=>by
 have i:=a.toNat_lt;have aw:=b.toNat_lt;have av:=c.toNat_lt;have al:=d.toNat_lt;simp only[lk,List.foldl_cons,List.foldl_nil,jO,List.cons.injEq,and_true];refine⟨?_,?_,?_,?_⟩<;>(apply UInt8.toNat.inj;rw[UInt8.toNat_ofNat'];omega)
theorem xS{n:Nat}{b:List UInt8}{r:Rec}(h:eP n b=some r):b=kz n r++b.drop (13+r.length):=by
 have i:=o9 h;unfold eP at h;split at h
 ·cases h
 ·rename_i k
  split at h
  ·rename_i U
   have e:=Option.some.inj h;rw[e,←i.1]at U
   have o:b.take 4=jO r.length:=by
    rw[i.1];unfold fh
    match b,k with
    |a::b::c::d::t,_=>exact(Au a b c d).symm
   have q:(b.drop 12).take r.length=r:=by rw[i.1];exact e
   have A:b.drop (12+r.length)=67::b.drop (13+r.length):=by
    have j:12+r.length<b.length:=by omega
    rw[List.drop_eq_getElem_cons j,show 12+r.length+1=13+r.length by omega];have:=U.1;rw[List.getD_eq_getElem?_getD,List.getElem?_eq_getElem j]at this;rw[show b[12+r.length]=67 from this]
   calc b=b.take 4++b.drop 4:=(List.take_append_drop 4 b).symm
    _=b.take 4++((b.drop 4).take 8++(b.drop 4).drop 8):=congrArg (fun x=>b.take 4++x) (List.take_append_drop 8 (b.drop 4)).symm
    _=jO r.length++(jR n r++b.drop 12):=by rw[o,U.2,List.drop_drop]
    _=jO r.length++(jR n r++(r++(b.drop 12).drop r.length)):=by
     rw[show(b.drop 12)=(b.drop 12).take r.length++(b.drop 12).drop r.length from(List.take_append_drop _ _).symm,q];rw[List.drop_left' rfl]
    _=kz n r++b.drop (13+r.length):=by rw[List.drop_drop,A];unfold kz jf;simp
  ·cases h
def gu(b:List UInt8):Nat:=if b.take 8=gz then 0 else 16
def ea(b:List UInt8):List Rec:=if b.take 8=gz then j7 0 (b.drop 8)else[]
def m2(b:List UInt8):Nat:=if b.take 8=gz then(cS (ea b)).length else 0
theorem xY:∀(f:Nat) (n:Nat) (b:List UInt8),∀r∈j6 f n b,r.length≤1048576
 |0,_,_,r,h=>by cases h
 |f+1,n,b,r,h=>by
  unfold j6 at h;split at h
  ·cases h
  ·rename_i x d
   rcases List.mem_cons.1 h with e|h
   ·rw[e];exact(o9 d).2.2
   ·exact xY f _ _ r h
theorem xX(b:List UInt8):∀r∈ea b,r.length≤1048576:=fun r h=>by
 unfold ea at h;split at h
 ·exact xY _ _ _ r h
 ·cases h
theorem xZ:∀(f n:Nat) (b:List UInt8),b.length≤f→∃t,b=eZ n (j7 n b)++t∧eP (n+(j7 n b).length) t=none
 |0,n,b,h=>by
  have:eP n b=none:=by unfold eP;rw[if_pos (.inl (by omega))]
  rw[s_ this];exact⟨b,rfl,by simpa using this⟩
 |f+1,n,b,h=>by
  cases d:eP n b with
  |none=>rw[s_ d];exact⟨b,rfl,by simpa using d⟩
  |some r=>
   have i:=o9 d;obtain⟨t,e,U⟩:=xZ f (n+1) (b.drop (13+r.length)) (by rw[List.length_drop];omega);rw[x0 d];refine⟨t,?_,by rw[List.length_cons,show n+((j7 (n+1) (b.drop (13+r.length))).length+1)=n+1+(j7 (n+1) (b.drop (13+r.length))).length by omega];exact U⟩;rw[eZ,List.append_assoc,←e];exact xS d
theorem FU{b:List UInt8}(h:gu b=0):∃t,b=cS (ea b)++t∧eP (ea b).length t=none:=by
 have i:b.take 8=gz:=by unfold gu at h;split at h;assumption;cases h
 obtain⟨t,e,U⟩:=xZ _ 0 (b.drop 8) (Nat.le_refl _);have d:ea b=j7 0 (b.drop 8):=by unfold ea;rw[if_pos i]
 refine⟨t,?_,by rw[d];simpa using U⟩;rw[d];unfold cS;rw[List.append_assoc,←e,←i,List.take_append_drop]
end ki

namespace kG
open E Go.RowKit lJ mx nj oi rC pA fz f_ ki
set_option maxRecDepth 100000 in
theorem dv:c6 Tryz.prog 57 5 1 1:=⟨Tryz.underlying57,_,_,rfl,rfl,rfl,rfl,rfl⟩
set_option maxRecDepth 100000 in
theorem lq:c6 Tryz.prog 104 57 1 24:=⟨Tryz.underlying104,_,_,rfl,rfl,rfl,rfl,rfl⟩
abbrev cG(l:List (aM×Rec)):List Rec:=l.map (·.2)
theorem vQ{l:List (aM×Rec)}{i:Nat}(h:i<l.length):eZ 0 (cG (l.take (i+1)))=eZ 0 (cG (l.take i))++kz i l[i].2:=by
 have e:(cG (l.take i)).length=i:=by simp;omega
 rw[List.take_succ_eq_append_getElem h];unfold cG;rw[List.map_append,oG];unfold cG at e;rw[e];simp[eZ]
theorem C5(l:List (aM×Rec))(i:Nat):(eZ 0 (cG (l.take i))).length≤(eZ 0 (cG l)).length:=by
 have h:l=l.take i++l.drop i:=(List.take_append_drop i l).symm;have U:cG l=cG (l.take i)++cG (l.drop i):=by unfold cG;rw[←List.map_append,←h]
 rw[U,oG,List.length_append];omega
theorem C6{l:List (aM×Rec)}{i:Nat}(h:i<l.length):(eZ 0 (cG (l.take i))).length+(13+l[i].2.length)≤(eZ 0 (cG l)).length:=by
 have:=C5 l (i+1);rw[vQ h,List.length_append,tf]at this;exact this
theorem xL(k:Nat)(v:Value)(xs:List UInt8)(n:Nat)(x:UInt64)(w0:World)(I:Heap)
 (i:aU k 5 I a1 1 v xs) (aA:n≤8) (aY:xs.length≤1099511627776):
 aC Tryz.prog w0 187 #[v,.int .i64 n,.int .u64 x.toNat] I (fun r L=>∃v2:Value,∃a8:Nat,r=v2∧(aU a8 5 L a1 1 v2 (xs++dz.cj n x))∧(T k I.size a8)∧V (aE [k]) I L):=by
 refine aC.aK [v,.int .i64 n,.int .u64 x.toNat] Tryz.func187 ?_;intro aL aI;have C:V (aE [k]) I I:=V.refl _ _;have M:=T.refl k I.size;have ad:=i.le;refine G.L (fun an=>?_);refine o.aj ?_;refine an (G.t1 (fun ar=>G.L (fun ay=>?_)));refine o.W ?_;refine o.v1 fE ?_;refine o.aj ?_;refine ay (G.aB (fun _ az _=>?_))
 refine G.bd (fun(aJ:(Nat)×(Value)×(Nat)×(List UInt8))=>match aJ with|(j,A,t,ys)=>[(0,A),(2,.int .u64 x.toNat),(7,.int .i64 ((j:Int)-1))])
  (fun(j,A,t,ys) (H:Heap)=>(j≤n)∧(aU t 5 H a1 1 A ys)∧(ys++dz.cj j x=xs++dz.cj n x)∧(T k I.size (t))∧V (aE [k]) I H)
  (fun(j,A,t,ys)=>j) (n,v,k,xs) ⟨rfl,rfl,rfl,trivial⟩ ?_ ?_
 ·
  exact⟨(by omega),i,rfl,T.refl _ _,V.refl _ _⟩
 rintro⟨j,A,t,ys⟩ aB aF aK aH P;obtain⟨aX,i,E,ac,d⟩:=aF;have Q:T k I.size (t):=T.L (M) ac C.size;replace C:=C.aJ d (ag.J (aq.r M));have aN:=d.size;have ad:=i.le;have O:=ac;have aZ:ys.length+j=xs.length+n:=by have:=congrArg List.length E;simpa[dz.dR]using this
 refine G.t2 (fun R S=>G.L (fun W=>?_));refine o.W ?_;refine o.v1 dH (o.nil (W ?_));refine aT (fun X=>?_) (fun X=>?_)
 ·
  obtain⟨j,rfl⟩:∃q,j=q+1:=⟨j-1,by omega⟩;refine G.skip (R (G.t1 (fun Z=>G.aB (fun aa _ _=>G.region ?_))));refine o.ax 3 ?_;refine o.v1 (Y.jz rfl rfl rfl (by omega)) ?_;refine o.v1 (Y.ph (8*j) rfl rfl rfl (by first|rfl|omega) (by omega)) ?_;refine o.v1 (Y.oF rfl gT jF rfl) ?_;refine o.aO (cU _ ([UInt8.ofNat (iR x (8*j)).toNat]) dv eB fH (rfl)) fun aO ap ab=>?_;obtain⟨ai,F,aM,aj⟩:=ab;have aW:ap.size=aB.size+1:=by rw[aj];simp
  replace i:=i.M F;replace d:=d.bc F;have aQ:=F.size;refine o.aO (dO i ai.rd dv (by first|omega|(simp;omega)) (by first|omega|(simp;omega))) fun ae aR af=>?_;obtain⟨au,N,K,B⟩:=af;replace K:T (t) ap.size au:=K;replace B:=B.md;have ah:T k I.size au:=T.L (O) K d.size;replace d:=d.aJ B (ag.J (aq.r O));have aS:=B.size;have aV:=N.le;refine o.aj ?_;refine aa (Z (G.region ?_));refine o.W ?_;refine o.v1 fE ?_;refine o.aj ?_;refine aP.sub (aH (j,ae,au,ys++[UInt8.ofNat (iR x (8*j)).toNat]) _ ?_ ?_) ⟨rfl,(aD (by omega)),(aD (by omega)),trivial⟩
  ·exact⟨(by omega),N,by rw[←E,List.append_assoc];rfl,ah,d⟩
  ·first|omega|(simp only;omega)|(simp;omega)
 ·
  obtain rfl:j=0:=by omega
  rw[dz.cj,List.append_nil]at E;subst E;refine G.exit (S (P (az ?_)));refine ar (G.L (fun am=>?_));refine o.aR 2 ?_;refine am ?_;refine G.ret (aI ?_);exact⟨A,t,rfl,i,Q,C⟩
theorem Hb{d cs:List Value}(h:cs.length=d.length):ec cs 0 d=d:=by simp[ec,h]
theorem pZ(n:Nat)(s:aM)(rc:List UInt8)(w0:World)(I:Heap)
 (j:bw I a1 1 s.v rc) (aQ:rc.length≤1099511000000):
 aC Tryz.prog w0 180 #[.int .i64 (n:Int),s.v] I (fun r K=>∃t:aM,r=t.v∧(Rd (fun b=>I.size≤b) K a1 1 t.v (jR n rc))∧ak I K):=by
 refine aC.aK [.int .i64 (n:Int),s.v] Tryz.func180 ?_;intro aj ai;have d:ak I I:=V.refl _ _;replace j:=j.bt;refine G.L (fun Z=>?_);refine o.aj ?_;refine Z (G.L (fun ap=>?_));refine o.W ?_;refine o.v1 (Y.cast (v2:= .int .u64 (UInt64.ofNat n).toNat) (Y.hx rfl gl gT rfl) (rfl)) ?_;refine aV va (xL 0 _ [] 8 (UInt64.ofNat (n)) w0 _ (aU.nil eB fH) (by omega) (by simp)) ?_;rintro N O ⟨an,aR,rfl,ac,ar,C⟩;replace j:=j.ab C (az.J ay.z);replace d:=d.bl C (ag.cons aq.z ag.nil);have aA:=C.size;have aK:=ac.le;rw[List.nil_append]at ac;obtain⟨H,rfl⟩:∃s:aM,N=s.v:=⟨cg N,ac.bm.symm⟩;refine o.W ?_;refine o.aO (cU _ ([(H,dz.cj 8 (UInt64.ofNat n)),(s,rc)]) lq ny nz (rfl)) fun aB aa ab=>?_;obtain⟨R,A,aN,W⟩:=ab;have aL:aa.size=O.size+1:=by rw[W];simp
 replace j:=j.M A;replace ac:=ac.M A;replace d:=d.L A;have aD:=A.size;refine aV Bz (FZ _ [(H,dz.cj 8 (UInt64.ofNat n)),(s,rc)] w0 _ R.rd.any (fun x M=>by simp only[List.mem_cons,List.not_mem_nil,or_false]at M;rcases M with rfl|rfl;exact ac.rd.any;exact j.any) (by simp[cat,dz.dR];omega)) (fun aE B ae=>?_);obtain⟨rfl,ad⟩:=ae;replace d:=d.L ad;have aF:=ad.size;rw[show cat [(H,dz.cj 8 (UInt64.ofNat n)),(s,rc)]=(dz.cj 8 (UInt64.ofNat n)++rc)from by simp[cat]];refine o.aO (cQ nb) ?_;rintro v5 L ⟨rfl,k,au,aH,af⟩;have aO:L.size=B.size+1:=by rw[af];simp
 have ah:T 0 I.size (B.size+1):=T.new d.size;replace d:=d.L au;have aI:=au.size;replace k:Var 26 L B.size ((List.replicate 32 (0:UInt8)).map hE):=k;refine o.s1 (S.var k ((sumOf (dz.cj 8 (UInt64.ofNat n)++rc)).map hE) ((sumOf (dz.cj 8 (UInt64.ofNat n)++rc)).map hE) rfl rfl rfl rfl (by intro u hu;obtain⟨x,_,rfl⟩:=List.mem_map.1 hu;rfl) a_ (by simp[lC]) (by simp[lC]) (Hb (by simp[lC]))) fun aP X=>?_;obtain⟨k,q⟩:=X;replace q:=q.bp;replace d:=d.bl q (ag.J (aq.q ah));have aJ:=q.size;refine o.nil (ap (G.L (fun P=>?_)));refine o.aK (g:=fun v=>v) (Y.pk (F:=fun c=>c=B.size) (f:=a1) (xs:=sumOf (dz.cj 8 (UInt64.ofNat n)++rc)) k.N rfl k.lt (lC _) (fun i x h=>⟨by simp[h],rfl⟩) (0) (8) rfl (fun w=> .inl (k8 w)) cL rfl (.inl ⟨rfl,rfl⟩) (.inr ⟨_,_,_,rfl,rfl,by first|rfl|omega⟩) (by omega) (by omega) (by decide)) fun am E=>?_;rw[List.drop_zero]at E;obtain⟨Q,rfl⟩:∃s:aM,am=s.v:=⟨cg am,E.bm.symm⟩;refine o.aj ?_;refine P ?_;refine G.ret (ai ?_);exact⟨Q,rfl,(E.imp (fun b _ e=>by omega)),d⟩
theorem zw(n:Nat)(s:aM)(rc:List UInt8)(w0:World)(I:Heap)
 (d:bw I a1 1 s.v rc) (aI:rc.length≤4294967000):
 aC Tryz.prog w0 111 #[.int .i64 (n:Int),s.v] I (fun r E=>∃t:aM,∃k:Nat,r=t.v∧(aU k 5 E a1 1 t.v (jf n rc))∧(T 0 I.size k)∧ak I E):=by
 refine aC.aK [.int .i64 (n:Int),s.v] Tryz.func111 ?_;intro af ab;have i:ak I I:=V.refl _ _;replace d:=d.bt;refine G.L (fun Q=>?_);refine o.aj ?_;refine Q (G.L (fun R=>?_));refine o.W ?_;refine o.v1 (ba d db) ?_;refine o.v1 (Y.cast (v2:= .int .u64 (UInt64.ofNat rc.length).toNat) (Y.hx rfl gl gT rfl) (rfl)) ?_;refine aV va (xL 0 _ [] 4 (UInt64.ofNat (rc.length)) w0 _ (aU.nil eB fH) (by omega) (by simp)) ?_;rintro H ae ⟨ah,aJ,rfl,ac,ai,A⟩;replace d:=d.ab A (az.J ay.z);replace i:=i.bl A (ag.cons aq.z ag.nil);have aj:=A.size;have aE:=ac.le;rw[List.nil_append]at ac;obtain⟨C,rfl⟩:∃s:aM,H=s.v:=⟨cg H,ac.bm.symm⟩;rw[Fx _ (by omega)]at ac;refine o.ax 2 ?_;refine aV u7 (pZ n s rc w0 _ d.any (by omega)) (fun an S W=>?_);obtain⟨B,rfl,j,ad⟩:=W;replace d:=d.M ad;replace ac:=ac.M ad;replace i:=i.L ad;have ar:=ad.size;replace j:=j.bt;refine o.W ?_;refine o.aO (cU _ ([(C,jO rc.length),(B,jR n rc),(s,rc)]) lq ny nz (rfl)) fun X Z aa=>?_;obtain⟨M,q,aH,N⟩:=aa;have aF:Z.size=S.size+1:=by rw[N];simp
 replace d:=d.M q;replace ac:=ac.M q;replace j:=j.M q;replace i:=i.L q;have aA:=q.size;refine aV u_ (vD X [(C,jO rc.length),(B,jR n rc),(s,rc)] w0 _ M.rd.any (fun x F=>by simp only[List.mem_cons,List.not_mem_nil,or_false]at F;rcases F with rfl|rfl|rfl;exact ac.rd.any;exact j.any;exact d.any) (by simp[gp,uE,vA];omega)) (fun aB aD K=>?_);obtain⟨L,ap,rfl,O,P,au⟩:=K;have am:T 0 I.size ap:=T.L (T.refl 0 _) P i.size;replace i:=i.L au;refine o.aj ?_;refine R ?_;refine G.ret (ab ?_);exact⟨L,ap,rfl,by have e:gp [(C,jO rc.length),(B,jR n rc),(s,rc)]=jf n rc:=(by simp[gp,jf]);rw[←e];exact O,am,i⟩
theorem C8(s:aM)(l:List (aM×Rec))(w0:World)(I:Heap)
 (n:bw I iF 1 s.v l) (A:∀x∈l,bw I a1 1 x.1.v x.2) (bl:∀x∈l,x.2.length≤1048576) (bQ:(eZ 0 (cG l)).length≤1099510000000):
 aC Tryz.prog w0 171 #[s.v] I (fun r aa=>∃t:aM,∃k:Nat,r=t.v∧(aU k 5 aa a1 1 t.v (cS (cG l)))∧(T 0 I.size k)∧ak I aa):=by
 refine aC.aK [s.v] Tryz.func171 ?_;intro bq bk;have q:ak I I:=V.refl _ _;replace n:=n.bt;have am:=n.bY;replace A:=fun x C=>(A x C).bt;have bd:bg (fun b=>True∧b<I.size) I.size:=fun b h=>h.2;have bU:=n.len;refine G.L (fun aL=>?_);refine o.aj ?_;refine aL (G.L (fun aN=>?_));refine o.aO (cU _ (gz) dv eB fH (rfl)) ?_;rintro v6 an ⟨d,N,bz,aO⟩;have bu:an.size=I.size+1:=by rw[aO];simp
 have ab:=(ay.new (am.mono q.size):ay _ (I.size+1));have ae:=(ay.new (bd.mono q.size):ay _ (I.size+1));have W:T 0 I.size (I.size+1):=T.new q.size;replace n:=n.M N;replace A:=fun x C=>(A x C).M N;replace q:=q.L N;have bA:=N.size;refine o.aO (Z.uD d (by decide) rfl Tryz.underlying57 Tryz.underlying5 rfl) ?_;rintro bo K ⟨rfl,d,au⟩;replace au:=au.md;replace n:=n.ab au (az.J ab);replace A:=fun x C=>(A x C).ab au (az.J ae);replace q:=q.bl au (ag.J (aq.q W));have bC:=au.size;refine o.aj ?_;refine aN (G.t1 (fun aQ=>G.L (fun aR=>?_)));refine o.W ?_;refine o.v1 (ba n h6) ?_;refine o.W (o.nil (aR ?_));refine G.aB (fun _ aS _=>?_)
 refine G.bd (fun(bn:(Nat)×(Value)×(Nat))=>match bn with|(i,E,B)=>[(3,E),(8,s.v),(9,.int .i64 (l.length:Int)),(10,.int .i64 (i:Int))])
  (fun(i,E,B) (H:Heap)=>(i≤l.length)∧(aU B 5 H a1 1 E (gz++eZ 0 (cG (l.take i))))∧(T (I.size+1) K.size B)∧V (aE [(I.size+1)]) K H)
  (fun(i,E,B)=>l.length-i) (0,bo,(I.size+1)) ⟨rfl,rfl,rfl,rfl,trivial⟩ ?_ ?_
 ·
  exact⟨(by omega),by simpa only[List.take_zero,cG,List.map_nil,eZ,List.append_nil]using d,T.refl _ _,V.refl _ _⟩
 rintro⟨i,E,B⟩ bT aW bp aX aY;obtain⟨bS,d,ai,j⟩:=aW;have aZ:T 0 I.size B:=T.L (W) ai q.size;replace n:=n.ab j (az.J ab);replace A:=fun x C=>(A x C).ab j (az.J ae);replace q:=q.bl j (ag.J (aq.q W));have be:=j.size;have ac:=d.le;have af:=ai;refine G.L (fun a6=>?_);refine o.v1 bG (o.nil (a6 ?_));refine G.t2 (fun a7 a8=>?_);refine aT (fun a_=>?_) (fun a_=>?_)
 ·
  refine G.skip (a7 (G.t1 (fun bb=>G.aB (fun bf _ _=>G.L (fun bh=>?_)))));refine o.W ?_;have F:i<l.length:=by omega
  have bR:=C6 F;have bm:=A l[i] (List.getElem_mem F);have bV:=bl l[i] (List.getElem_mem F);have bP:gz.length=8:=rfl;have bX:=oT i l[i].2;refine o.bR (Y.bJ n (i) rfl h6 da rfl rfl) fun a0 bj=>?_;refine o.v1 (ar bj.N eA) ?_;refine o.aR 2 ?_;refine bh (G.region ?_);refine o.ax 3 ?_;refine aV uW (zw i l[i].1 l[i].2 w0 _ bm.any (by omega)) (fun bE a2 a3=>?_);obtain⟨bF,bi,rfl,ap,a4,P⟩:=a3;replace d:=d.M P;replace j:=j.bc P;have bH:=P.size;have bx:=ap.le;refine o.aO (dO d ap.rd dv (by simp only[List.length_append];omega) (by simp only[List.length_append];omega)) fun aB a5 aA=>?_;obtain⟨X,d,Q,L⟩:=aA;replace Q:T B a2.size X:=Q;replace L:=L.md;have aj:T (I.size+1) K.size X:=T.L (af) Q j.size;replace j:=j.aJ L (ag.J (aq.r af));have bJ:=L.size;have ac:=d.le;refine o.aO (cU _ ([(67:UInt8)]) dv eB fH (rfl)) fun bL ah aF=>?_;obtain⟨aH,R,bs,aI⟩:=aF;have bt:ah.size=a5.size+1:=by rw[aI];simp
  replace d:=d.M R;replace j:=j.bc R;have bM:=R.size;refine o.aO (dO d aH.rd dv (by simp only[List.length_append,List.length_singleton];omega) (by simp only[List.length_append,List.length_singleton];omega)) fun a9 bN bc=>?_;obtain⟨O,d,S,M⟩:=bc;replace S:T X ah.size O:=S;replace M:=M.md;have aJ:T (I.size+1) K.size O:=T.L (aj) S j.size;replace j:=j.aJ M (ag.J (aq.r aj));have bO:=M.size;have ac:=d.le;refine o.aj ?_;refine bf (bb (G.region ?_));refine o.v1 bD ?_;refine o.W (o.nil ?_);refine aP.sub (aX (i+1,a9,O) _ ?_ ?_) ⟨rfl,rfl,(aD (by omega)),(aD (by omega)),trivial⟩
  ·exact⟨(by omega),by rw[vQ F,←List.append_assoc];unfold kz;rw[←List.append_assoc];exact d,aJ,j⟩
  ·first|omega|(simp only;omega)|(simp;omega)
 ·
  refine G.exit (a8 (aY (aS ?_)));refine aQ (G.L (fun aK=>?_));refine o.aR 2 ?_;refine aK ?_;refine G.ret (bk ?_);have F:i=l.length:=by omega
  rw[F,List.take_length]at d;obtain⟨so,rfl⟩:∃s:aM,E=s.v:=⟨cg E,d.bm.symm⟩;exact⟨so,B,rfl,d,aZ,q⟩
theorem v_(s t:aM)(a b:List UInt8)(w0:World)(I:Heap)
 (d:bw I a1 1 s.v a) (aw:bw I a1 1 t.v b):
 aC Tryz.prog w0 179 #[s.v,t.v] I (fun r i=>r= .bool (decide (a=b))∧ak I i):=by
 refine aC.aK [s.v,t.v] Tryz.func179 ?_;intro x q;have n:ak I I:=V.refl _ _;replace d:=d.bt;replace aw:=aw.bt;refine G.L (fun j=>?_);refine o.aj ?_;refine j (G.L (fun k=>?_));refine o.W ?_;refine o.v1 (Y.nr d rfl Tryz.underlying57 Tryz.underlying9 Tryz.underlying5 rfl) ?_;refine o.W ?_;refine o.v1 (Y.nr aw rfl Tryz.underlying57 Tryz.underlying9 Tryz.underlying5 rfl) ?_;refine o.v1 (Y.jB rfl rfl rfl) ?_;refine o.aj ?_;refine k ?_;refine G.ret (q ?_);exact⟨rfl,n⟩
end kG

namespace lh
open E Go.RowKit lJ mx nj oi rC pA fz f_ ki kG
set_option maxRecDepth 100000 in
theorem dv:c6 Tryz.prog 57 5 1 1:=⟨Tryz.underlying57,_,_,rfl,rfl,rfl,rfl,rfl⟩
set_option maxRecDepth 100000 in
theorem lq:c6 Tryz.prog 104 57 1 24:=⟨Tryz.underlying104,_,_,rfl,rfl,rfl,rfl,rfl⟩
theorem Ay{b:List UInt8}(h:4≤b.length):((b[0].toNat*2^24|||b[1].toNat*2^16)|||b[2].toNat*2^8)|||b[3].toNat=fh b:=by
 match b,h with
 |a::b::c::d::t,_=>
  have j:=a.toNat_lt;have U:=b.toNat_lt;have k:=c.toNat_lt;have n:=d.toNat_lt
  have aK:a.toNat*2^24|||b.toNat*2^16=(a.toNat*256+b.toNat)*2^16:=by
   rw[show a.toNat*2^24=(a.toNat*2^8)*2^16 by omega,←Nat.shiftLeft_eq _ 16,←Nat.shiftLeft_eq b.toNat 16,←Nat.shiftLeft_or_distrib,s4,Nat.shiftLeft_eq]
  have i:(a.toNat*256+b.toNat)*2^16|||c.toNat*2^8=((a.toNat*256+b.toNat)*256+c.toNat)*2^8:=by
   rw[show(a.toNat*256+b.toNat)*2^16=((a.toNat*256+b.toNat)*2^8)*2^8 by omega,←Nat.shiftLeft_eq _ 8,←Nat.shiftLeft_eq c.toNat 8,←Nat.shiftLeft_or_distrib,s4,Nat.shiftLeft_eq]
  simp only[List.getElem_cons_zero,List.getElem_cons_succ];rw[aK,i,s4];simp[fh,lk]
structure kf (b:List UInt8) (l:List Rec) (at_:Nat):Prop where
 l1:at_=(cS l).length
 eq:b=cS l++b.drop at_
 pp:ea b=l++j7 l.length (b.drop at_)
 e:gu b=0
theorem kf.le{b:List UInt8}{l:List Rec}{a:Nat}(h:kf b l a):a≤b.length:=by
 have d:=congrArg List.length h.eq;rw[List.length_append,←h.l1]at d;omega
theorem kf.start{b:List UInt8}(h:b.take 8=gz):kf b [] 8:=
 ⟨rfl,by show b=(gz++[])++b.drop 8;rw[List.append_nil,←h,List.take_append_drop],by unfold ea;rw[if_pos h];rfl,by unfold gu;rw[if_pos h]⟩
theorem kf.step{b:List UInt8}{l:List Rec}{a:Nat}{r:Rec}(h:kf b l a)(d:eP l.length (b.drop a)=some r):kf b (l++[r]) (a+(13+r.length)):=by
 have U:=xS d;refine⟨by rw[r7,List.length_append,tf,←h.l1],?_,?_,h.e⟩
 ·rw[r7,List.append_assoc,←List.drop_drop,←U];exact h.eq
 ·rw[h.pp,x0 d,List.drop_drop,List.append_assoc];simp
theorem kf.stop{b:List UInt8}{l:List Rec}{a:Nat}(h:kf b l a)(d:eP l.length (b.drop a)=none):l=ea b∧a=m2 b:=by
 have U:l=ea b:=by rw[h.pp,s_ d,List.append_nil]
 refine⟨U,?_⟩;have i:b.take 8=gz:=by have:=h.e;unfold gu at this;split at this;assumption;cases this
 unfold m2;rw[if_pos i,←U];exact h.l1
theorem FE{n:Nat}{b:List UInt8}(h:b.length≤12):eP n b=none:=by unfold eP;rw[if_pos (.inl h)]
theorem xR{n:Nat}{b:List UInt8}(h:1048576<fh b∨b.length≤12+fh b):eP n b=none:=by unfold eP;rw[if_pos (by omega)]
theorem FD{n:Nat}{b:List UInt8}(h:b.getD (12+fh b) 0≠67):eP n b=none:=by
 unfold eP;split
 ·rfl
 ·rw[if_neg (fun U=>h U.1)]
theorem FC{n:Nat}{b:List UInt8}(h:(b.drop 4).take 8≠jR n ((b.drop 12).take (fh b))):eP n b=none:=by
 unfold eP;split
 ·rfl
 ·rw[if_neg (fun U=>h U.2)]
theorem FF{n:Nat}{b:List UInt8}(j:¬b.length≤12)(k:¬1048576<fh b)(U:¬b.length≤12+fh b)(d:b.getD (12+fh b) 0=67)(i:(b.drop 4).take 8=jR n ((b.drop 12).take (fh b))):eP n b=some ((b.drop 12).take (fh b)):=by
 unfold eP;rw[if_neg (by omega),if_pos ⟨d,i⟩]
theorem y5(b:List UInt8)(i n:Nat):(b.take (i+n)).drop i=(b.drop i).take n:=by rw[List.drop_take];congr 1;omega
theorem HV{x:UInt8}{n:Nat}(h:(x.toNat:Int)≠(n:Int))(aA:n<256):x≠UInt8.ofNat n:=fun e=>h (by rw[e,UInt8.toNat_ofNat'];omega)
theorem HU{x:UInt8}{n:Nat}(h:(x.toNat:Int)=(n:Int))(aA:n<256):x=UInt8.ofNat n:=UInt8.toNat.inj (by rw[UInt8.toNat_ofNat'];omega)
theorem iz{b:List UInt8}{i:Nat}(h:i<b.length):b.getD i 0=b[i]:=by rw[List.getD_eq_getElem?_getD,List.getElem?_eq_getElem h];rfl
theorem ay.eG{aS:Nat→Prop}{d k:Nat}(h:ay aS k)(i:af k d):ay (fun b=>aS b∨b+1=d) k:=by
 rintro b (e|e) U
 ·exact h b e U
 ·exact i b U e
theorem bg.eG{aS:Nat→Prop}{n d:Nat}(h:bg aS n)(i:d≤n):bg (fun b=>aS b∨b+1=d) n:=by
 rintro b (e|e)
 ·exact h b e
 ·omega
theorem s5{a b:Nat}(d:a<2^62)(U:b<2^62):a|||b<2^62:=Nat.or_lt_two_pow d U
theorem vT(l:List Rec):l.length≤(cS l).length:=by
 rw[C7]
 have:∀l:List Rec,l.length≤(l.map (fun r=>13+r.length)).sum:=fun l=>by
  induction l with
  |nil=>simp
  |cons r l ih=>simp only[List.length_cons,List.map_cons,List.sum_cons];omega
 have:=this l;omega
theorem G8{α:Type}{F aS:Nat→Prop}{H:Heap}{fb:α→aM×Rec}{l:List (aM×Rec)}{x:aM×Rec}(h:∀y∈l,Rd F H a1 1 y.1.v y.2)(d:∀b,F b→aS b)(i:Rd aS H a1 1 x.1.v x.2):∀y∈l++[x],Rd aS H a1 1 y.1.v y.2:=fun y hy=>by
 rcases List.mem_append.1 hy with hy|hy
 ·exact(h y hy).imp (fun b _ e=>d b e)
 ·rw[List.mem_singleton.1 hy];exact i
theorem DD(s t:aM)(a p:List UInt8)(w0:World)(I:Heap)
 (i:bw I a1 1 s.v a) (aw:bw I a1 1 t.v p):
 aC Tryz.prog w0 178 #[s.v,t.v] I (fun r x=>r= .bool (decide (a.take p.length=p))∧ak I x):=by
 refine aC.aK [s.v,t.v] Tryz.func178 ?_;intro F q;have j:ak I I:=V.refl _ _;replace i:=i.bt;replace aw:=aw.bt;refine G.L (fun ad=>?_);refine o.aj ?_;refine ad (G.L (fun n=>?_));refine o.W ?_;refine o.v1 (ba i db) ?_;refine o.W ?_;refine o.v1 (ba aw db) ?_;refine o.v1 dH ?_;refine o.W ?_;refine o.bj (d:=10) rfl (fun B=>?_) (fun B=>?_)
 ·
  refine o.ax 2 ?_;refine o.an (ba aw db) ?_;refine o.e (g:=fun v=>v) (Y.slice i (0) (p.length) rfl db cL rfl (.inl ⟨rfl,rfl⟩) (.inr ⟨_,_,_,rfl,rfl,by first|rfl|omega⟩) (by omega) (by omega)) bh rfl rfl (fun ac k=>?_);rw[List.drop_zero]at k;obtain⟨C,rfl⟩:∃s:aM,ac=s.v:=⟨cg ac,k.bm.symm⟩;refine o.bU ?_;refine o.call rfl u6 rfl bh rfl rfl (v_ C t (a.take p.length) p w0 _ k.any aw.any) (fun H K E=>?_);obtain⟨rfl,A⟩:=E;replace j:=j.L A;refine o.aR 2 ?_;refine n ?_;refine G.ret (q ?_);exact⟨rfl,j⟩
 ·
  refine o.aR 8 ?_;refine n ?_;refine G.ret (q ?_);exact⟨by rw[decide_eq_false (fun h=>by have U:=congrArg List.length h;rw[List.length_take]at U;omega)],j⟩
set_option maxHeartbeats 2000000 in
theorem x1(s:aM)(b:List UInt8)(w0:World)(I:Heap)
 (aw:bw I a1 1 s.v b) (dt:b.length≤1000000000):
 aC Tryz.prog w0 91 #[s.v] I (fun r aQ=>∃t:aM,∃l:List (aM×Rec),r= .tuple #[t.v,.int .i64 (m2 b:Int),.int .i64 (gu b:Int)]∧(cG l=ea b)∧(Rd (fun b=>I.size≤b) aQ iF 1 t.v l)∧(∀x∈l,Rd (fun b=>I.size≤b) aQ a1 1 x.1.v x.2)∧ak I aQ):=by
 refine aC.aK [s.v] Tryz.func91 ?_;intro cM ae;have k:ak I I:=V.refl _ _;replace aw:=aw.bt;have bS:=aw.bY;refine G.L (fun cv=>?_);refine o.aR 3 ?_;refine cv (G.q0 (fun _ aa=>G.t2 (fun bv cw=>G.L (fun cy=>?_))));refine o.W ?_;refine o.aO (cU _ (gz) dv eB fH (rfl)) fun cO cz bZ=>?_;obtain⟨ap,aY,cW,bz⟩:=bZ;have c6:cz.size=I.size+1:=by rw[bz];simp
 have b0:=(ay.new (bS.mono k.size):ay _ (I.size+1));have b1:T 0 I.size (I.size+1):=T.new k.size;replace aw:=aw.M aY;replace k:=k.L aY;have cP:=aY.size;refine o.aO (Z.uD ap (by decide) rfl Tryz.underlying57 Tryz.underlying5 rfl) fun aB cQ b2=>?_;obtain⟨rfl,ap,aj⟩:=b2;replace aj:=aj.md;replace aw:=aw.ab aj (az.J b0);replace k:=k.bl aj (ag.J (aq.q b1));have cT:=aj.size;obtain⟨b3,rfl⟩:∃s:aM,aB=s.v:=⟨cg aB,ap.bm.symm⟩;refine aV Bp (DD s b3 b gz w0 _ aw.any ap.rd.any) (fun cV aW b4=>?_);obtain⟨rfl,aZ⟩:=b4;replace aw:=aw.M aZ;replace k:=k.L aZ;have c5:=aZ.size;refine o.v1 (Y.h2 rfl rfl) (o.nil (cy ?_));refine aT (fun aX=>?_) (fun aX=>?_)
 ·
  refine G.L (fun b5=>?_);refine o.aR 3 ?_;refine b5 ?_;refine G.ret (cw (aa (ae ?_)));have aJ:¬b.take 8=gz:=aX;exact⟨⟨none,0,0⟩,[],by unfold m2 gu;rw[if_neg aJ,if_neg aJ];rfl,by unfold ea;rw[if_neg aJ];rfl,Rd.nil _ _ _ _,(fun x h=>by cases h),k⟩
 ·
  have aJ:b.take 8=gz:=Decidable.byContradiction (fun h=>aX h);refine G.skip (bv (G.L (fun b6=>?_)));refine o.aj ?_;refine b6 (G.L (fun b7=>?_));refine o.aj ?_;refine b7 (G.t1 (fun b8=>?_));refine G.label ?_;refine b8 (G.t1 (fun aH=>G.aB (fun _ an _=>?_)))
  refine G.bd (fun(cK:(Nat)×(Value)×(Nat)×(List (aM×Rec))×(Nat→Prop))=>match cK with|(a,A,N,l,aS)=>[(0,s.v),(5,A),(6,.int .i64 (a:Int))])
   (fun(a,A,N,l,aS) (H:Heap)=>(kf b (cG l) a)∧(aU N 57 H iF 1 A l)∧(∀x∈l,Rd aS H a1 1 x.1.v x.2)∧(bg aS H.size)∧(ay aS N)∧(∀c,aS c→I.size≤c)∧(T 0 aW.size N)∧ak aW H)
   (fun(a,A,N,l,aS)=>b.length-a) (8,.slice none 0 0,0,[],fun _=>False) ⟨rfl,rfl,rfl,trivial⟩ ?_ ?_
  ·
   exact⟨kf.start aJ,aU.nil ny nz,(fun x h=>by cases h),(fun b e=>e.elim),(fun b e=>e.elim),(fun c e=>e.elim),T.refl _ _,V.refl _ _⟩
  rintro⟨a,A,N,l,aS⟩ bl b9 da bA aA;obtain⟨B,i,n,bj,f1,ab,bk,q⟩:=b9;have ai:T 0 I.size N:=T.L (T.refl 0 _) bk k.size;replace aw:=aw.M q;replace k:=k.L q;have dc:=q.size;have bR:=i.le;have bm:=bk;have dq:=B.le;have dz:(b.drop a).length=b.length-a:=List.length_drop;have a8:(cG l).length=l.length:=by simp[cG]
  have dx:=B.l1;have dw:l.length≤(cS (cG l)).length:=by rw[←a8];exact vT _
  refine G.aB (fun bC _ aE=>G.L (fun bE=>?_));refine o.ax 2 ?_;refine o.aK (g:=fun v=>v) (Y.slice aw (a) (_) rfl db cL rfl (.inr ⟨_,_,_,rfl,rfl,by first|rfl|omega⟩) (.inl ⟨rfl,rfl⟩) (by omega) (by omega)) fun de K=>?_;rw[List.take_length]at K;refine o.aj ?_;refine bE (G.t2 (fun bF bG=>G.L (fun bH=>?_)));refine o.W ?_;refine o.v1 (ba K db) ?_;refine o.v1 eH (o.nil (bH ?_));refine aT (fun b_=>?_) (fun b_=>?_)
  ·
   have L:eP (cG l).length (b.drop a)=none:=FE (by omega);refine G.exit (bG (aE (aA (an ?_))));refine aH (G.L (fun bJ=>?_));refine o.aR 5 ?_;refine bJ ?_;refine G.ret (aa (ae ?_));obtain⟨P,Q⟩:=B.stop L;obtain⟨so,rfl⟩:∃s:aM,A=s.v:=⟨cg A,i.bm.symm⟩;exact⟨so,l,by rw[B.e,←Q];rfl,P,(i.rd.imp (fun c _ e=>by have E:=(ai);unfold T at E;omega)),(fun x h=>(n x h).imp (fun c _ e=>ab c e)),k⟩
  ·
   have dp:12<(b.drop a).length:=by omega
   have cC:=Ay (b:=b.drop a) (by omega);have dr:fh (b.drop a)<4294967296:=Ax _ (by rw[List.length_take];omega);refine G.skip (bF (G.t1 (fun bL=>?_)));refine hf ?_;refine o.W ?_;refine o.bR (Y.bJ K (0) rfl db cL rfl rfl) fun cY bM=>?_;refine o.v1 (ar bM.N dQ) ?_;refine o.v1 (Y.p4 rfl jF gl rfl) ?_;refine o.v1 (Y.k1 (24) rfl rfl rfl (by first|rfl|omega) (by omega) (by have:=((b.drop a)[0]).toNat_lt;omega)) ?_;refine o.W ?_;refine o.bR (Y.bJ K (1) rfl db cL rfl rfl) fun cZ bN=>?_;refine o.v1 (ar bN.N dQ) ?_;refine o.v1 (Y.p4 rfl jF gl rfl) ?_;refine o.v1 (Y.k1 (16) rfl rfl rfl (by first|rfl|omega) (by omega) (by have:=((b.drop a)[1]).toNat_lt;omega)) ?_;refine o.v1 (Y.jj rfl rfl rfl (by have aI:=(b.drop a)[0].toNat_lt;omega) (by have aI:=(b.drop a)[1].toNat_lt;omega)) ?_;refine o.W ?_;refine o.bR (Y.bJ K (2) rfl db cL rfl rfl) fun c0 bO=>?_;refine o.v1 (ar bO.N dQ) ?_;refine o.v1 (Y.p4 rfl jF gl rfl) ?_;refine o.v1 (Y.k1 (8) rfl rfl rfl (by first|rfl|omega) (by omega) (by have:=((b.drop a)[2]).toNat_lt;omega)) ?_;refine o.v1 (Y.jj rfl rfl rfl (by have aI:=(b.drop a)[0].toNat_lt;have cB:=(b.drop a)[1].toNat_lt;exact Nat.le_trans (Nat.le_of_lt (s5 (by omega) (by omega))) (by decide)) (by have aI:=(b.drop a)[2].toNat_lt;omega)) ?_;refine o.W ?_;refine o.bR (Y.bJ K (3) rfl db cL rfl rfl) fun c2 bP=>?_;refine o.v1 (ar bP.N dQ) ?_;refine o.v1 (Y.p4 rfl jF gl rfl) ?_;refine o.v1 (Y.cast (v2:= .int .i64 (fh (b.drop a):Int)) (Y.jj rfl rfl rfl (by have aI:=(b.drop a)[0].toNat_lt;have cB:=(b.drop a)[1].toNat_lt;have U:=(b.drop a)[2].toNat_lt;exact Nat.le_trans (Nat.le_of_lt (s5 (s5 (by omega) (by omega)) (by omega))) (by decide)) (by have aI:=(b.drop a)[3].toNat_lt;omega)) (by rw[cC])) ?_;refine o.aj ?_;refine bL (G.t2 (fun a0 a_=>G.L (fun bb=>?_)));refine o.W ?_;refine o.v1 eT ?_;refine o.W ?_;refine o.bj (d:=45) rfl (fun ca=>?_) (fun ca=>?_)
   ·
    have L:eP (cG l).length (b.drop a)=none:=xR (.inl (by omega));refine o.ax 6 ?_;refine o.nil (bb ?_);refine G.ix rfl ?_;refine G.exit (a_ (aE (aA (an ?_))));refine aH (G.L (fun a2=>?_));refine o.aR 5 ?_;refine a2 ?_;refine G.ret (aa (ae ?_));obtain⟨P,Q⟩:=B.stop L;obtain⟨so,rfl⟩:∃s:aM,A=s.v:=⟨cg A,i.bm.symm⟩;exact⟨so,l,by rw[B.e,←Q];rfl,P,(i.rd.imp (fun c _ e=>by have E:=(ai);unfold T at E;omega)),(fun x h=>(n x h).imp (fun c _ e=>ab c e)),k⟩
   ·
    refine o.bU ?_;refine o.an (ba K db) ?_;refine o.an fE ?_;refine o.bU ?_;refine o.an eH ?_;refine o.dF ?_;refine o.nil (bb ?_);refine aT (fun cb=>?_) (fun cb=>?_)
    ·
     have L:eP (cG l).length (b.drop a)=none:=xR (.inr (by omega));refine G.exit (a_ (aE (aA (an ?_))));refine aH (G.L (fun a3=>?_));refine o.aR 5 ?_;refine a3 ?_;refine G.ret (aa (ae ?_));obtain⟨P,Q⟩:=B.stop L;obtain⟨so,rfl⟩:∃s:aM,A=s.v:=⟨cg A,i.bm.symm⟩;exact⟨so,l,by rw[B.e,←Q];rfl,P,(i.rd.imp (fun c _ e=>by have E:=(ai);unfold T at E;omega)),(fun x h=>(n x h).imp (fun c _ e=>ab c e)),k⟩
    ·
     have dy:(((b.drop a).drop 12).take (fh (b.drop a))).length=fh (b.drop a):=by rw[List.length_take,List.length_drop];omega
     refine G.skip (a0 (G.L (fun a4=>?_)));refine o.ax 2 ?_;refine o.v1 bD ?_;refine o.aK (g:=fun v=>v) (Y.slice K (12) (12+fh (b.drop a)) rfl db cL rfl (.inr ⟨_,_,_,rfl,rfl,by first|rfl|omega⟩) (.inr ⟨_,_,_,rfl,rfl,by first|rfl|omega⟩) (by omega) (by omega)) fun bn W=>?_;rw[y5]at W;obtain⟨cc,rfl⟩:∃s:aM,bn=s.v:=⟨cg bn,W.bm.symm⟩;refine o.aj ?_;refine a4 (G.t2 (fun a5 bc=>G.t1 (fun bd=>?_)));refine dC (fun C=>ak bl C) [] ?_;have j:=ak.refl bl;refine O.W 0 rfl j ?_;refine O.W 1 rfl j ?_;refine O.t1 2 rfl (fun C F=>bD) j ?_;refine O.e (g:=fun ad=> .pointer (some ad)) 3 (by kernel_rfl) rfl (by kernel_rfl) (by kernel_rfl) (by kernel_rfl) (Y.bJ K (12+fh (b.drop a)) rfl db cL rfl rfl) cR rfl rfl j (fun c3 bq=>?_);refine O.t1 4 rfl (fun C F=>ar (bq.N.M F) dQ) j ?_;refine O.t1 5 rfl (fun C F=>c1) j ?_;refine O.W 6 rfl j ?_;refine O.bj (d:=62) rfl (fun aR=>?_) (fun aR=>?_)
     ·
      have L:eP (cG l).length (b.drop a)=none:=FD (by rw[iz (by omega)];exact HV aR (by decide));refine O.g1 7 rfl rfl rfl rfl j ?_;refine O.g1 8 rfl rfl rfl rfl j ?_;refine O.g1 9 rfl rfl rfl rfl j ?_;refine O.g1 10 rfl rfl rfl rfl j ?_;refine O.g1 11 rfl rfl rfl rfl j ?_;refine O.g1 12 rfl rfl rfl rfl j ?_;refine O.g1 13 rfl rfl rfl rfl j ?_;refine O.g1 14 rfl rfl rfl rfl j ?_;refine O.t1 15 rfl (fun C F=>eh) j ?_;refine cD ?_;have cH:=j;refine bd ?_;refine G.ix rfl ?_;refine G.exit (bc (aE (aA (an ?_))));refine aH (G.L (fun bs=>?_));refine o.aR 5 ?_;refine bs ?_;refine G.ret (aa (ae ?_));obtain⟨P,Q⟩:=B.stop L;obtain⟨so,rfl⟩:∃s:aM,A=s.v:=⟨cg A,i.bm.symm⟩;exact⟨so,l,by rw[B.e,←Q];rfl,P,(i.rd.imp (fun c _ e=>by have E:=(ai);unfold T at E;omega)),(fun x h=>(n x h).imp (fun c _ e=>ab c e)),k⟩
     ·
      have cE:(b.drop a).getD (12+fh (b.drop a)) 0=67:=by rw[iz (by omega)];exact HU (Decidable.byContradiction aR) (by decide)
      refine O.bQ 7 rfl (fun C F=>fp) bh j ?_;refine O.e (g:=fun v=>v) 8 (by kernel_rfl) rfl (by kernel_rfl) (by kernel_rfl) (by kernel_rfl) (Y.slice K (4) (12) rfl db cL rfl (.inr ⟨_,_,_,rfl,rfl,by first|rfl|omega⟩) (.inr ⟨_,_,_,rfl,rfl,by first|rfl|omega⟩) (by omega) (by omega)) bh rfl rfl j (fun bo aK=>?_);rw[show(12:Nat)=4+8 from rfl,y5]at aK;obtain⟨cd,rfl⟩:∃s:aM,bo=s.v:=⟨cg bo,aK.bm.symm⟩;refine O.bQ 9 rfl (fun C F=>fp) bh j ?_;refine O.bQ 10 rfl (fun C F=>Y.cast (v2:= .int .i64 (l.length:Int)) (ba (i.rd.M F) h6) (rfl)) bh j ?_;refine O.bQ 11 rfl (fun C F=>fp) bh j ?_;refine O.aY 12 ?_;refine dD.call rfl rfl u7 rfl bh rfl rfl (pZ l.length cc (((b.drop a).drop 12).take (fh (b.drop a))) w0 _ W.any (by omega)) (fun df ct cf=>?_);obtain⟨ch,rfl,a6,R⟩:=cf;replace i:=i.M R;replace n:=fun x M=>(n x M).M R;replace W:=W.M R;replace aK:=aK.M R;replace k:=k.L R;replace q:=q.L R;have ce:=R.size;replace a6:=a6.bt;have bt:=j.L R;refine O.cn bt ?_;have bu:=ak.refl ct;refine O.aY 13 ?_;refine dD.call rfl rfl u6 rfl bh rfl rfl (v_ cd ch _ _ w0 _ aK.any a6.any) (fun dg cu cj=>?_);obtain⟨rfl,ac⟩:=cj;replace i:=i.M ac;replace n:=fun x M=>(n x M).M ac;replace W:=W.M ac;replace k:=k.L ac;replace q:=q.L ac;have dh:=ac.size;have bx:=bu.L ac;refine O.cn bx ?_;have au:=ak.refl cu;refine O.bQ 14 rfl (fun C F=>Y.h2 rfl rfl) bh au ?_;refine O.t1 15 rfl (fun C F=>dI) au ?_;refine cD ?_;have cH:=au;refine bd ?_;refine aT (fun a9=>?_) (fun a9=>?_)
      ·
       have L:eP (cG l).length (b.drop a)=none:=by rw[a8];exact FC a9
       refine G.exit (bc (aE (aA (an ?_))));refine aH (G.L (fun bQ=>?_));refine o.aR 5 ?_;refine bQ ?_;refine G.ret (aa (ae ?_));obtain⟨P,Q⟩:=B.stop L;obtain⟨so,rfl⟩:∃s:aM,A=s.v:=⟨cg A,i.bm.symm⟩;exact⟨so,l,by rw[B.e,←Q];rfl,P,(i.rd.imp (fun c _ e=>by have E:=(ai);unfold T at E;omega)),(fun x h=>(n x h).imp (fun c _ e=>ab c e)),k⟩
      ·
       have cI:eP (cG l).length (b.drop a)=some (((b.drop a).drop 12).take (fh (b.drop a))):=by rw[a8];exact FF (by omega) (by omega) (by omega) cE (Decidable.byContradiction (fun h=>a9 h))
       refine G.skip (a5 (G.L (fun cn=>?_)));refine o.ax 2 ?_;refine aV nv (mE _ (((b.drop a).drop 12).take (fh (b.drop a))) w0 _ W.any (by omega)) (fun dX cl bU=>?_);obtain⟨a7,aL,rfl,S,bf,aO⟩:=bU;have br:af N aL:=af.app (af.z) i.le bf;have cp:T 0 I.size aL:=T.L (T.refl 0 _) bf k.size;replace i:=i.M aO;replace n:=fun x M=>(n x M).M aO;replace q:=q.L aO;have ci:=aO.size;have bT:=S.le;refine o.aO (cU _ ([(a7,((b.drop a).drop 12).take (fh (b.drop a)))]) lq ny nz (rfl)) fun di bp bV=>?_;obtain⟨cJ,am,cN,be⟩:=bV;have c_:bp.size=cl.size+1:=by rw[be];simp
       replace i:=i.M am;replace n:=fun x M=>(n x M).M am;replace S:=S.M am;replace q:=q.L am;have dj:=am.size;refine o.aO (dO i cJ.rd lq (by simp only[List.length_singleton];omega) (by simp only[List.length_singleton];omega)) fun bX dk bY=>?_;obtain⟨aN,i,aF,X⟩:=bY;replace aF:T N bp.size aN:=aF;replace X:=X.md;have cq:=ay.app (f1) (bj.mono (by omega)) aF;have cr:af aL aN:=af.app (br.symm) S.le aF;have bi:T 0 aW.size aN:=T.L (bm) aF q.size;replace n:=fun x M=>(n x M).ab X (az.J f1);replace S:=S.ab X (ah.J br.symm);replace q:=q.bl X (ag.J (aq.q bm));have dm:=X.size;have bR:=i.le;refine o.aj ?_;refine cn (G.region ?_);refine o.ax 2 ?_;refine o.v1 bD ?_;refine o.v1 bD ?_;refine o.v1 (Y.cast (v2:= .int .i64 ((a+(13+(((b.drop a).drop 12).take (fh (b.drop a))).length):Nat):Int)) bD (fJ (by omega))) ?_;refine o.aj ?_;refine bC ?_;refine aP.sub (bA (a+(13+(((b.drop a).drop 12).take (fh (b.drop a))).length),bX,aN,l++[(a7,((b.drop a).drop 12).take (fh (b.drop a)))],fun c=>aS c∨c+1=aL) _ ?_ ?_) ⟨rfl,rfl,(aD (by omega)),trivial⟩
       ·exact⟨by unfold cG;rw[List.map_append];exact B.step cI,i,G8 (α:=Unit) (fb:=fun _=>(a7,[])) n (fun c e=> .inl e) (S.rd.imp (fun c _ e=> .inr e)),bg.eG (bj.mono (by omega)) S.le,ay.eG (cq) (cr.symm),fun c e=>by rcases e with e|e;exact ab c e;exact(by have E:=(cp);unfold T at E;omega),bi,q⟩
       ·show b.length-(a+(13+_))<b.length-a;omega
end lh

namespace iX
open E Go.RowKit fz f_ gn gL gU hi hs hD hR lb lI
def hq(n:Nat)(x:fX):Prop:=x.now.length≤n∧x.stays.length≤n∧x.w.length≤n∧(∀y∈x.w,y.d.length≤n)∧∀j,(lu (x.w.take j) x.stays).length≤n
theorem hq.mono{n m:Nat}{x:fX}(h:hq n x)(hm:n≤m):hq m x:=⟨Nat.le_trans h.1 hm,Nat.le_trans h.2.1 hm,Nat.le_trans h.2.2.1 hm,fun y hy=>Nat.le_trans (h.2.2.2.1 y hy) hm,fun j=>Nat.le_trans (h.2.2.2.2 j) hm⟩
theorem hq.nil(n:Nat):hq n ⟨[],[],[]⟩:=⟨Nat.zero_le _,Nat.zero_le _,Nat.zero_le _,nofun,fun j=>by simp[lu]⟩
theorem hq.flat{n:Nat}{l:List UInt8}(h:l.length≤n):hq n ⟨l,l,[]⟩:=⟨h,h,Nat.zero_le _,nofun,fun j=>by simpa[lu]using h⟩
def ob(ga:List aH)(l:dq):Prop:=∀q,(aL l q).isSome=true→q∈ga
structure bP (n:Nat) (D:aG):Prop where
 aj:e_ D.now
 kk:e_ D.stays
 dJ:D.log.length≤n
 op:D.ops≤n
 fB:D.fs.length≤n
 f:∀i,hq n (b4 D.fs i)
 un:∃ga:List aH,ga.length≤n∧ob ga D.now∧ob ga D.stays∧∀c∈D.log,∀i,c.f=some i→c.n∈ga
 kS:∀c∈D.log,∀i,c.f=some i→cp c.n=c.dir
theorem bP.mono{n m:Nat}{D:aG}(h:bP n D)(hm:n≤m):bP m D:=⟨h.aj,h.kk,Nat.le_trans h.dJ hm,Nat.le_trans h.op hm,Nat.le_trans h.fB hm,fun i=>(h.f i).mono hm,by obtain⟨ga,d,U⟩:=h.un;exact⟨ga,Nat.le_trans d hm,U⟩,h.kS⟩
theorem zp{fs:List fX}{n:Nat}(h:∀i,(b4 fs i).now.length≤n):∀l:dq,iC fs l≤l.length*n
 |[]=>by simp[iC]
 |x::l=>by
  have d:=zp h l;have U:=h x.2;unfold iC at d⊢;rw[List.map_cons,List.sum_cons,List.length_cons,Nat.add_mul];omega
theorem wQ{ga:List aH}{l:dq}(d:e_ l)(h:ob ga l):l.length≤ga.length:=by
 have:=lr d.nodup (fun k i=>h k (gP.2 i));rwa[List.length_map]at this
theorem bP.bT{n:Nat}{D:aG}(h:bP n D)(aA:n≤1073741824):gw 274877906944 D:=by
 obtain⟨ga,r,U,d,t⟩:=h.un;have aK:=wQ h.aj U;have k:=wQ h.kk d;have o:=zp (fun i=>(h.f i).1) D.now;have q:D.now.length*n≤1073741824*1073741824:=Nat.mul_le_mul (by omega) aA;exact⟨h.aj,h.kk,by unfold aG.used;omega,by have:=h.dJ;omega,by have:=h.op;omega,fun i=>by have:=(h.f i).1;omega,fun i=>by have:=(h.f i).2.1;omega,fun i=>by have:=(h.f i).2.2.1;omega,fun i y hy=>by have:=(h.f i).2.2.2.1 y hy;omega,by omega,by omega,by have:=h.fB;omega,fun i j=>by have:=(h.f i).2.2.2.2 j;omega,h.kS⟩
theorem bP.empty(cap most:Nat):bP 0 (aG.empty cap most):=
 ⟨List.Pairwise.nil,List.Pairwise.nil,Nat.le_refl _,Nat.le_refl _,Nat.le_refl _,fun i=>by show hq 0 (List.getD [] i _);simpa using hq.nil 0,⟨[],Nat.le_refl _,nofun,nofun,nofun⟩,nofun⟩
theorem bP.begin{n:Nat}{D:aG}(h:bP n D):bP (n+1) D.begin.2:=by
 obtain⟨aK,o,i,j,k,d,q⟩:=uG D;have h:=h.mono (Nat.le_succ n);exact⟨by rw[j];exact h.aj,by rw[k];exact h.kk,by rw[d];exact h.dJ,by have:=bP.op ‹bP n D›;omega,by rw[i];exact h.fB,by rw[i];exact h.f,by rw[j,k,d];exact h.un,by rw[d];exact h.kS⟩
theorem DU{ga:List aH}{l:dq}{c:dL}(h:ob ga l)(av:∀i,c.f=some i→c.n∈ga):ob ga (c.ap l):=fun q d=>by
 rw[qC]at d;unfold dL.at at d
 cases j:c.f with
 |none=>
  rw[j]at d;simp only at d;split at d
  ·cases d
  ·exact h q d
 |some i=>
  rw[j]at d;simp only at d;split at d
  ·rename_i e;rw[e];exact av i j
  ·split at d
   ·cases d
   ·exact h q d
theorem bP.put{n:Nat}{D:aG}(h:bP n D)(i:Nat){x:fX}(k:hq n x):bP n (D.fu i x):=
 ⟨h.aj,h.kk,h.dJ,h.op,by rw[sc];exact h.fB,fun j=>by
  by_cases d:i<D.fs.length
  ·by_cases e:j=i
   ·subst e;rw[oL d];exact k
   ·show hq n ((D.fs.set i x).getD j _)
    rw[List.getD_eq_getElem?_getD,List.getElem?_set_ne (Ne.symm e),←List.getD_eq_getElem?_getD];exact h.f j
  ·show hq n ((D.fs.set i x).getD j _)
   rw[List.set_eq_of_length_le (by omega)];exact h.f j,h.un,h.kS⟩
theorem bP.change{n:Nat}{D:aG}(h:bP n D)(c:dL)(al:∀i,c.f=some i→cp c.n=c.dir):bP (n+1) (D.change c):=by
 obtain⟨ga,x,U,r,t⟩:=h.un;refine⟨Ao h.aj c,h.kk,by show(D.log++[c]).length≤_;have:=h.dJ;simp;omega,Nat.le_succ_of_le h.op,Nat.le_succ_of_le h.fB,fun i=>(h.f i).mono (Nat.le_succ _),⟨c.n::ga,by simp;omega,DU (fun q o=>List.mem_cons_of_mem _ (U q o)) (fun _ _=>List.mem_cons_self),fun q o=>List.mem_cons_of_mem _ (r q o),fun d j i k=>?_⟩,fun d j i k=>?_⟩
 ·rcases List.mem_append.1 j with j|j
  ·exact List.mem_cons_of_mem _ (t d j i k)
  ·rw[List.mem_singleton.1 j];exact List.mem_cons_self
 ·rcases List.mem_append.1 j with j|j
  ·exact h.kS d j i k
  ·rw[List.mem_singleton.1 j]at k⊢;exact al i k
theorem bP.z6{n:Nat}{D:aG}(h:bP n D):bP (n+1) ({D with fs:=D.fs++[⟨[],[],[]⟩]}:aG):=
 ⟨h.aj,h.kk,Nat.le_succ_of_le h.dJ,Nat.le_succ_of_le h.op,by have:=h.fB;simp;omega,fun i=>by
  show hq (n+1) ((D.fs++[(⟨[],[],[]⟩:fX)]).getD i ⟨[],[],[]⟩);rw[List.getD_eq_getElem?_getD,List.getElem?_append];split
  ·rw[←List.getD_eq_getElem?_getD];exact(h.f i).mono (Nat.le_succ _)
  ·by_cases e:i-D.fs.length=0
   ·rw[e];exact hq.nil _
   ·rw[List.getElem?_eq_none (by simp;omega)];exact hq.nil _,(h.mono (Nat.le_succ _)).un,h.kS⟩
theorem bP.make{n:Nat}{D:aG}(h:bP n D)(p:aH):bP (n+2) (D.make p).1:=by
 unfold aG.make;split
 ·exact h.mono (by omega)
 ·refine h.z6.change _ (fun i _=>?_)
  simp[dL.dir]
theorem hq.laid{n:Nat}{x:fX}(h:hq n x)(w:dW):hq (n+w.d.length+1) ⟨w.on x.now w.d.length,x.stays,x.w++[w]⟩:=by
 obtain⟨q,U,r,i,d⟩:=h;have t:=xQ w x.now w.d.length;refine⟨by show(w.on x.now w.d.length).length≤_;omega,by show x.stays.length≤_;omega,by show(x.w++[w]).length≤_;simp;omega,fun y hy=>?_,fun j=>?_⟩
 ·rcases List.mem_append.1 hy with hy|hy
  ·have:=i y hy;omega
  ·rw[List.mem_singleton.1 hy];omega
 ·show(lu ((x.w++[w]).take j) x.stays).length≤_
  rw[List.take_append];by_cases A:j≤x.w.length
  ·rw[show j-x.w.length=0 by omega,List.take_zero,List.append_nil];have:=d j;omega
  ·obtain⟨k,o⟩:∃k,j-x.w.length=k+1:=⟨j-x.w.length-1,by omega⟩
   rw[o]
   have e:lu (x.w.take j++[w].take (k+1)) x.stays=w.on (lu (x.w.take j) x.stays) w.d.length:=by
    unfold lu;rw[List.foldl_append,List.take_succ_cons,List.take_nil];rfl
   rw[e];have:=xQ w (lu (x.w.take j) x.stays) w.d.length;have:=d j;omega
theorem bP.write{n:Nat}{D:aG}(h:bP n D)(p:aH)(w:dW):bP (n+w.d.length+3) (D.write p w):=by
 unfold aG.write;have d:=h.make p;exact(d.mono (by omega)).put _ (((d.f _).laid w).mono (by omega))
theorem bP.lay{n:Nat}{D:aG}(h:bP n D)(p:aH)(w:dW):bP (n+w.d.length+4) (D.lay p w).2:=by
 unfold aG.lay;have d:=h.begin;simp only;split
 ·exact d.mono (by omega)
 ·simp only;split
  ·exact(d.write p w).mono (by omega)
  ·exact d.mono (by omega)
theorem bP.sync{n:Nat}{D:aG}(h:bP n D)(p:aH):bP (n+1) (D.sync p).2:=by
 unfold aG.sync;have d:=h.begin;simp only;split
 ·exact d
 ·simp only;split
  ·exact d.put _ (hq.flat (d.f _).1)
  ·exact d
theorem bP.rename{n:Nat}{D:aG}(h:bP n D)(a b:aH):bP (n+2) (D.rename a b).2:=by
 unfold aG.rename;have d:=h.begin;simp only;split
 ·exact d.mono (by omega)
 ·simp only;split
  ·rename_i U
   refine d.change _ (fun i _=>?_)
   have j:cv a=true∧cp a=cp b:=by
    have:=U.1;unfold aG.j8 at this;split at this
    ·cases this
    ·rename_i k;split at this
     ·cases this
     ·rename_i o;exact⟨by cases aA:cv a with
       |true=>rfl
       |false=>exact absurd (.inl aA) k,by simpa using o⟩
   unfold dL.dir;rw[if_neg (xF j.1)];exact j.2.symm
  ·exact d.mono (by omega)
theorem bP.iu{n:Nat}{D:aG}(h:bP n D)(p:aH):bP (n+1) (D.iu p).2:=by
 unfold aG.iu;have d:=h.begin;simp only;split
 ·exact d
 ·simp only;split
  ·obtain⟨ga,aK,j,k,o⟩:=d.un
   refine⟨d.aj,Ar d.kk _,Nat.le_trans (List.length_filter_le _ _) d.dJ,d.op,d.fB,d.f,⟨ga,aK,j,fun q i=>?_,fun c av=>o c (List.mem_filter.1 av).1⟩,fun c av=>d.kS c (List.mem_filter.1 av).1⟩;have i:(aL (merge D.begin.2.now D.begin.2.stays p) q).isSome=true:=i;rw[xi d.aj]at i;split at i
   ·exact j q i
   ·exact k q i
  ·exact d
end iX

namespace iY
open E Go.RowKit fz f_ gn gL gU hi hs hD hR lb lI iX
theorem Fa{ck:World}(h:ck.ShapedOpen Tryz.prog):∃m,dV m ck.heap∧bg (fun b=>b=0) ck.heap.size:=by
 obtain⟨m,hm⟩:=cell_of_shapedOpen_int (g:=0) (t:=3) (zero:= #[.int .i64 0]) h (by decide) (by kernel_rfl) rfl (by kernel_rfl) (by kernel_rfl) Tryz.underlying3;have av:E.cell ck.heap ⟨0,0,none⟩=some (.int .i64 m):=by rw[←(At.cell (w0:=ck) ⟨rfl,rfl,rfl,rfl,Nat.le_refl _⟩ _)];exact hm
 refine⟨m,⟨⟨rfl,fun j c d=>?_⟩,rfl⟩,fun b aw=>?_⟩
 ·cases j with
  |zero=>cases d;exact av
  |succ j=>cases d
 ·have:=World.block_lt_of_cell? ck _ hm;simp only at aw;omega
section
variable {P : Program} {w0 : World} {n : Nat} {l : bZ} {H : Heap} {J : Oper}
end
theorem az.of{k:Nat}{K:List Nat}(d:ah k K):az (fun b=>b+1=k) K:=fun j i=>ay.of (d j i)
end iY

namespace lL
open E Go.RowKit fz f_ gn gL gU hi hs hD hR iX iY ki kG lh
set_option maxRecDepth 100000 in
theorem dv:c6 Tryz.prog 57 5 1 1:=⟨Tryz.underlying57,_,_,rfl,rfl,rfl,rfl,rfl⟩
section
variable {P : Program} {w0 : World} {n : Nat} {l : bZ} {H H1 : Heap} {J : Oper}
theorem Y.wo{x:Operand}{s:TypeId}{k off d:Nat}{ad:Addr}{cs:List Value}{fs:Array Field}{fd:Field}(h:cc H1 ad cs)(o:J.op= .fieldAddr s x k)(hu:∀w,(underlying s).run P w= .ok (.struct fs) w)(j:fs[k]?=some fd)(q:fd.offset=off)
 (r:∀w,(sizeOf fd.type).run P w= .ok d w) (A:d≠0) (t:aF l x=some (.pointer (some ad))):Y P w0 n l H J (.pointer (some (ad.add off))):=by
 intro ac w i B;simp[execOp,o,i.eval t,Instr.fieldAt,Instr.sureAddr,fieldPlace,hu,j,q,r,A]
end
def cC(p:aH):aH:=p++[46,110,101,119]
abbrev h7:=aG→Nat×aG
def c5:List h7→aG→Nat×aG
 |[],D=>(0,D)
 |f::fs,D=>if(f D).1=0 then c5 fs (f D).2 else f D
def pn(Fs:List h7)(i:Nat):h7:=Fs.getD i (fun D=>(0,D))
theorem tk:∀(a b:List h7) (D:aG),c5 (a++b) D=if(c5 a D).1=0 then c5 b (c5 a D).2 else c5 a D
 |[],b,D=>by simp[c5]
 |f::a,b,D=>by
  rw[List.cons_append,c5,c5];by_cases h:(f D).1=0
  ·rw[if_pos h,if_pos h,tk a b]
  ·rw[if_neg h,if_neg h,if_neg h]
theorem GD(f:h7)(D:aG):c5 [f] D=f D:=by
 unfold c5 c5;split
 ·rename_i h;exact Prod.ext h.symm rfl
 ·rfl
theorem GG{Fs:List h7}{i:Nat}{D:aG}(h:i<Fs.length)(d:(c5 (Fs.take i) D).1=0):c5 (Fs.take (i+1)) D=pn Fs i (c5 (Fs.take i) D).2:=by
 rw[List.take_succ_eq_append_getElem h,tk,if_pos d,GD];unfold pn;rw[List.getD_eq_getElem?_getD,List.getElem?_eq_getElem h];rfl
theorem GF{Fs:List h7}{i:Nat}{D:aG}(h:(c5 (Fs.take i) D).1≠0):c5 Fs D=c5 (Fs.take i) D:=by
 conv=>lhs;rw[←List.take_append_drop i Fs]
 rw[tk,if_neg h]
theorem pS{k:Nat}:∀{fs:List h7} {cb:Nat} {D:aG},(∀f∈fs,∀cb D,bP cb D→bP (cb+k) (f D).2)→bP cb D→bP (cb+k*fs.length) (c5 fs D).2
 |[],cb,D,_,h=>by simpa[c5]using h
 |f::fs,cb,D,i,h=>by
  have d:=i f List.mem_cons_self cb D h;unfold c5;split
  ·have:=pS (fs:=fs) (fun g j=>i g (List.mem_cons_of_mem _ j)) d
   rw[List.length_cons];exact this.mono (by rw[Nat.mul_add];omega)
  ·rw[List.length_cons];exact d.mono (by rw[Nat.mul_add];omega)
theorem uO{k:Nat}{fs:List h7}{cb:Nat}{D:aG}(i:Nat)(d:∀f∈fs,∀cb D,bP cb D→bP (cb+k) (f D).2)(h:bP cb D):bP (cb+k*fs.length) (c5 (fs.take i) D).2:=by
 have:=pS (fs:=fs.take i) (fun f hm=>d f (List.mem_of_mem_take hm)) h;exact this.mono (Nat.add_le_add_left (Nat.mul_le_mul_left _ (by rw[List.length_take];omega)) _)
def jd(p:aH)(l:List Rec):List h7:=[fun D=>D.lay (cC p) ⟨false,cS l⟩,fun D=>D.sync (cC p),fun D=>D.rename (cC p) p,fun D=>D.iu (cp p)]
def gV(p:aH)(n:Nat)(r:Rec):List h7:=[fun D=>D.lay p ⟨true,jf n r⟩,fun D=>D.sync p,fun D=>D.lay p ⟨true,[67]⟩,fun D=>D.sync p]
theorem wE(p:aH)(l:List Rec):∀f∈jd p l,∀cb D,bP cb D→bP (cb+((cS l).length+20)) (f D).2:=by
 intro f d cb D h;simp only[jd,List.mem_cons,List.not_mem_nil,or_false]at d;rcases d with rfl|rfl|rfl|rfl
 ·exact(h.lay (cC p) ⟨false,cS l⟩).mono (by simp only;omega)
 ·exact(h.sync _).mono (by omega)
 ·exact(h.rename _ _).mono (by omega)
 ·exact(h.iu _).mono (by omega)
theorem ur(p:aH)(n:Nat)(r:Rec):∀f∈gV p n r,∀cb D,bP cb D→bP (cb+(r.length+20)) (f D).2:=by
 intro f d cb D h;simp only[gV,List.mem_cons,List.not_mem_nil,or_false]at d;rcases d with rfl|rfl|rfl|rfl
 ·exact(h.lay p ⟨true,jf n r⟩).mono (by simp only[oT];omega)
 ·exact(h.sync _).mono (by omega)
 ·exact(h.lay p ⟨true,[67]⟩).mono (by simp only[List.length_singleton];omega)
 ·exact(h.sync _).mono (by omega)
def eF(D:aG)(p:aH)(l:List Rec):Nat×aG:=c5 (jd p l) D
theorem rS{cb:Nat}{D:aG}(h:bP cb D)(p:aH)(l:List Rec):bP (cb+4*((cS l).length+20)) (eF D p l).2:=(pS (wE p l) h).mono (by simp[jd];omega)
theorem CP(p:aH):(cp p).length≤p.length:=by
 unfold cp mQ;split
 ·exact List.length_take_le' _ _
 ·exact Nat.zero_le _
theorem o5(p:aH):(cC p).length=p.length+4:=by simp[cC]
abbrev jH:=Nat×List Value
abbrev sa(x:jH):List Value:=[.func (.func x.1) #[] x.2.toArray]
theorem wb(x:jH):(sa x).length=1:=rfl
theorem wc(x:jH):∀u∈sa x,u.oneCell'=true:=by intro u hu;simp only[List.mem_singleton]at hu;subst hu;rfl
def rp(w0:World)(b:Nat)(f:h7)(v:Value)(K:List Nat)(H:Heap)(D:aG):Prop:=
 fa Tryz.prog w0 v [] H (fun r d=>∃(bq:List Nat) (g2:cz),r= .int .i64 ((f D).1:Int)∧bn bq g2 d b (f D).2∧aZ K H.size bq∧V (aE K) H d)
theorem wu(K:List Nat)(g:cz)(b:Nat)(D:aG)(v:Value)(l:List jH)(Fs:List h7)(F:Nat→Prop)(w0:World)(I:Heap)
 (d:bn K g I b D) (A:Rd F I sa 1 v l) (bh:bg F I.size) (aV:az F K) (bk:l.length=Fs.length) (aY:∀(i:Nat) (h:i<l.length) (gf:List Nat) (aW:cz) (aa:Heap),bn gf aW aa b (c5 (Fs.take i) D).2→aZ K I.size gf→V (aE K) I aa→rp w0 b (pn Fs i) (.func (.func l[i].1) #[] l[i].2.toArray) gf aa (c5 (Fs.take i) D).2):
 aC Tryz.prog w0 108 #[v] I (fun r P=>∃bq:List Nat,∃g2:cz,r= .int .i64 ((c5 Fs D).1:Int)∧(bn bq g2 P b (c5 Fs D).2)∧(aZ K I.size bq)∧V (aE K) I P):=by
 refine aC.aK [v] Tryz.func108 ?_;intro a7 X;have j:V (aE K) I I:=V.refl _ _;have Q:=aZ.refl K I.size;have ac:=d.aB;have bl:=A.len;refine G.L (fun aL=>?_);refine o.aj ?_;refine aL (G.seq (fun bq aM aN=>G.L (fun aO=>?_)));refine o.W ?_;refine o.v1 (ba A zj) ?_;refine o.W (o.nil (aO ?_));refine G.aB (fun _ aQ aR=>?_)
 refine G.bd (fun(a1:(Nat)×(List Nat)×(cz))=>match a1 with|(i,n,t)=>[(6,v),(7,.int .i64 (l.length:Int)),(8,.int .i64 (i:Int))])
  (fun(i,n,t) (H:Heap)=>(bn n t H b (c5 (Fs.take i) D).2)∧(i≤l.length)∧((c5 (Fs.take i) D).1=0)∧(aZ K I.size n)∧V (aE K) I H)
  (fun(i,n,t)=>l.length-i) (0,K,g) ⟨rfl,rfl,rfl,trivial⟩ ?_ ?_
 ·
  exact⟨d,(by omega),rfl,aZ.refl _ _,V.refl _ _⟩
 rintro⟨i,n,t⟩ a_ Z a6 ab T;obtain⟨d,bj,M,R,q⟩:=Z;have B:aZ K I.size n:=aZ.L (Q) R j.size;replace A:=A.ab q (aV);replace j:=j.aJ q (ag.cF (Q) (by intro k x;simp[x]));have bb:=q.size;have ac:=d.aB;have W:=R;refine G.L (fun ae=>?_);refine o.v1 bG (o.nil (ae ?_));refine G.t2 (fun af ah=>?_);refine aT (fun aS=>?_) (fun aS=>?_)
 ·
  have N:i<l.length:=by omega
  have E:=GG (Fs:=Fs) (D:=D) (i:=i) (by omega) M;refine G.skip (af (G.t2 (fun ai aj=>G.aB (fun an _ aq=>G.L (fun aI=>?_)))));refine o.bR (Y.bJ A (i) rfl zj GU rfl rfl) fun a8 aJ=>?_;refine o.v1 (ar aJ.N zQ) ?_;refine o.aj ?_;refine aI (G.L (fun au=>?_));refine o.W ?_;refine o.kl rfl rfl rfl cR rfl rfl (aY i N n t _ d (B) j) (fun bc bd ay=>?_);obtain⟨C,aA,rfl,d,S,L⟩:=ay;have aB:aZ K I.size C:=aZ.L (B) S j.size;have aF:aZ K I.size C:=aZ.L (W) S q.size;replace j:=j.aJ L (ag.cF (B) (by intro k x;simp[x]));replace q:=q.aJ L (ag.cF (W) (by intro k x;simp[x]));have bf:=L.size;have ac:=d.aB;refine o.aj ?_;refine au (G.L (fun am=>?_));refine o.W ?_;refine o.v1 c1 (o.nil (am ?_));refine aT (fun aH=>?_) (fun aH=>?_)
  ·
   have aX:(c5 (Fs.take (i+1)) D).1≠0:=by rw[E];omega
   have O:=GF aX;rw[E]at O;refine G.seq (fun C aK _=>G.region ?_);refine o.aR 2 ?_;refine aK _ _ ?_;refine G.ret (aq (aj (T (aR (aN .ret nofun _ _ (X ?_))))));exact⟨_,_,by rw[O],by rw[O];exact d,aB,j⟩
  ·
   refine G.skip (an (ai (G.region ?_)));refine o.v1 bD ?_;refine o.W (o.nil ?_);refine aP.sub (ab (i+1,C,aA) _ ?_ ?_) ⟨rfl,(aD (by omega)),(aD (by omega)),trivial⟩
   ·exact⟨by rw[E];exact d,(by omega),by rw[E];omega,aF,q⟩
   ·first|omega|(simp only;omega)|(simp;omega)
 ·
  refine G.exit (ah (T (aQ ?_)));refine aM _ _ (G.L (fun ap=>?_));refine o.aj ?_;refine ap ?_;refine G.ret (X ?_);have N:i=Fs.length:=by omega
  rw[N,List.take_length]at d M;exact⟨_,_,by rw[M];rfl,d,B,j⟩
structure mn (K:List Nat) (H:Heap) (bk:Int) (b c aX:Nat) (p:aH) (n:Nat) (br:Bool):Prop where
 aN:dV bk H
 kH:bg (fun b=>b=0) H.size
 di:az (fun b=>b=0) K
 dA:Var 103 H c [ptr aX]
 dJ:Var 206 H aX [ptr b,aI p,.int .i64 (n:Int),.bool br]
 ee:ah (c+1) K
 dl:ah (aX+1) K
theorem mn.up{K bq:List Nat}{H d:Heap}{bk:Int}{b c aX n:Nat}{p:aH}{br:Bool}(h:mn K H bk b c aX p n br)(s:V (aE K) H d)(x:aZ K H.size bq):mn bq d bk b c aX p n br:=
 ⟨h.aN.ab s h.di,fun b aw=>by have:=h.kH b aw;have:=s.size;omega,az.hk h.di h.kH x,h.dA.ab s h.ee,h.dJ.ab s h.dl,ah.hk h.ee h.dA.lt x,ah.hk h.dl h.dJ.lt x⟩
structure mr {α:Type} (K:List Nat) (F:Nat→Prop) (H:Heap) (f:α→List Value) (v:Value) (l:List α):Prop where
 rd:Rd F H f 1 v l
 bY:bg F H.size
 gO:az F K
theorem mr.up{α:Type}{K bq:List Nat}{F:Nat→Prop}{H d:Heap}{f:α→List Value}{v:Value}{l:List α}(h:mr K F H f v l)(s:V (aE K) H d)(x:aZ K H.size bq):mr bq F d f v l:=
 ⟨h.rd.ab s h.gO,fun b aw=>by have:=h.bY b aw;have:=s.size;omega,az.hk h.gO h.bY x⟩
structure lg (K:List Nat) (H:Heap) (e:TypeId) (c:Nat) (cs:List Value):Prop where
 v:Var e H c cs
 d:ah (c+1) K
theorem lg.up{K bq:List Nat}{H d:Heap}{e:TypeId}{c:Nat}{cs:List Value}(h:lg K H e c cs)(s:V (aE K) H d)(x:aZ K H.size bq):lg bq d e c cs:=⟨h.v.ab s h.d,ah.hk h.d h.v.lt x⟩
set_option maxHeartbeats 2000000 in
theorem uA(bk:Int)(K:List Nat)(g:cz)(b:Nat)(D:aG)(c aX:Nat)(p:aH)(n:Nat)(br:Bool)(w0:World)(I:Heap)
 (i:bn K g I b D) (aN:dV bk I) (L:bg (fun b=>b=0) I.size) (di:az (fun b=>b=0) K) (av:Var 103 I c [ptr aX]) (d:Var 206 I aX [ptr b,aI p,.int .i64 (n:Int),.bool br]) (ee:ah (c+1) K) (dl:ah (aX+1) K) (P:p.length≤4294967280) (M:gw 274877906944 D):
 aC Tryz.prog w0 106 #[ptr c] I (fun r q=>∃bq:List Nat,∃g2:cz,r= .int .i64 ((D.sync p).1:Int)∧(bn bq g2 q b (D.sync p).2)∧(aZ K I.size bq)∧V (aE K) I q):=by
 refine aC.aK [ptr c] Tryz.func106 ?_;intro R Q;have j:V (aE K) I I:=V.refl _ _;have t:=aZ.refl K I.size;have ad:=i.aB;have T:=av.lt;have ac:=d.lt;refine G.L (fun B=>?_);refine o.aj ?_;refine B (G.seq (fun bq C _=>?_));refine iV 8 (fun S N=>?_);refine o.v1 (ar av.N hj) ?_;refine o.bI ?_;refine o.v1 (Y.ai d.N rfl gk rfl ma) ?_;refine o.v1 (ar d.N lO) ?_;refine o.v1 (ar av.N hj) ?_;refine o.bI ?_;refine o.v1 (Y.ai d.N rfl gk rfl bO) ?_;refine o.v1 (ar (d.N.drop 1) bL) ?_;refine o.nil (N _ ?_);refine aV uT (y1 bk K g b D p w0 _ i aN (L.mono (by omega)) (di) P M) (fun au am E=>?_);obtain⟨F,W,rfl,i,x,A⟩:=E;have H:aZ K I.size F:=aZ.L (t) x j.size;replace j:=j.aJ A (ag.cF (t) (by intro k O;simp[O]));refine o.aj ?_;refine C _ _ ?_;refine G.ret (Q ?_);exact⟨_,_,rfl,i,H,j⟩
set_option maxHeartbeats 2000000 in
theorem z7(bk:Int)(K:List Nat)(g:cz)(b:Nat)(D:aG)(c aX:Nat)(p:aH)(n:Nat)(br:Bool)(dE:Nat)(s:aM)(rc:List UInt8)(F:Nat→Prop)(w0:World)(I:Heap)
 (t:bn K g I b D) (aN:dV bk I) (aA:bg (fun b=>b=0) I.size) (di:az (fun b=>b=0) K) (av:Var 103 I c [ptr aX]) (A:Var 206 I aX [ptr b,aI p,.int .i64 (n:Int),.bool br]) (ee:ah (c+1) K) (dl:ah (aX+1) K) (S:Var 57 I dE [s.v]) (d3:ah (dE+1) K) (aF:Rd F I a1 1 s.v rc) (aV:bg F I.size) (aW:az F K) (aK:rc.length≤4294967000) (aD:p.length≤4294967280) (aB:gw 274877906944 D):
 aC Tryz.prog w0 109 #[ptr c,ptr dE] I (fun r M=>∃bq:List Nat,∃g2:cz,r= .int .i64 ((D.lay p ⟨true,jf n rc⟩).1:Int)∧(bn bq g2 M b (D.lay p ⟨true,jf n rc⟩).2)∧(aZ K I.size bq)∧V (aE K) I M):=by
 refine aC.aK [ptr c,ptr dE] Tryz.func109 ?_;intro aL aJ;have C:V (aE K) I I:=V.refl _ _;have N:=aZ.refl K I.size;have ap:=t.aB;have aT:=av.lt;have au:=A.lt;have am:=S.lt;refine G.L (fun aj=>?_);refine o.aj ?_;refine aj (G.seq (fun bq an _=>?_));refine dC (fun j=>V (aE K) I j) [] ?_;have d:V (aE K) I I:=V.refl _ _;have ay:=aZ.refl K I.size;refine O.t1 0 rfl (fun j i=>Y.fQ (av.ab i (ee)).N rfl hj rfl) d ?_;refine O.bI 1 rfl d ?_;refine O.t1 2 rfl (fun j i=>Y.fieldAddr (A.ab i (dl)).N rfl gk rfl rfl ma (by decide) rfl) d ?_;refine O.t1 3 rfl (fun j i=>Y.fQ (A.ab i (dl)).N rfl lO rfl) d ?_;refine O.t1 4 rfl (fun j i=>Y.fQ (av.ab i (ee)).N rfl hj rfl) d ?_;refine O.bI 5 rfl d ?_;refine O.t1 6 rfl (fun j i=>Y.fieldAddr (A.ab i (dl)).N rfl gk rfl rfl bO (by decide) rfl) d ?_;refine O.t1 7 rfl (fun j i=>ar ((A.ab i (dl)).N.drop 1) bL) d ?_;refine O.t1 8 rfl (fun j i=>Y.fQ (av.ab i (ee)).N rfl hj rfl) d ?_;refine O.bI 9 rfl d ?_;refine O.t1 10 rfl (fun j i=>Y.fieldAddr (A.ab i (dl)).N rfl gk rfl rfl b1 (by decide) rfl) d ?_;refine O.t1 11 rfl (fun j i=>ar ((A.ab i (dl)).N.drop 2) cd) d ?_;refine O.t1 12 rfl (fun j i=>Y.fQ (S.ab i (d3)).N rfl eA rfl) d ?_;refine O.aY 13 ?_;refine ch uW (zw n s rc w0 _ aF.any aK) (fun aO B W=>?_);obtain⟨X,q,rfl,H,P,ac⟩:=W;have Z:ah q K:=ah.ow (ah.kd) t.aB P;have aa:T 0 I.size q:=T.L (T.refl 0 _) P d.size;replace t:=t.M ac;replace aN:=aN.M ac;replace C:=C.bc ac;replace d:=d.bc ac;have aP:=ac.size;have aS:=H.le;refine⟨.inr d,O.narrow (SH2:=fun j=>V (aE (K++[q])) B j) (fun j i=>d.aJ i (ag.app (ag.cF (ay) (by intro k x;simp[x])) (ag.J (aq.q aa)))) ?_⟩;have d:V (aE (K++[q])) B B:=V.refl _ _;have Q:=aZ.refl K B.size;have ae:=T.refl q B.size;refine O.aY 14 ?_;refine ch uV (uv bk K g b D p X (jf n rc) _ w0 _ t aN (aA.mono (by omega)) (di) H.rd (bg.of H.le) (az.of (Z)) aD aB (by rw[oT];omega)) (fun aQ L ab=>?_);obtain⟨E,aR,rfl,t,ad,R⟩:=ab;have af:aZ K I.size E:=aZ.L (N) ad C.size;have ai:aZ K B.size E:=aZ.L (Q) ad d.size;replace C:=C.aJ R (ag.cF (N) (by intro k x;simp[x]));replace d:=d.aJ R (ag.cF (Q) (by intro k x;simp[x]));refine⟨.inr d,O.narrow (SH2:=fun j=>V (aE (E++[q])) L j) (fun j i=>d.aJ i (ag.app (ag.cF (ai) (by intro k x;simp[x])) (ag.J (aq.r ae)))) ?_⟩;have d:V (aE (E++[q])) L L:=V.refl _ _;refine O.t1 15 rfl (fun j i=>ev) d ?_;refine cD ?_;refine an _ _ ?_;refine G.ret (aJ ?_);exact⟨_,_,rfl,t,af,C⟩
set_option maxHeartbeats 2000000 in
theorem z_(bk:Int)(K:List Nat)(g:cz)(b:Nat)(D:aG)(c aX:Nat)(p:aH)(n:Nat)(br:Bool)(w0:World)(I:Heap)
 (t:bn K g I b D) (aN:dV bk I) (af:bg (fun b=>b=0) I.size) (di:az (fun b=>b=0) K) (av:Var 103 I c [ptr aX]) (B:Var 206 I aX [ptr b,aI p,.int .i64 (n:Int),.bool br]) (ee:ah (c+1) K) (dl:ah (aX+1) K) (aj:p.length≤4294967280) (ai:gw 274877906944 D):
 aC Tryz.prog w0 112 #[ptr c] I (fun r F=>∃bq:List Nat,∃g2:cz,r= .int .i64 ((D.lay p ⟨true,[67]⟩).1:Int)∧(bn bq g2 F b (D.lay p ⟨true,[67]⟩).2)∧(aZ K I.size bq)∧V (aE K) I F):=by
 refine aC.aK [ptr c] Tryz.func112 ?_;intro ay an;have A:V (aE K) I I:=V.refl _ _;have H:=aZ.refl K I.size;have aJ:=t.aB;have aK:=av.lt;have aF:=B.lt;refine G.L (fun Z=>?_);refine o.aj ?_;refine Z (G.seq (fun bq aa _=>?_));refine dC (fun j=>V (aE K) I j) [] ?_;have d:V (aE K) I I:=V.refl _ _;have ab:=aZ.refl K I.size;refine O.t1 0 rfl (fun j i=>Y.fQ (av.ab i (ee)).N rfl hj rfl) d ?_;refine O.bI 1 rfl d ?_;refine O.t1 2 rfl (fun j i=>Y.fieldAddr (B.ab i (dl)).N rfl gk rfl rfl ma (by decide) rfl) d ?_;refine O.t1 3 rfl (fun j i=>Y.fQ (B.ab i (dl)).N rfl lO rfl) d ?_;refine O.t1 4 rfl (fun j i=>Y.fQ (av.ab i (ee)).N rfl hj rfl) d ?_;refine O.bI 5 rfl d ?_;refine O.t1 6 rfl (fun j i=>Y.fieldAddr (B.ab i (dl)).N rfl gk rfl rfl bO (by decide) rfl) d ?_;refine O.t1 7 rfl (fun j i=>ar ((B.ab i (dl)).N.drop 1) bL) d ?_;refine O.aY 8 ?_;refine ep rfl (cU _ ([(67:UInt8)]) dv eB fH (rfl)) (fun M q ae=>?_);obtain⟨E,ac,aO,au⟩:=ae;have aL:q.size=I.size+1:=by rw[au];simp
 have P:ah (I.size+1) K:=ah.hn t.aB;have Q:T 0 I.size (I.size+1):=T.new d.size;replace t:=t.M ac;replace aN:=aN.M ac;replace A:=A.bc ac;replace d:=d.bc ac;have aA:=ac.size;obtain⟨R,rfl⟩:∃s:aM,M=s.v:=⟨cg M,E.bm.symm⟩;refine⟨.inr d,O.narrow (SH2:=fun j=>V (aE (K++[(I.size+1)])) q j) (fun j i=>d.aJ i (ag.app (ag.cF (ab) (by intro k x;simp[x])) (ag.J (aq.q Q)))) ?_⟩;have d:V (aE (K++[(I.size+1)])) q q:=V.refl _ _;have N:=aZ.refl K q.size;have S:=T.refl (I.size+1) q.size;refine O.aY 9 ?_;refine ch uV (uv bk K g b D p R [67] _ w0 _ t aN (af.mono (by omega)) (di) E.rd (bg.of E.le) (az.of (P)) aj ai (by decide)) (fun aB am W=>?_);obtain⟨C,aD,rfl,t,ad,L⟩:=W;have X:aZ K I.size C:=aZ.L (H) ad A.size;have ap:aZ K q.size C:=aZ.L (N) ad d.size;replace A:=A.aJ L (ag.cF (H) (by intro k x;simp[x]));replace d:=d.aJ L (ag.cF (N) (by intro k x;simp[x]));refine⟨.inr d,O.narrow (SH2:=fun j=>V (aE (C++[(I.size+1)])) am j) (fun j i=>d.aJ i (ag.app (ag.cF (ap) (by intro k x;simp[x])) (ag.J (aq.r S)))) ?_⟩;have d:V (aE (C++[(I.size+1)])) am am:=V.refl _ _;refine O.t1 10 rfl (fun j i=>ev) d ?_;refine cD ?_;refine aa _ _ ?_;refine G.ret (an ?_);exact⟨_,_,rfl,t,X,A⟩
set_option maxHeartbeats 2000000 in
theorem CO(bk:Int)(K:List Nat)(g:cz)(b:Nat)(D:aG)(c aX:Nat)(p:aH)(n:Nat)(br:Bool)(cE:Nat)(dE:Nat)(s:aM)(l:List (aM×Rec))(F:Nat→Prop)(w0:World)(I:Heap)
 (t:bn K g I b D) (aN:dV bk I) (aA:bg (fun b=>b=0) I.size) (di:az (fun b=>b=0) K) (av:Var 103 I c [ptr aX]) (L:Var 206 I aX [ptr b,aI p,.int .i64 (n:Int),.bool br]) (ee:ah (c+1) K) (dl:ah (aX+1) K) (W:Var 9 I cE [aI (cC p)]) (d7:ah (cE+1) K) (S:Var 104 I dE [s.v]) (d3:ah (dE+1) K) (aD:Rd F I iF 1 s.v l) (aY:bg F I.size) (a7:az F K) (aK:∀x∈l,Rd F I a1 1 x.1.v x.2) (a6:bg F I.size) (a8:az F K) (aJ:∀x∈l,x.2.length≤1048576) (ba:(eZ 0 (cG l)).length≤274877900000) (bb:p.length≤4294960000) (aB:gw 274877906944 D):
 aC Tryz.prog w0 169 #[ptr c,ptr cE,ptr dE] I (fun r M=>∃bq:List Nat,∃g2:cz,r= .int .i64 ((D.lay (cC p) ⟨false,cS (cG l)⟩).1:Int)∧(bn bq g2 M b (D.lay (cC p) ⟨false,cS (cG l)⟩).2)∧(aZ K I.size bq)∧V (aE K) I M):=by
 refine aC.aK [ptr c,ptr cE,ptr dE] Tryz.func169 ?_;intro aL aF;have C:V (aE K) I I:=V.refl _ _;have N:=aZ.refl K I.size;have aV:=t.aB;have aW:=av.lt;have au:=L.lt;have am:=W.lt;have aT:=S.lt;refine G.L (fun ay=>?_);refine o.aj ?_;refine ay (G.seq (fun bq X _=>?_));refine dC (fun j=>V (aE K) I j) [] ?_;have d:V (aE K) I I:=V.refl _ _;have Z:=aZ.refl K I.size;refine O.t1 0 rfl (fun j i=>Y.fQ (av.ab i (ee)).N rfl hj rfl) d ?_;refine O.bI 1 rfl d ?_;refine O.t1 2 rfl (fun j i=>Y.fieldAddr (L.ab i (dl)).N rfl gk rfl rfl ma (by decide) rfl) d ?_;refine O.t1 3 rfl (fun j i=>Y.fQ (L.ab i (dl)).N rfl lO rfl) d ?_;refine O.t1 4 rfl (fun j i=>Y.fQ (W.ab i (d7)).N rfl bL rfl) d ?_;refine O.t1 5 rfl (fun j i=>Y.fQ (S.ab i (d3)).N rfl rE rfl) d ?_;refine O.aY 6 ?_;refine ch Bj (C8 s l w0 _ aD.any (fun x h=>(aK x h).any) aJ (by omega)) (fun aO B aa=>?_);obtain⟨ab,q,rfl,E,P,ac⟩:=aa;have ae:ah q K:=ah.ow (ah.kd) t.aB P;have ai:T 0 I.size q:=T.L (T.refl 0 _) P d.size;replace t:=t.M ac;replace aN:=aN.M ac;replace C:=C.bc ac;replace d:=d.bc ac;have aP:=ac.size;have aS:=E.le;refine⟨.inr d,O.narrow (SH2:=fun j=>V (aE (K++[q])) B j) (fun j i=>d.aJ i (ag.app (ag.cF (Z) (by intro k A;simp[A])) (ag.J (aq.q ai)))) ?_⟩;have d:V (aE (K++[q])) B B:=V.refl _ _;have Q:=aZ.refl K B.size;have aj:=T.refl q B.size;refine O.aY 7 ?_;refine ch Bi (rj bk K g b D (cC p) ab (cS (cG l)) _ w0 _ t aN (aA.mono (by omega)) (di) E.rd (bg.of E.le) (az.of (ae)) (by rw[o5];omega) aB (by unfold cS;rw[List.length_append];have a_:gz.length=8:=rfl;omega)) (fun aQ H af=>?_);obtain⟨ap,aR,rfl,t,ad,R⟩:=af;have an:aZ K I.size ap:=aZ.L (N) ad C.size;have ar:aZ K B.size ap:=aZ.L (Q) ad d.size;replace C:=C.aJ R (ag.cF (N) (by intro k A;simp[A]));replace d:=d.aJ R (ag.cF (Q) (by intro k A;simp[A]));refine⟨.inr d,O.narrow (SH2:=fun j=>V (aE (ap++[q])) H j) (fun j i=>d.aJ i (ag.app (ag.cF (ar) (by intro k A;simp[A])) (ag.J (aq.r aj)))) ?_⟩;have d:V (aE (ap++[q])) H H:=V.refl _ _;refine O.t1 8 rfl (fun j i=>ev) d ?_;refine cD ?_;refine X _ _ ?_;refine G.ret (aF ?_);exact⟨_,_,rfl,t,an,C⟩
set_option maxHeartbeats 2000000 in
theorem CM(bk:Int)(K:List Nat)(g:cz)(b:Nat)(D:aG)(c aX:Nat)(p:aH)(n:Nat)(br:Bool)(cE:Nat)(w0:World)(I:Heap)
 (d:bn K g I b D) (aN:dV bk I) (L:bg (fun b=>b=0) I.size) (di:az (fun b=>b=0) K) (av:Var 103 I c [ptr aX]) (j:Var 206 I aX [ptr b,aI p,.int .i64 (n:Int),.bool br]) (ee:ah (c+1) K) (dl:ah (aX+1) K) (x:Var 9 I cE [aI (cC p)]) (d7:ah (cE+1) K) (X:p.length≤4294960000) (M:gw 274877906944 D):
 aC Tryz.prog w0 172 #[ptr c,ptr cE] I (fun r q=>∃bq:List Nat,∃g2:cz,r= .int .i64 ((D.sync (cC p)).1:Int)∧(bn bq g2 q b (D.sync (cC p)).2)∧(aZ K I.size bq)∧V (aE K) I q):=by
 refine aC.aK [ptr c,ptr cE] Tryz.func172 ?_;intro R P;have i:V (aE K) I I:=V.refl _ _;have t:=aZ.refl K I.size;have ad:=d.aB;have W:=av.lt;have T:=j.lt;have ac:=x.lt;refine G.L (fun C=>?_);refine o.aj ?_;refine C (G.seq (fun bq E _=>?_));refine iV 5 (fun S N=>?_);refine o.v1 (ar av.N hj) ?_;refine o.bI ?_;refine o.v1 (Y.ai j.N rfl gk rfl ma) ?_;refine o.v1 (ar j.N lO) ?_;refine o.v1 (ar x.N bL) ?_;refine o.nil (N _ ?_);refine aV uT (y1 bk K g b D (cC p) w0 _ d aN (L.mono (by omega)) (di) (by rw[o5];omega) M) ?_;rintro Z Q ⟨A,g8,rfl,d,B,F⟩;have H:aZ K I.size A:=aZ.L (t) B i.size;replace i:=i.aJ F (ag.cF (t) (by intro k O;simp[O]));refine o.aj ?_;refine E _ _ ?_;refine G.ret (P ?_);exact⟨_,_,rfl,d,H,i⟩
set_option maxHeartbeats 2000000 in
theorem CJ(bk:Int)(K:List Nat)(g:cz)(b:Nat)(D:aG)(c aX:Nat)(p:aH)(n:Nat)(br:Bool)(cE:Nat)(w0:World)(I:Heap)
 (i:bn K g I b D) (aN:dV bk I) (L:bg (fun b=>b=0) I.size) (di:az (fun b=>b=0) K) (av:Var 103 I c [ptr aX]) (d:Var 206 I aX [ptr b,aI p,.int .i64 (n:Int),.bool br]) (ee:ah (c+1) K) (dl:ah (aX+1) K) (x:Var 9 I cE [aI (cC p)]) (d7:ah (cE+1) K) (X:p.length≤4294960000) (M:gw 274877906944 D):
 aC Tryz.prog w0 173 #[ptr c,ptr cE] I (fun r q=>∃bq:List Nat,∃g2:cz,r= .int .i64 ((D.rename (cC p) p).1:Int)∧(bn bq g2 q b (D.rename (cC p) p).2)∧(aZ K I.size bq)∧V (aE K) I q):=by
 refine aC.aK [ptr c,ptr cE] Tryz.func173 ?_;intro Q P;have j:V (aE K) I I:=V.refl _ _;have t:=aZ.refl K I.size;have S:=i.aB;have T:=av.lt;have ac:=d.lt;have ad:=x.lt;refine G.L (fun C=>?_);refine o.aj ?_;refine C (G.seq (fun bq E _=>?_));refine iV 9 (fun R N=>?_);refine o.v1 (ar av.N hj) ?_;refine o.bI ?_;refine o.v1 (Y.ai d.N rfl gk rfl ma) ?_;refine o.v1 (ar d.N lO) ?_;refine o.v1 (ar x.N bL) ?_;refine o.v1 (ar av.N hj) ?_;refine o.bI ?_;refine o.v1 (Y.ai d.N rfl gk rfl bO) ?_;refine o.v1 (ar (d.N.drop 1) bL) ?_;refine o.nil (N _ ?_);refine aV Bm (Gn bk K g b D (cC p) p w0 _ i aN (L.mono (by omega)) (di) (by rw[o5];omega) (by omega) M) (fun am W F=>?_);obtain⟨H,ap,rfl,i,A,B⟩:=F;have au:aZ K I.size H:=aZ.L (t) A j.size;replace j:=j.aJ B (ag.cF (t) (by intro k O;simp[O]));refine o.aj ?_;refine E _ _ ?_;refine G.ret (P ?_);exact⟨_,_,rfl,i,au,j⟩
set_option maxHeartbeats 2000000 in
theorem CL(bk:Int)(K:List Nat)(g:cz)(b:Nat)(D:aG)(c aX:Nat)(p:aH)(n:Nat)(br:Bool)(w0:World)(I:Heap)
 (t:bn K g I b D) (aN:dV bk I) (M:bg (fun b=>b=0) I.size) (di:az (fun b=>b=0) K) (av:Var 103 I c [ptr aX]) (B:Var 206 I aX [ptr b,aI p,.int .i64 (n:Int),.bool br]) (ee:ah (c+1) K) (dl:ah (aX+1) K) (an:p.length≤4294960000) (T:gw 274877906944 D):
 aC Tryz.prog w0 175 #[ptr c] I (fun r F=>∃bq:List Nat,∃g2:cz,r= .int .i64 ((D.iu (cp p)).1:Int)∧(bn bq g2 F b (D.iu (cp p)).2)∧(aZ K I.size bq)∧V (aE K) I F):=by
 refine aC.aK [ptr c] Tryz.func175 ?_;intro X W;have x:V (aE K) I I:=V.refl _ _;have H:=aZ.refl K I.size;have aa:=t.aB;have ab:=av.lt;have Z:=B.lt;refine G.L (fun N=>?_);refine o.aj ?_;refine N (G.seq (fun bq ap _=>?_));refine dC (fun j=>V (aE K) I j) [] ?_;have d:V (aE K) I I:=V.refl _ _;have P:=aZ.refl K I.size;refine O.t1 0 rfl (fun j i=>Y.fQ (av.ab i (ee)).N rfl hj rfl) d ?_;refine O.bI 1 rfl d ?_;refine O.t1 2 rfl (fun j i=>Y.fieldAddr (B.ab i (dl)).N rfl gk rfl rfl ma (by decide) rfl) d ?_;refine O.t1 3 rfl (fun j i=>Y.fQ (B.ab i (dl)).N rfl lO rfl) d ?_;refine O.t1 4 rfl (fun j i=>Y.fQ (av.ab i (ee)).N rfl hj rfl) d ?_;refine O.bI 5 rfl d ?_;refine O.t1 6 rfl (fun j i=>Y.fieldAddr (B.ab i (dl)).N rfl gk rfl rfl bO (by decide) rfl) d ?_;refine O.t1 7 rfl (fun j i=>ar ((B.ab i (dl)).N.drop 1) bL) d ?_;refine O.aY 8 ?_;refine ch nu (nw bk p w0 _ aN (M.mono (by omega)) (by omega)) (fun ae A Q=>?_);obtain⟨rfl,ac⟩:=Q;replace t:=t.M ac;replace aN:=aN.M ac;replace x:=x.bc ac;replace d:=d.bc ac;have af:=ac.size;refine⟨.inr d,O.narrow (SH2:=fun j=>V (aE K) A j) (fun j i=>d.aJ i (ag.cF (P) (by intro k q;simp[q]))) ?_⟩;have d:V (aE K) A A:=V.refl _ _;have am:=aZ.refl K A.size;refine O.aY 9 ?_;refine ch Bo (Hz bk K g b D (cp p) w0 _ t aN (M.mono (by omega)) (di) (by have:=CP p;omega) T) (fun ai E R=>?_);obtain⟨C,aj,rfl,t,ad,L⟩:=R;have S:aZ K I.size C:=aZ.L (H) ad x.size;have au:aZ K A.size C:=aZ.L (am) ad d.size;replace x:=x.aJ L (ag.cF (H) (by intro k q;simp[q]));replace d:=d.aJ L (ag.cF (am) (by intro k q;simp[q]));refine⟨.inr d,O.narrow (SH2:=fun j=>V (aE C) E j) (fun j i=>d.aJ i (ag.cF (au) (by intro k q;simp[q]))) ?_⟩;have d:V (aE C) E E:=V.refl _ _;refine O.t1 10 rfl (fun j i=>ev) d ?_;refine cD ?_;refine ap _ _ ?_;refine G.ret (W ?_);exact⟨_,_,rfl,t,S,x⟩
end lL

namespace mz
open E Go.RowKit fz f_ gn gL gU hi hs hD hR iX iY ki kG lh lL
set_option maxRecDepth 100000 in
theorem sn:c6 Tryz.prog 291 230 1 8:=⟨Tryz.underlying291,_,_,rfl,rfl,rfl,rfl,rfl⟩
section
variable {w0 : World} {K : List Nat} {H : Heap} {bk : Int} {b c aX n dE cE cb : Nat} {p : aH} {br : Bool} {s : aM} {F : Nat → Prop} {D : aG}
theorem Cv{l:List (aM×Rec)}(d:mn K H bk b c aX p n br)(j:lg K H 9 cE [aI (cC p)])(q:lg K H 104 dE [s.v])(k:mr K F H iF s.v l)(I:∀x∈l,Rd F H a1 1 x.1.v x.2)
 (G:∀x∈l,x.2.length≤1048576) (C:(eZ 0 (cG l)).length≤274877900000) (A:p.length≤4294960000) (B:bP cb D) (M:cb+4*((cS (cG l)).length+20)≤536870912):
 ∀(i:Nat) (h:i<([(169,[ptr c,ptr cE,ptr dE]),(172,[ptr c,ptr cE]),(173,[ptr c,ptr cE]),(175,[ptr c])]:List jH).length) (gf:List Nat) (o:cz) (aa:Heap),bn gf o aa b (c5 ((jd p (cG l)).take i) D).2→aZ K H.size gf→V (aE K) H aa→
  rp w0 b (pn (jd p (cG l)) i) (.func (.func ([(169,[ptr c,ptr cE,ptr dE]),(172,[ptr c,ptr cE]),(173,[ptr c,ptr cE]),(175,[ptr c])]:List jH)[i].1) #[] ([(169,[ptr c,ptr cE,ptr dE]),(172,[ptr c,ptr cE]),(173,[ptr c,ptr cE]),(175,[ptr c])]:List jH)[i].2.toArray) gf aa (c5 ((jd p (cG l)).take i) D).2:=by
 intro i E gf o aa t c_ hm;have r:gw 274877906944 (c5 ((jd p (cG l)).take i) D).2:=(uO i (wE p (cG l)) B).bT (by have:(jd p (cG l)).length=4:=rfl;rw[this];omega);have d:=d.up hm c_;have j:=j.up hm c_;have q:=q.up hm c_;have L:∀x∈l,Rd F aa a1 1 x.1.v x.2:=fun x h=>(I x h).ab hm k.gO;have k:=k.up hm c_
 match i,E with
 |0,_=>exact fa.of (caps:=[ptr c,ptr cE,ptr dE]) (args:=[]) Bg (CO bk gf o b _ c aX p n br cE dE s l F w0 _ t d.aN d.kH d.di d.dA d.dJ d.ee d.dl j.v j.d q.v q.d k.rd k.bY k.gO L k.bY k.gO G C A r)
 |1,_=>exact fa.of (caps:=[ptr c,ptr cE]) (args:=[]) Bk (CM bk gf o b _ c aX p n br cE w0 _ t d.aN d.kH d.di d.dA d.dJ d.ee d.dl j.v j.d A r)
 |2,_=>exact fa.of (caps:=[ptr c,ptr cE]) (args:=[]) Bl (CJ bk gf o b _ c aX p n br cE w0 _ t d.aN d.kH d.di d.dA d.dJ d.ee d.dl j.v j.d A r)
 |3,_=>exact fa.of (caps:=[ptr c]) (args:=[]) Bn (CL bk gf o b _ c aX p n br w0 _ t d.aN d.kH d.di d.dA d.dJ d.ee d.dl A r)
theorem Ae{rc:Rec}(d:mn K H bk b c aX p n br)(o:lg K H 57 dE [s.v])(k:mr K F H a1 s.v rc)(C:rc.length≤1048576)(B:p.length≤4294960000)(t:bP cb D)(A:cb+4*(rc.length+20)≤536870912):
 ∀(i:Nat) (h:i<([(109,[ptr c,ptr dE]),(106,[ptr c]),(112,[ptr c]),(106,[ptr c])]:List jH).length) (gf:List Nat) (j:cz) (aa:Heap),bn gf j aa b (c5 ((gV p n rc).take i) D).2→aZ K H.size gf→V (aE K) H aa→
  rp w0 b (pn (gV p n rc) i) (.func (.func ([(109,[ptr c,ptr dE]),(106,[ptr c]),(112,[ptr c]),(106,[ptr c])]:List jH)[i].1) #[] ([(109,[ptr c,ptr dE]),(106,[ptr c]),(112,[ptr c]),(106,[ptr c])]:List jH)[i].2.toArray) gf aa (c5 ((gV p n rc).take i) D).2:=by
 intro i x gf j aa r c_ hm;have q:gw 274877906944 (c5 ((gV p n rc).take i) D).2:=(uO i (ur p n rc) t).bT (by have:(gV p n rc).length=4:=rfl;rw[this];omega);have d:=d.up hm c_;have o:=o.up hm c_;have k:=k.up hm c_
 match i,x with
 |0,_=>exact fa.of (caps:=[ptr c,ptr dE]) (args:=[]) AQ (z7 bk gf j b _ c aX p n br dE s rc F w0 _ r d.aN d.kH d.di d.dA d.dJ d.ee d.dl o.v o.d k.rd k.bY k.gO (by omega) (by omega) q)
 |1,_=>exact fa.of (caps:=[ptr c]) (args:=[]) uS (uA bk gf j b _ c aX p n br w0 _ r d.aN d.kH d.di d.dA d.dJ d.ee d.dl (by omega) q)
 |2,_=>exact fa.of (caps:=[ptr c]) (args:=[]) AS (z_ bk gf j b _ c aX p n br w0 _ r d.aN d.kH d.di d.dA d.dJ d.ee d.dl (by omega) q)
 |3,_=>exact fa.of (caps:=[ptr c]) (args:=[]) uS (uA bk gf j b _ c aX p n br w0 _ r d.aN d.kH d.di d.dA d.dJ d.ee d.dl (by omega) q)
end
theorem mK(b:List UInt8):(eZ 0 (ea b)).length≤b.length∧(cS (ea b)).length≤b.length+8:=by
 by_cases h:gu b=0
 ·obtain⟨t,e,_⟩:=FU h
  have U:=congrArg List.length e;rw[List.length_append]at U;unfold cS at U⊢;rw[List.length_append]at U⊢;omega
 ·have:ea b=[]:=by unfold gu at h;unfold ea;split at h;exact absurd rfl h;rename_i d;rw[if_neg d]
  rw[this];simp[eZ,cS,gz]
theorem r6(l:List Rec)(n:Nat):(eZ 0 (l.take n)).length≤(eZ 0 l).length:=by
 conv=>rhs;rw[←List.take_append_drop n l,oG]
 rw[List.length_append];omega
def gD(D:aG)(p:aH)(n:Nat):Nat×aG:=if D.fw p≠0 then(D.fw p,D)else if gu (D.cx p)≠0 then(gu (D.cx p),D)else eF D p ((ea (D.cx p)).take n)
def nP(D:aG)(p:aH)(n:Nat):Nat:=((ea (D.cx p)).take n).length
def mU(e m n:Nat):Nat:=if e=0 then m else n
def nL(e:Nat)(br:Bool):Bool:=if e=0 then false else br
def iP(D:aG)(p:aH)(n:Nat)(br:Bool):Nat×Nat×aG:=if br=true then((gD D p n).1,nP D p n,(gD D p n).2)else(0,n,D)
def e8(D:aG)(p:aH)(n:Nat)(br:Bool)(r:Rec):Nat×Nat×Bool×aG:=
 if(iP D p n br).1≠0 then((iP D p n br).1,n,br,(iP D p n br).2.2)
 else
  let q:=c5 (gV p (iP D p n br).2.1 r) (iP D p n br).2.2
  (q.1,if q.1=0 then(iP D p n br).2.1+1 else(iP D p n br).2.1,if q.1=0 then false else true,q.2)
theorem uN{cb:Nat}{D:aG}(h:bP cb D)(p:aH)(n:Nat):bP (cb+4*(cb+28)) (gD D p n).2:=by
 unfold gD;split
 ·exact h.mono (by omega)
 ·split
  ·exact h.mono (by omega)
  ·refine(rS h p _).mono ?_
   have d:=(mK (D.cx p)).1;have U:=r6 (ea (D.cx p)) n
   have i:(D.cx p).length≤cb:=by
    unfold aG.cx aG.dk;split
    ·split
     ·exact(h.f _).1
     ·exact Nat.zero_le _
    ·exact Nat.zero_le _
   have j:gz.length=8:=rfl;unfold cS;rw[List.length_append];omega
theorem nZ{cb:Nat}{D:aG}(h:bP cb D)(p:aH):(D.cx p).length≤cb:=by
 unfold aG.cx aG.dk;split
 ·split
  ·exact(h.f _).1
  ·exact Nat.zero_le _
 ·exact Nat.zero_le _
theorem AG{cb:Nat}{D:aG}(h:bP cb D)(p:aH)(n:Nat)(br:Bool)(r:Rec):bP (cb+4*(cb+28)+4*(r.length+20)) (e8 D p n br r).2.2.2:=by
 have d:bP (cb+4*(cb+28)) (iP D p n br).2.2:=by
  unfold iP;split
  ·exact uN h p n
  ·exact h.mono (by omega)
 unfold e8;split
 ·exact d.mono (by omega)
 ·exact(pS (ur p _ r) d).mono (by simp[gV];omega)
theorem r1(bk:Int)(K:List Nat)(g:cz)(b:Nat)(D:aG)(aX:Nat)(p:aH)(n:Nat)(br:Bool)(s:aM)(l:List (aM×Rec))(F:Nat→Prop)(cb:Nat)(w0:World)(I:Heap)
 (j:bn K g I b D) (aN:dV bk I) (a7:bg (fun b=>b=0) I.size) (di:az (fun b=>b=0) K) (d:Var 206 I aX [ptr b,aI p,.int .i64 (n:Int),.bool br]) (dl:ah (aX+1) K) (c1:ay (fun b=>b=0) (aX+1)) (A:Rd F I iF 1 s.v l) (a6:bg F I.size) (a8:az F K) (M:∀x∈l,Rd F I a1 1 x.1.v x.2) (bZ:bg F I.size) (cZ:az F K) (bc:∀x∈l,x.2.length≤1048576) (ch:(eZ 0 (cG l)).length≤274877900000) (cd:ay F (aX+1)) (c0:ay F (aX+1)) (cl:p.length≤4294960000) (cf:bP cb D) (cg:cb+4*((cS (cG l)).length+20)≤536870912) (c3:l.length≤1073741824):
 aC Tryz.prog w0 90 #[ptr aX,s.v] I (fun r L=>∃bq:List Nat,∃g2:cz,r= .int .i64 ((eF D p (cG l)).1:Int)∧(bn bq g2 L b (eF D p (cG l)).2)∧(aZ K I.size bq)∧(Var 206 L aX [ptr b,aI p,.int .i64 (mU (eF D p (cG l)).1 l.length n:Int),.bool (nL (eF D p (cG l)).1 br)])∧(ah (aX+1) bq)∧V (aE (K++[(aX+1)])) I L):=by
 refine aC.aK [ptr aX,s.v] Tryz.func90 ?_;intro cq bb;have q:V (aE (K++[(aX+1)])) I I:=V.refl _ _;have aL:=aZ.refl K I.size;have bS:=j.aB;have aK:=T.refl (aX+1) I.size;have cu:=d.lt;refine G.L (fun a5=>?_);refine o.aO (Z.nq rfl rfl (rfl)) ?_;rintro v2 L ⟨rfl,t,X,cV,bd⟩;have cr:L.size=I.size+1:=by rw[bd];simp
 have a0:ah (I.size+1) K:=ah.hn j.aB;have b2:af (aX+1) (I.size+1):=af.new d.lt;replace j:=j.M X;replace aN:=aN.M X;replace d:=d.M X;replace A:=A.M X;replace M:=fun x P=>(M x P).M X;replace q:=q.bc X;have cY:=X.size;replace t:Var 103 L I.size ([ptr aX]):=t;refine o.aO (Z.nq rfl rfl ((A).o8)) ?_;rintro v3 an ⟨rfl,C,ap,cv,bf⟩;have a9:an.size=L.size+1:=by rw[bf];simp
 have a2:ah (L.size+1) K:=ah.hn j.aB;have bR:af (aX+1) (L.size+1):=af.new d.lt;replace j:=j.M ap;replace aN:=aN.M ap;replace d:=d.M ap;replace A:=A.M ap;replace M:=fun x P=>(M x P).M ap;replace t:=t.M ap;replace q:=q.bc ap;have cw:=ap.size;replace C:Var 104 an L.size ([s.v]):=C;refine o.aj ?_;refine a5 (G.seq (fun bq bU _=>G.L (fun bV=>?_)));refine o.v1 (ar C.N rE) ?_;refine o.v1 (ba A h6) ?_;refine o.W (o.nil (bV ?_));refine G.aB (fun _ bX _=>?_)
 refine G.bd (fun(i:(Nat))=>[(2,.pointer (some ⟨I.size,0,none⟩)),(3,.pointer (some ⟨L.size,0,none⟩)),(9,s.v),(10,.int .i64 (l.length:Int)),(11,.int .i64 (i:Int))])
  (fun(i:(Nat)) (H:Heap)=>(i≤l.length)∧ak an H)
  (fun(i:(Nat))=>l.length-i) 0 ⟨rfl,rfl,rfl,rfl,rfl,trivial⟩ ?_ ?_
 ·
  exact⟨(by omega),V.refl _ _⟩
 intro i B bT cp be bY;obtain⟨c2,Q⟩:=bT;replace j:=j.M Q;replace aN:=aN.M Q;replace d:=d.M Q;replace A:=A.M Q;replace M:=fun x P=>(M x P).M Q;replace t:=t.M Q;replace C:=C.M Q;replace q:=q.bc Q;have cy:=Q.size;refine G.L (fun b0=>?_);refine o.v1 bG (o.nil (b0 ?_));refine G.t2 (fun b3 bi=>?_);refine aT (fun b4=>?_) (fun b4=>?_)
 ·
  have a_:i<l.length:=by omega
  have cn:=M l[i] (List.getElem_mem a_);have c6:=bc l[i] (List.getElem_mem a_);refine G.skip (b3 (G.t1 (fun b5=>G.aB (fun b6 _ _=>G.L (fun bl=>?_)))));refine o.bR (Y.bJ A (i) rfl h6 da rfl rfl) fun cO bm=>?_;refine o.v1 (ar bm.N eA) ?_;refine o.aj ?_;refine bl (G.L (fun bo=>?_));refine o.W ?_;refine o.v1 (ba cn db) ?_;refine o.v1 ((eT).fC (by omega)) (o.nil (bo ?_));refine dB ?_;refine G.skip (b6 (b5 (G.region ?_)));refine o.v1 bD ?_;refine o.W (o.nil ?_);refine aP.sub (be (i+1) _ ?_ ?_) ⟨rfl,rfl,rfl,(aD (by omega)),(aD (by omega)),trivial⟩
  ·exact⟨(by omega),Q⟩
  ·first|omega|(simp only;omega)|(simp;omega)
 ·
  refine G.exit (bi (bY (bX ?_)));refine bU _ _ (G.L (fun bp=>?_));refine o.v1 (ar t.N hj) ?_;refine o.bI ?_;refine o.v1 (Y.ai d.N rfl gk rfl bO) ?_;refine o.v1 (ar (d.N.drop 1) bL) ?_;refine o.v1 (Y.cast (v2:=aI (cC p)) (Y.qZ rfl rfl rfl (by simp only[List.length_cons,List.length_nil];omega)) (rfl)) ?_;refine o.aO (cQ Io) ?_;rintro c_ aB ⟨rfl,aa,am,cB,b7⟩;have cP:aB.size=B.size+1:=by rw[b7];simp
  have aQ:ah (B.size+1) K:=ah.hn j.aB;have bs:=(ay.new (a7.mono q.size):ay _ (B.size+1));have bt:af (aX+1) (B.size+1):=af.new d.lt;have bu:=(ay.new (a6.mono q.size):ay _ (B.size+1));have bw:=(ay.new (bZ.mono q.size):ay _ (B.size+1));have bx:af (I.size+1) (B.size+1):=af.new t.lt;have bz:af (L.size+1) (B.size+1):=af.new C.lt;have bA:T 0 I.size (B.size+1):=T.new q.size;replace j:=j.M am;replace aN:=aN.M am;replace d:=d.M am;replace A:=A.M am;replace M:=fun x P=>(M x P).M am;replace t:=t.M am;replace C:=C.M am;replace q:=q.bc am;have cE:=am.size;replace aa:Var 9 aB B.size ([aI []]):=aa;refine o.s1 (dh aa 0 ([aI (cC p)]) (rfl) bO (by simp) (rfl)) fun aR bC=>?_;obtain⟨aa,N⟩:=bC;replace N:=N.bp;replace j:=j.ab N (ew.cons aQ ew.nil);replace aN:=aN.ab N (az.J bs);replace d:=d.ab N (ah.J bt);replace A:=A.ab N (az.J bu);replace M:=fun x P=>(M x P).ab N (az.J bw);replace t:=t.ab N (ah.J bx);replace C:=C.ab N (ah.J bz);replace q:=q.aJ N (ag.J (aq.q bA));have cH:=N.size;refine o.nil (bp (G.L (fun bE=>?_)));refine o.v1 (Y.makeFunc rfl rfl) ?_;refine o.v1 (Y.makeFunc rfl rfl) ?_;refine o.v1 (Y.makeFunc rfl rfl) ?_;refine o.v1 (Y.makeFunc rfl rfl) ?_;refine o.aO (cU _ (([(169,[ptr I.size,ptr B.size,ptr L.size]),(172,[ptr I.size,ptr B.size]),(173,[ptr I.size,ptr B.size]),(175,[ptr I.size])]:List jH)) sn wb wc (rfl)) fun b8 b_ ca=>?_;obtain⟨aS,R,cT,bF⟩:=ca;have a3:b_.size=aR.size+1:=by rw[bF];simp
  have bH:ah (aR.size+1) K:=ah.hn j.aB;replace j:=j.M R;replace aN:=aN.M R;replace d:=d.M R;replace A:=A.M R;replace M:=fun x P=>(M x P).M R;replace t:=t.M R;replace C:=C.M R;replace aa:=aa.M R;replace q:=q.bc R;have cI:=R.size;refine aV uU (wu K g b D b8 [(169,[ptr I.size,ptr B.size,ptr L.size]),(172,[ptr I.size,ptr B.size]),(173,[ptr I.size,ptr B.size]),(175,[ptr I.size])] (jd p (cG l)) _ w0 _ j aS.rd (bg.of aS.le) (az.of (bH)) rfl (Cv (mn.mk aN (a7.mono (by omega)) (di) t d (a0) (dl)) (lg.mk aa (aQ)) (lg.mk C (a2)) (mr.mk A (a6.mono (by omega)) (a8)) M bc ch cl cf cg)) (fun cJ ai bv=>?_);have bJ:=d.lt;obtain⟨a4,cK,rfl,j,aO,au⟩:=bv;have aj:ah (aX+1) a4:=ah.hk (dl) bJ aO;have aW:aZ K I.size a4:=aZ.L (aL) aO q.size;replace d:=d.ab au (dl);replace A:=A.ab au (a8);replace t:=t.ab au (a0);replace C:=C.ab au (a2);replace q:=q.aJ au (ag.cF (aL) (by intro k cj;simp[cj]));have cL:=au.size;have bS:=j.aB;refine o.aj ?_;refine bE (G.t1 (fun aY=>G.L (fun bM=>?_)));refine o.W ?_;refine o.v1 b9 (o.nil (bM ?_));refine aT (fun cc=>?_) (fun cc=>?_)
  ·
   refine dC (fun W=>V (aE [(aX+1)]) ai W) [] ?_;have E:V (aE [(aX+1)]) ai ai:=V.refl _ _;have aF:=T.refl (aX+1) ai.size;refine O.t1 0 rfl (fun W S=>Y.fQ (t.ab S (ah.J b2.symm)).N rfl hj rfl) E ?_;refine O.t1 1 rfl (fun W S=>Y.fQ (t.ab S (ah.J b2.symm)).N rfl hj rfl) E ?_;refine O.t1 2 rfl (fun W S=>Y.fQ (C.ab S (ah.J bR.symm)).N rfl rE rfl) E ?_;refine O.t1 3 rfl (fun W S=>ba (A.ab S (az.J cd)) h6) E ?_;refine O.bI 4 rfl E ?_;refine O.t1 5 rfl (fun W S=>Y.wo d.N rfl gk rfl rfl b1 (by decide) rfl) E ?_;refine O.aY 6 ?_;refine gJ rfl (dh d 2 ([ptr b,aI p,.int .i64 (l.length:Int),.bool br]) (rfl) b1 (by simp) (rfl)) (fun aA bh=>?_);obtain⟨d,ac⟩:=bh;replace ac:=ac.bp;replace j:=j.ab ac (ew.cons aj ew.nil);replace q:=q.aJ ac (ag.J (aq.r aK));replace E:=E.aJ ac (ag.J (aq.r aF));have cM:=ac.size;refine O.b3 E (ag.J (aq.r aF)) ?_;have E:V (aE [(aX+1)]) aA aA:=V.refl _ _;have aJ:=T.refl (aX+1) aA.size;refine O.bI 7 rfl E ?_;refine O.t1 8 rfl (fun W S=>Y.wo d.N rfl gk rfl rfl cW (by decide) rfl) E ?_;refine O.aY 9 ?_;refine gJ rfl (dh d 3 ([ptr b,aI p,.int .i64 (l.length:Int),.bool false]) (rfl) cW (by simp) (rfl)) (fun ct bj=>?_);obtain⟨d,ab⟩:=bj;replace ab:=ab.bp;replace j:=j.ab ab (ew.cons aj ew.nil);replace q:=q.aJ ab (ag.J (aq.r aK));replace E:=E.aJ ab (ag.J (aq.r aJ));have cN:=ab.size;refine O.b3 E (ag.J (aq.r aJ)) ?_;refine cD ?_;refine aY (G.L (fun bN=>?_));refine o.aR 2 ?_;refine bN ?_;refine G.ret (bb ?_);have ae:(c5 (jd p (cG l)) D).1=0:=by omega
   exact⟨_,_,rfl,j,aW,by unfold mU nL eF;rw[if_pos ae,if_pos ae];exact d,aj,q⟩
  ·
   refine G.skip (aY (G.L (fun bQ=>?_)));refine o.aR 2 ?_;refine bQ ?_;refine G.ret (bb ?_);have ae:(c5 (jd p (cG l)) D).1≠0:=by omega
   exact⟨_,_,rfl,j,aW,by unfold mU nL eF;rw[if_neg ae,if_neg ae];exact d,aj,q⟩
end mz

namespace nk
open E Go.RowKit fz f_ gn gL gU hi hs hD hR iX iY ki kG lh lL mz
set_option maxRecDepth 100000 in
theorem sn:c6 Tryz.prog 291 230 1 8:=⟨Tryz.underlying291,_,_,rfl,rfl,rfl,rfl,rfl⟩
theorem EN{D:aG}{p:aH}{n:Nat}(h:D.fw p≠0):gD D p n=(D.fw p,D):=by unfold gD;rw[if_pos h]
theorem EO{D:aG}{p:aH}{n:Nat}(h:D.fw p=0)(U:gu (D.cx p)≠0):gD D p n=(gu (D.cx p),D):=by unfold gD;rw[if_neg (by omega),if_pos U]
theorem EP{D:aG}{p:aH}{n:Nat}(h:D.fw p=0)(U:gu (D.cx p)=0):gD D p n=eF D p ((ea (D.cx p)).take n):=by unfold gD;rw[if_neg (by omega),if_neg (by omega)]
theorem Gd(l:List (aM×Rec))(i n:Nat)(h:i=min n l.length):cG (l.take i)=(cG l).take n:=by
 unfold cG;rw[List.map_take,h];rcases Nat.le_total n l.length with U|U
 ·rw[Nat.min_eq_left U]
 ·rw[Nat.min_eq_right U,List.take_of_length_le (by simp),List.take_of_length_le (by simpa using U)]
theorem vS(b:List UInt8)(n:Nat):(cS ((ea b).take n)).length≤b.length+8:=by
 have d:=(mK b).1;have U:=r6 (ea b) n;have i:gz.length=8:=rfl;unfold cS;rw[List.length_append];omega
theorem s9(b:List UInt8):(ea b).length≤b.length+8:=Nat.le_trans (vT _) (mK b).2
theorem oW{m n e:Nat}(h:e=0):mU e m n=m:=if_pos h
theorem oV{e:Nat}{br:Bool}(h:e=0):nL e br=false:=if_pos h
theorem sv{m n e:Nat}(h:e≠0):mU e m n=n:=if_neg h
theorem su{e:Nat}{br:Bool}(h:e≠0):nL e br=br:=if_neg h
theorem ER(bk:Int)(K:List Nat)(g:cz)(b:Nat)(D:aG)(aX:Nat)(p:aH)(n:Nat)(br:Bool)(cb:Nat)(w0:World)(I:Heap)
 (j:bn K g I b D) (aN:dV bk I) (an:bg (fun b=>b=0) I.size) (di:az (fun b=>b=0) K) (d:Var 206 I aX [ptr b,aI p,.int .i64 (n:Int),.bool br]) (dl:ah (aX+1) K) (bo:ay (fun b=>b=0) (aX+1)) (bs:p.length≤4294960000) (S:bP cb D) (bJ:cb≤90000000) (bM:n≤1073741824):
 aC Tryz.prog w0 105 #[ptr aX] I (fun r W=>∃bq:List Nat,∃g2:cz,r= .int .i64 ((gD D p n).1:Int)∧(bn bq g2 W b (gD D p n).2)∧(aZ K I.size bq)∧(Var 206 W aX [ptr b,aI p,.int .i64 (mU (gD D p n).1 (nP D p n) n:Int),.bool (nL (gD D p n).1 br)])∧(ah (aX+1) bq)∧V (aE (K++[(aX+1)])) I W):=by
 refine aC.aK [ptr aX] Tryz.func105 ?_;intro bx aa;have t:V (aE (K++[(aX+1)])) I I:=V.refl _ _;have Q:=aZ.refl K I.size;have H:=j.aB;have ad:=T.refl (aX+1) I.size;have ae:=d.lt;have bR:=nZ S p;have bp:=vS (D.cx p);have bN:=s9 (D.cx p);refine G.L (fun bj=>?_);refine o.aj ?_;refine bj (G.seq (fun bq bl _=>?_));refine dC (fun A=>ak I A) [] ?_;have B:=ak.refl I;refine O.W 0 rfl B ?_;refine O.bI 1 rfl B ?_;refine O.t1 2 rfl (fun A q=>Y.ai (d.N.M q) rfl gk rfl ma) B ?_;refine O.t1 3 rfl (fun A q=>ar (d.N.M q) lO) B ?_;refine O.W 4 rfl B ?_;refine O.bI 5 rfl B ?_;refine O.t1 6 rfl (fun A q=>Y.ai (d.N.M q) rfl gk rfl bO) B ?_;refine O.t1 7 rfl (fun A q=>ar ((d.N.drop 1).M q) bL) B ?_;refine O.aY 8 ?_;refine ch vr (yc bk K g b D p w0 _ aN (an.mono (by omega)) j (by omega) (fun i=>by have:=(S.f i).1;omega)) (fun bC au aA=>?_);obtain⟨aB,bD,rfl,am,bA,E⟩:=aA;replace j:=j.M E;replace aN:=aN.M E;replace d:=d.M E;replace t:=t.bc E;have bE:=E.size;have bG:=am.le;have ap:=B.L E;refine O.cn ap ?_;have ac:=ak.refl au;refine O.W 9 rfl ac ?_;refine O.t1 10 rfl (fun A q=>cN) ac ?_;refine O.t1 11 rfl (fun A q=>cN) ac ?_;refine O.t1 12 rfl (fun A q=>ev) ac ?_;refine O.t1 13 rfl (fun A q=>ev) ac ?_;refine cD ?_;have bQ:=ac;refine bl _ _ (G.t2 (fun aD aF=>G.L (fun aJ=>?_)));refine o.W ?_;refine o.v1 c1 (o.nil (aJ ?_));refine aT (fun aK=>?_) (fun aK=>?_)
 ·
  refine G.L (fun aL=>?_);refine o.aR 2 ?_;refine aL ?_;refine G.ret (aF (aa ?_));have hm:=EN (n:=n) (show D.fw p≠0 by omega);have P:(gD D p n).1≠0:=by rw[hm];show D.fw p≠0;omega
  exact⟨_,_,by rw[hm];rfl,by rw[hm];exact j,Q,by rw[sv P,su P];exact d,dl,t⟩
 ·
  refine G.skip (aD (G.L (fun aO=>?_)));refine o.W ?_;refine aV vs (x1 aB (D.cx p) w0 _ am.rd.any (by have:=nZ S p;omega)) (fun bF R aP=>?_);obtain⟨a0,C,rfl,Z,L,X,M⟩:=aP;replace j:=j.M M;replace aN:=aN.M M;replace d:=d.M M;replace t:=t.bc M;have a2:=M.size;replace L:=L.bt;have af:=L.bY;have aQ:az (fun b=>au.size≤b∧b<R.size) K:=az.iZ (fun b h=>h.1) (by first|exact H|exact fun k N=>Nat.le_trans (H k N) (by omega)|assumption);have aR:ay (fun b=>au.size≤b∧b<R.size) (aX+1):=ay.iZ (fun b h=>h.1) (by first|exact bt|exact ae|omega);replace X:=fun x bw=>(X x bw).bt;have aS:az (fun b=>au.size≤b∧b<R.size) K:=az.iZ (fun b h=>h.1) (by first|exact H|exact fun k N=>Nat.le_trans (H k N) (by omega)|assumption);have aW:ay (fun b=>au.size≤b∧b<R.size) (aX+1):=ay.iZ (fun b h=>h.1) (by first|exact bt|exact ae|omega);refine o.W ?_;refine o.v1 cN ?_;refine o.v1 cN ?_;refine o.v1 cN ?_;refine o.aR 3 ?_;refine aO (G.t2 (fun aY a1=>G.L (fun a6=>?_)));refine o.W ?_;refine o.v1 c1 (o.nil (a6 ?_));refine aT (fun a7=>?_) (fun a7=>?_)
  ·
   refine G.L (fun a8=>?_);refine o.aR 2 ?_;refine a8 ?_;refine G.ret (a1 (aa ?_));have hm:=EO (n:=n) (show D.fw p=0 by omega) (show gu (D.cx p)≠0 by omega);have P:(gD D p n).1≠0:=by rw[hm];show gu (D.cx p)≠0;omega
   exact⟨_,_,by rw[hm];rfl,by rw[hm];exact j,Q,by rw[sv P,su P];exact d,dl,t⟩
  ·
   refine G.skip (aY (G.L (fun bf=>?_)));refine o.ax 4 ?_;refine o.v1 (Y.ai d.N rfl gk rfl b1) ?_;refine o.v1 (ar (d.N.drop 2) cd) ?_;refine o.W ?_;refine o.v1 (ba L h6) ?_;refine o.v1 (Y.cast (v2:= .int .i64 ((min n C.length:Nat):Int)) (Y.EU rfl rfl rfl) (fJ (by omega))) ?_;refine o.aK (g:=fun v=>v) (Y.slice L (0) (min n C.length) rfl h6 da rfl (.inl ⟨rfl,rfl⟩) (.inr ⟨_,_,_,rfl,rfl,by first|rfl|omega⟩) (by omega) (by omega)) fun aj ab=>?_;rw[List.drop_zero]at ab;obtain⟨a_,rfl⟩:∃s:aM,aj=s.v:=⟨cg aj,ab.bm.symm⟩;have F:=Gd C (min n C.length) n rfl;rw[Z]at F;have bu:=congrArg List.length Z;simp only[cG,List.length_map]at bu;refine aV rZ (r1 bk K g b D aX p n br a_ (C.take (min n C.length)) _ cb w0 _ j aN (an.mono (by omega)) (di) d (dl) (bo) ab (af.mono (by omega)) (aQ) (fun x h=>X x (List.mem_of_mem_take h)) (af.mono (by omega)) (aS) (fun x h=>xX _ _ (by rw[←Z];exact List.mem_map_of_mem (List.mem_of_mem_take h))) (by rw[F];have bH:=r6 (ea (D.cx p)) n;have U:=(mK (D.cx p)).1;omega) (aR) (aW) bs S (by rw[F];have:=bp n;omega) (by rw[List.length_take];omega)) (fun a3 a4 bb=>?_);obtain⟨bc,a5,rfl,j,bd,d,bm,ai⟩:=bb;have bh:aZ K I.size bc:=aZ.L (Q) bd t.size;replace t:=t.aJ ai (ag.app (ag.cF (Q) (by intro k N;simp[N])) (ag.J (aq.r ad)));have bz:=ai.size;have H:=j.aB;refine o.aj ?_;refine bf ?_;refine G.ret (aa ?_);have hm:=EP (n:=n) (show D.fw p=0 by omega) (show gu (D.cx p)=0 by omega);rw[F]at j d;exact⟨_,_,by rw[hm,F],by rw[hm];exact j,bh,by rw[hm];unfold nP;rw[show((ea (D.cx p)).take n).length=(C.take (min n C.length)).length from by rw[←F];exact List.length_map _];exact d,bm,t⟩
theorem x6{D:aG}{p:aH}{n:Nat}{br:Bool}(h:br=false):iP D p n br=(0,n,D):=by unfold iP;rw[h];simp
theorem x7{D:aG}{p:aH}{n:Nat}{br:Bool}(h:br=true):iP D p n br=((gD D p n).1,nP D p n,(gD D p n).2):=by unfold iP;rw[if_pos h]
theorem Ah{D:aG}{p:aH}{n:Nat}{br:Bool}{r:Rec}(h:br=true)(U:(gD D p n).1≠0):e8 D p n br r=((gD D p n).1,n,br,(gD D p n).2):=by unfold e8;rw[x7 h,if_pos U]
theorem uu{D d:aG}{p:aH}{n bI:Nat}{br:Bool}{r:Rec}(h:iP D p n br=(0,bI,d)):e8 D p n br r=((c5 (gV p bI r) d).1,if(c5 (gV p bI r) d).1=0 then bI+1 else bI,if(c5 (gV p bI r) d).1=0 then false else true,(c5 (gV p bI r) d).2):=by
 unfold e8;rw[h];simp
def eQ(D:aG)(p:aH):Nat×List Rec×aG:=
 if cv p=false∨cv (cC p)=false then(7,[],D)
 else if D.fw p=2 then((eF D p []).1,[],(eF D p []).2)
 else if D.fw p≠0 then(D.fw p,[],D)
 else if gu (D.cx p)≠0 then(gu (D.cx p),[],D)
 else if m2 (D.cx p)<(D.cx p).length then((eF D p (ea (D.cx p))).1,if(eF D p (ea (D.cx p))).1=0 then ea (D.cx p)else[],(eF D p (ea (D.cx p))).2)
 else(0,ea (D.cx p),D)
theorem AH{cb:Nat}{D:aG}(h:bP cb D)(p:aH):bP (cb+4*(cb+28)) (eQ D p).2.2:=by
 have d:=(mK (D.cx p)).2;have U:=nZ h p;unfold eQ;split
 ·exact h.mono (by omega)
 split
 ·exact(rS h p []).mono (by simp[cS,gz,eZ];omega)
 split
 ·exact h.mono (by omega)
 split
 ·exact h.mono (by omega)
 split
 ·exact(rS h p _).mono (by omega)
 ·exact h.mono (by omega)
theorem H3(bk:Int)(K:List Nat)(g:cz)(b:Nat)(D:aG)(aX:Nat)(p:aH)(n:Nat)(br:Bool)(s:aM)(rc:Rec)(F:Nat→Prop)(cb:Nat)(w0:World)(I:Heap)
 (i:bn K g I b D) (aN:dV bk I) (aD:bg (fun b=>b=0) I.size) (di:az (fun b=>b=0) K) (d:Var 206 I aX [ptr b,aI p,.int .i64 (n:Int),.bool br]) (dl:ah (aX+1) K) (bb:ay (fun b=>b=0) (aX+1)) (B:Rd F I a1 1 s.v rc) (a7:bg F I.size) (a8:az F K) (b5:ay F (aX+1)) (b8:rc.length≤1048576) (bc:p.length≤4294960000) (aj:bP cb D) (cD:cb≤80000000) (cH:n≤1000000000):
 aC Tryz.prog w0 38 #[ptr aX,s.v] I (fun r t=>∃bq:List Nat,∃g2:cz,r= .int .i64 ((e8 D p n br rc).1:Int)∧(bn bq g2 t b (e8 D p n br rc).2.2.2)∧(aZ K I.size bq)∧(Var 206 t aX [ptr b,aI p,.int .i64 ((e8 D p n br rc).2.1:Int),.bool (e8 D p n br rc).2.2.1])∧(ah (aX+1) bq)∧V (aE (K++[(aX+1)])) I t):=by
 refine aC.aK [ptr aX,s.v] Tryz.func38 ?_;intro b_ aJ;have j:V (aE (K++[(aX+1)])) I I:=V.refl _ _;have ac:=aZ.refl K I.size;have an:=i.aB;have ae:=T.refl (aX+1) I.size;have cc:=d.lt;have cK:=nZ aj p;have cE:=vS (D.cx p);have cJ:=s9 (D.cx p);refine G.seq (fun A a5 _=>G.region ?_);refine o.aO (Z.nq rfl rfl (rfl)) ?_;rintro v2 t ⟨rfl,q,R,cw,bd⟩;have ca:t.size=I.size+1:=by rw[bd];simp
 have aR:ah (I.size+1) K:=ah.hn i.aB;have bf:af (aX+1) (I.size+1):=af.new d.lt;replace i:=i.M R;replace aN:=aN.M R;replace d:=d.M R;replace B:=B.M R;replace j:=j.bc R;have bv:=R.size;replace q:Var 103 t I.size ([ptr aX]):=q;refine o.aO (Z.nq rfl rfl ((B).o8)) ?_;rintro v3 E ⟨rfl,L,O,cy,a9⟩;have cf:E.size=t.size+1:=by rw[a9];simp
 have aS:ah (t.size+1) K:=ah.hn i.aB;have bM:af (aX+1) (t.size+1):=af.new d.lt;replace i:=i.M O;replace aN:=aN.M O;replace d:=d.M O;replace B:=B.M O;replace q:=q.M O;replace j:=j.bc O;have cB:=O.size;replace L:Var 57 E t.size ([s.v]):=L;refine o.aj ?_;refine a5 _ _ (G.seq (fun bq bN _=>G.L (fun bO=>?_)));refine o.v1 (ar L.N eA) ?_;refine o.v1 (ba B db) ?_;refine o.v1 ((eT).fC (by omega)) (o.nil (bO ?_));refine dB ?_;refine G.skip (bN _ _ ?_)
 refine G.bo (fun(b9:(List Nat)×(cz)×(aG)×(Nat))=>match b9 with|(A,g1,M,bI)=>[(2,.pointer (some ⟨I.size,0,none⟩)),(3,.pointer (some ⟨t.size,0,none⟩))])
  (fun(A,g1,M,bI) (H:Heap)=>(bn A g1 H b M)∧(Var 206 H aX [ptr b,aI p,.int .i64 (bI:Int),.bool false])∧(iP D p n br=(0,bI,M))∧(bP (cb+4*(cb+28)) M)∧(bI≤1100000000)∧(aZ K E.size A)∧(ah (aX+1) A)∧V (aE (K++[(aX+1)])) E H) (fun _ a0 bT=>?_) ?_
 ·
  have am:V (aE (K++[(aX+1)])) E E:=V.refl _ _;have ad:=aZ.refl K E.size;have bJ:=T.refl (aX+1) E.size;refine G.L (fun be=>?_);refine o.v1 (ar q.N hj) ?_;refine o.bI ?_;refine o.v1 (Y.ai d.N rfl gk rfl cW) ?_;refine o.v1 (ar (d.N.drop 3) dr) (o.nil (be ?_));refine cI (fun aa=>?_) (fun aa=>?_)
  ·
   refine G.L (fun bY=>?_);refine o.v1 (ar q.N hj) ?_;refine aV AP (ER bk K g b D aX p n br cb w0 _ i aN (aD.mono (by omega)) (di) d (dl) (bb) bc aj (by omega) (by omega)) (fun cC cg bQ=>?_);obtain⟨ab,bR,rfl,i,aY,d,a_,aA⟩:=bQ;have bl:aZ K I.size ab:=aZ.L (ac) aY j.size;have bm:aZ K E.size ab:=aZ.L (ad) aY am.size;replace j:=j.aJ aA (ag.app (ag.cF (ac) (by intro k P;simp[P])) (ag.J (aq.r ae)));replace am:=am.aJ aA (ag.app (ag.cF (ad) (by intro k P;simp[P])) (ag.J (aq.r bJ)));have ch:=aA.size;have an:=i.aB;refine o.aj ?_;refine bY (G.L (fun bi=>?_));refine o.W ?_;refine o.v1 c1 (o.nil (bi ?_));refine aT (fun bS=>?_) (fun bS=>?_)
   ·
    refine G.L (fun bU=>?_);refine o.aR 2 ?_;refine bU ?_;refine G.ret (bT (aJ ?_));have C:(gD D p n).1≠0:=by omega
    have x:=Ah (r:=rc) aa C;exact⟨_,_,by rw[x],by rw[x];exact i,bl,by rw[x];rw[sv C,su C]at d;exact d,a_,j⟩
   ·
    refine G.skip ?_;have aF:(gD D p n).1=0:=by omega
    refine aP.sub (a0 (ab,bR,(gD D p n).2,nP D p n) _ ?_) ⟨rfl,rfl,trivial⟩;exact⟨i,by rw[oW aF,oV aF]at d;exact d,by rw[x7 aa,aF],uN aj p n,by unfold nP;rw[List.length_take];omega,bm,a_,am⟩
  ·
   refine G.skip ?_;refine aP.sub (a0 (K,g,D,n) _ ?_) ⟨rfl,rfl,trivial⟩;exact⟨i,by rw[show br=false by simpa using aa]at d;exact d,x6 (by simpa using aa),aj.mono (by omega),(by omega),ad,dl,am⟩
 ·
  rintro⟨A,g1,M,bI⟩ aW bL;obtain⟨i,d,b7,b6,cG,S,au,Q⟩:=bL;have bo:=az.hk (di) (aD.mono j.size) S;have bp:=az.hk (a8) (a7.mono j.size) S;have aK:ah (I.size+1) A:=ah.hk (aR) q.lt S;have bs:ah (t.size+1) A:=ah.hk (aS) L.lt S;have aL:aZ K I.size A:=aZ.L (ac) S j.size;replace aN:=aN.ab Q (az.app di (az.J bb));replace B:=B.ab Q (az.app a8 (az.J b5));replace q:=q.ab Q (ah.app aR (ah.J bf.symm));replace L:=L.ab Q (ah.app aS (ah.J bM.symm));replace j:=j.aJ Q (ag.app (ag.cF (ac) (by intro k P;simp[P])) (ag.J (aq.r ae)));have cj:=Q.size;have an:=i.aB;have aB:=au;refine G.L (fun bV=>?_);refine o.v1 (Y.makeFunc rfl rfl) ?_;refine o.aj ?_;refine bV (G.L (fun bt=>?_));refine o.v1 (Y.makeFunc rfl rfl) ?_;refine o.W ?_;refine o.v1 (Y.makeFunc rfl rfl) ?_;refine o.W ?_;refine o.aO (cU _ (([(109,[ptr I.size,ptr t.size]),(106,[ptr I.size]),(112,[ptr I.size]),(106,[ptr I.size])]:List jH)) sn wb wc (rfl)) fun bX bZ b0=>?_;obtain⟨aO,N,cv,bu⟩:=b0;have b2:bZ.size=aW.size+1:=by rw[bu];simp
  have bw:ah (aW.size+1) A:=ah.hn i.aB;replace i:=i.M N;replace aN:=aN.M N;replace B:=B.M N;replace q:=q.M N;replace L:=L.M N;replace d:=d.M N;replace j:=j.bc N;have cl:=N.size;refine aV uU (wu A g1 b M bX [(109,[ptr I.size,ptr t.size]),(106,[ptr I.size]),(112,[ptr I.size]),(106,[ptr I.size])] (gV p bI rc) _ w0 _ i aO.rd (bg.of aO.le) (az.of (bw)) rfl (Ae (mn.mk aN (aD.mono (by omega)) (bo) q d (aK) (aB)) (lg.mk L (bs)) (mr.mk B (a7.mono (by omega)) (bp)) b8 bc b6 (by omega))) (fun cn cp b3=>?_);have bx:=d.lt;obtain⟨a2,cq,rfl,i,a6,ap⟩:=b3;have ai:ah (aX+1) a2:=ah.hk (aB) bx a6;have aQ:aZ K I.size a2:=aZ.L (aL) a6 j.size;replace q:=q.ab ap (aK);replace d:=d.ab ap (aB);replace j:=j.aJ ap (ag.cF (aL) (by intro k P;simp[P]));have cr:=ap.size;have an:=i.aB;have x:=uu (r:=rc) b7;refine o.aj ?_;refine bt (G.t2 (fun bz bA=>G.L (fun bC=>?_)));refine o.W ?_;refine o.v1 c1 (o.nil (bC ?_));refine aT (fun b4=>?_) (fun b4=>?_)
  ·
   refine G.L (fun bE=>?_);refine o.v1 (ar q.N hj) ?_;refine o.bI ?_;refine o.v1 (Y.ai d.N rfl gk rfl cW) ?_;refine o.s1 (dh d 3 ([ptr b,aI p,.int .i64 (bI:Int),.bool true]) (rfl) cW (by simp) (rfl)) fun a3 bh=>?_;obtain⟨d,W⟩:=bh;replace W:=W.bp;replace i:=i.ab W (ew.cons ai ew.nil);replace j:=j.aJ W (ag.J (aq.r ae));have ct:=W.size;refine o.nil (bE (G.L (fun bF=>?_)));refine o.aR 2 ?_;refine bF ?_;refine G.ret (bA (aJ ?_));have C:(c5 (gV p bI rc) M).1≠0:=by omega
   rw[if_neg C,if_neg C]at x;exact⟨_,_,by rw[x],by rw[x];exact i,aQ,by rw[x];exact d,ai,j⟩
  ·
   refine G.skip (bz (G.L (fun bG=>?_)));refine o.v1 (ar q.N hj) ?_;refine o.bI ?_;refine o.v1 (Y.ai d.N rfl gk rfl b1) ?_;refine o.v1 (ar (d.N.drop 2) cd) ?_;refine o.v1 (Y.cast (v2:= .int .i64 ((bI+1:Nat):Int)) bD (fJ (by omega))) ?_;refine o.bI ?_;refine o.v1 (Y.ai d.N rfl gk rfl b1) ?_;refine o.s1 (dh d 2 ([ptr b,aI p,.int .i64 ((bI+1:Nat):Int),.bool false]) (rfl) b1 (by simp) (rfl)) fun a4 bj=>?_;obtain⟨d,X⟩:=bj;replace X:=X.bp;replace i:=i.ab X (ew.cons ai ew.nil);replace j:=j.aJ X (ag.J (aq.r ae));have cu:=X.size;refine o.nil (bG (G.seq (fun ab bH _=>G.region ?_)));refine o.aj ?_;refine bH _ _ ?_;refine G.ret (aJ ?_);have C:(c5 (gV p bI rc) M).1=0:=by omega
   rw[if_pos C,if_pos C]at x;exact⟨_,_,by rw[x,C];rfl,by rw[x];exact i,aQ,by rw[x];exact d,ai,j⟩
end nk

namespace om
open E Go.RowKit fz f_ gn gL gU hi hs hD hR iX iY ki kG lh lL mz nk
structure rr (k:Nat) (H:Heap) (v:Value) (b:Nat) (p:aH) (n:Nat) (br:Bool):Prop where
 ex:(k=0∧v= .pointer none)∨∃aX,k=aX+1∧v=ptr aX∧Var 206 H aX [ptr b,aI p,.int .i64 (n:Int),.bool br]
section
variable {k b n : Nat} {H aa : Heap} {v : Value} {p : aH} {br : Bool} {ks : List Nat}
theorem rr.var{aX:Nat}(h:rr (aX+1) H v b p n br):v=ptr aX∧Var 206 H aX [ptr b,aI p,.int .i64 (n:Int),.bool br]:=by
 rcases h.ex with⟨e,_⟩|⟨i,e,d,h⟩
 ·omega
 ·obtain rfl:aX=i:=by omega
  exact⟨d,h⟩
end
section
variable {D : aG} {p : aH}
theorem xT(h:cv p=false∨cv (cC p)=false):eQ D p=(7,[],D):=by unfold eQ;rw[if_pos h]
theorem o_(bI:cv p=true)(d:cv (cC p)=true):¬(cv p=false∨cv (cC p)=false):=by rw[bI,d];simp
theorem xU(bI:cv p=true)(d:cv (cC p)=true)(h:D.fw p=2):eQ D p=((eF D p []).1,[],(eF D p []).2):=by unfold eQ;rw[if_neg (o_ bI d),if_pos h]
theorem FI(bI:cv p=true)(d:cv (cC p)=true)(h:D.fw p≠2)(U:D.fw p≠0):eQ D p=(D.fw p,[],D):=by unfold eQ;rw[if_neg (o_ bI d),if_neg h,if_pos U]
theorem xV(bI:cv p=true)(d:cv (cC p)=true)(h:D.fw p=0)(U:gu (D.cx p)≠0):eQ D p=(gu (D.cx p),[],D):=by unfold eQ;rw[if_neg (o_ bI d),if_neg (by omega),if_neg (by omega),if_pos U]
theorem m1(bI:cv p=true)(i:cv (cC p)=true)(h:D.fw p=0)(U:gu (D.cx p)=0)(d:m2 (D.cx p)<(D.cx p).length):eQ D p=((eF D p (ea (D.cx p))).1,if(eF D p (ea (D.cx p))).1=0 then ea (D.cx p)else[],(eF D p (ea (D.cx p))).2):=by
 unfold eQ;rw[if_neg (o_ bI i),if_neg (by omega),if_neg (by omega),if_neg (by omega),if_pos d]
theorem nW(bI:cv p=true)(i:cv (cC p)=true)(h:D.fw p=0)(U:gu (D.cx p)=0)(d:¬m2 (D.cx p)<(D.cx p).length):eQ D p=(0,ea (D.cx p),D):=by
 unfold eQ;rw[if_neg (o_ bI i),if_neg (by omega),if_neg (by omega),if_neg (by omega),if_neg d]
end
theorem H_(bk:Int)(K:List Nat)(g:cz)(b:Nat)(D:aG)(p:aH)(cb:Nat)(w0:World)(I:Heap)
 (n:bn K g I b D) (aN:dV bk I) (ae:bg (fun b=>b=0) I.size) (di:az (fun b=>b=0) K) (bp:p.length≤4294960000) (aA:bP cb D) (dg:cb≤80000000):
 aC Tryz.prog w0 35 #[ptr b,aI p] I (fun r X=>∃cu:Value,∃af:Nat,∃t:aM,∃l:List (aM×Rec),∃bq:List Nat,∃g2:cz,∃aS:Nat→Prop,r= .tuple #[cu,t.v,.int .i64 ((eQ D p).1:Int)]∧(bn bq g2 X b (eQ D p).2.2)∧(aZ K I.size bq)∧(rr af X cu b p l.length false)∧(T 0 I.size af)∧(ah af bq)∧(((eQ D p).1=0→∃aX,af=aX+1∧cu=ptr aX)∧((eQ D p).1≠0→af=0∧cu= .pointer none))∧(cG l=(eQ D p).2.1)∧(Rd aS X iF 1 t.v l)∧(∀x∈l,Rd aS X a1 1 x.1.v x.2)∧(bg aS X.size)∧(∀c,aS c→I.size≤c)∧(az aS bq)∧(ay aS af)∧V (aE K) I X):=by
 refine aC.aK [ptr b,aI p] Tryz.func35 ?_;intro cy Q;have q:V (aE K) I I:=V.refl _ _;have P:=aZ.refl K I.size;have aa:=n.aB;have dm:=nZ aA p;have dj:=(mK (D.cx p)).2;have dk:=s9 (D.cx p);refine G.L (fun cg=>?_);refine o.aR 3 ?_;refine cg (G.seq (fun bq ch bd=>G.L (fun bf=>?_)));refine o.W ?_;refine aV mH (mW bk p w0 _ aN (ae.mono (by omega)) (by omega)) (fun cW cY bv=>?_);obtain⟨rfl,aJ⟩:=bv;replace n:=n.M aJ;replace aN:=aN.M aJ;replace q:=q.bc aJ;have cZ:=aJ.size;refine o.v1 eI ?_;refine o.W ?_;refine o.split (d:=15) rfl (fun aP=>?_) (fun aP=>?_)
 ·
  have j:=xT (D:=D) (p:=p) (.inl (by simpa using aP));refine o.ax 5 ?_;refine o.nil (bf ?_);refine G.ix rfl ?_;refine G.L (fun cj=>?_);refine o.aR 3 ?_;refine cj ?_;refine G.ret (bd .ret nofun _ _ (Q ?_));exact⟨.pointer none,0,⟨none,0,0⟩,[],_,_,(fun _=>False),by rw[j];rfl,by rw[j];exact n,P,⟨.inl ⟨rfl,rfl⟩⟩,(.inl rfl),ah.kd,⟨fun h=>absurd h (by rw[j];exact(Nat.succ_ne_zero 6)),fun _=>⟨rfl,rfl⟩⟩,by rw[j];rfl,Rd.nil _ _ _ _,(fun x h=>by cases h),(fun b h=>h.elim),(fun c h=>h.elim),(fun k H b h=>h.elim),(fun b h=>h.elim),q⟩
 ·
  refine o.bU ?_;refine o.an (Y.cast (v2:=aI (cC p)) (Y.qZ rfl rfl rfl (by simp only[List.length_cons,List.length_nil];omega)) (rfl)) ?_;refine o.call rfl mH rfl bh rfl rfl (mW bk (cC p) w0 _ aN (ae.mono (by omega)) (by rw[o5];omega)) (fun c0 F cl=>?_);obtain⟨rfl,aK⟩:=cl;replace n:=n.M aK;replace aN:=aN.M aK;replace q:=q.bc aK;have c2:=aK.size;refine o.an eI ?_;refine o.dF ?_;refine o.nil (bf ?_);refine cI (fun aQ=>?_) (fun aQ=>?_)
  ·
   have j:=xT (D:=D) (p:=p) (.inr (by simpa using aQ));refine G.L (fun cn=>?_);refine o.aR 3 ?_;refine cn ?_;refine G.ret (bd .ret nofun _ _ (Q ?_));exact⟨.pointer none,0,⟨none,0,0⟩,[],_,_,(fun _=>False),by rw[j];rfl,by rw[j];exact n,P,⟨.inl ⟨rfl,rfl⟩⟩,(.inl rfl),ah.kd,⟨fun h=>absurd h (by rw[j];exact(Nat.succ_ne_zero 6)),fun _=>⟨rfl,rfl⟩⟩,by rw[j];rfl,Rd.nil _ _ _ _,(fun x h=>by cases h),(fun b h=>h.elim),(fun c h=>h.elim),(fun k H b h=>h.elim),(fun b h=>h.elim),q⟩
  ·
   have L:cv p=true:=by simpa using aP
   have M:cv (cC p)=true:=by simpa using aQ
   refine G.skip (ch _ _ (G.L (fun bO=>?_)));refine o.ax 2 ?_;refine o.v1 (Y.build (v:= .agg #[ptr b,aI p,.int .i64 0,.bool false]) rfl rfl (by intro w;kernel_rfl)) ?_;refine o.aO cr fun c3 bj bQ=>?_;obtain⟨rfl,C,aL,cT,bx⟩:=bQ;have da:bj.size=F.size+1:=by rw[bx];simp
   have Z:ah (F.size+1) K:=ah.hn n.aB;have bl:=(ay.new (ae.mono q.size):ay _ (F.size+1));have R:T 0 I.size (F.size+1):=T.new q.size;replace n:=n.M aL;replace aN:=aN.M aL;replace q:=q.bc aL;have c5:=aL.size;replace C:Var 206 bj F.size ([ptr b,aI p,.int .i64 ((0:Nat):Int),.bool false]):=C;refine o.aj ?_;refine bO (G.L (fun bR=>?_));refine o.ax 2 ?_;refine aV vr (yc bk K g b D p w0 _ aN (ae.mono (by omega)) n (by omega) (fun i=>by have:=(aA.f i).1;omega)) (fun c6 aB bS=>?_);obtain⟨bU,cD,rfl,an,cU,au⟩:=bS;replace n:=n.M au;replace aN:=aN.M au;replace C:=C.M au;replace q:=q.bc au;have cE:=au.size;have cB:=an.le;refine o.W ?_;refine o.v1 cN ?_;refine o.v1 cN ?_;refine o.aR 2 ?_;refine bR (G.t2 (fun bV br=>G.L (fun bX=>?_)));refine o.W ?_;refine o.v1 b9 (o.nil (bX ?_));refine aT (fun bY=>?_) (fun bY=>?_)
   ·
    have j:=xU (D:=D) L M (by omega);refine G.t2 (fun bz bA=>G.L (fun bC=>?_));refine o.W ?_;refine aV rZ (r1 bk K g b D F.size p 0 false ⟨none,0,0⟩ [] (fun _=>False) cb w0 _ n aN (ae.mono (by omega)) (di) C (Z) (bl) (Rd.nil _ _ _ _) (fun b h=>h.elim) (fun k H b h=>h.elim) (fun x h=>by cases h) (fun b h=>h.elim) (fun k H b h=>h.elim) (fun x h=>by cases h) (by simp[cG,eZ]) (fun b h _=>h.elim) (fun b h _=>h.elim) bp aA (by simp[cG,cS,gz,eZ];omega) (by simp)) (fun cH cJ bZ=>?_);obtain⟨bm,cK,rfl,n,bw,C,cp,aY⟩:=bZ;have a6:aZ K I.size bm:=aZ.L (P) bw q.size;replace q:=q.aJ aY (ag.app (ag.cF (P) (by intro k H;simp[H])) (ag.J (aq.q R)));have cL:=aY.size;have aa:=n.aB;refine o.aj ?_;refine bC (G.L (fun bD=>?_));refine o.W ?_;refine o.v1 c1 (o.nil (bD ?_));refine aT (fun aR=>?_) (fun aR=>?_)
    ·
     refine G.L (fun bE=>?_);refine o.aR 4 ?_;refine bE ?_;refine G.ret (bA (br (Q ?_)));exact⟨.pointer none,0,⟨none,0,0⟩,[],_,_,(fun _=>False),by rw[j];rfl,by rw[j];exact n,a6,⟨.inl ⟨rfl,rfl⟩⟩,(.inl rfl),ah.kd,⟨fun h=>absurd h (by rw[j];exact(by have A:=aR;simp only[cG,List.map_nil]at A;show(eF D p []).1≠0;omega)),fun _=>⟨rfl,rfl⟩⟩,by rw[j];rfl,Rd.nil _ _ _ _,(fun x h=>by cases h),(fun b h=>h.elim),(fun c h=>h.elim),(fun k H b h=>h.elim),(fun b h=>h.elim),q⟩
    ·
     refine G.skip (bz (G.L (fun bF=>?_)));refine o.aR 4 ?_;refine bF ?_;refine G.ret (br (Q ?_));have B:(eF D p []).1=0:=by have A:=aR;simp only[cG,List.map_nil]at A;omega
     rw[B]at j;exact⟨ptr F.size,(F.size+1),⟨none,0,0⟩,[],_,_,(fun _=>False),by rw[j];rfl,by rw[j];exact n,a6,⟨.inr ⟨_,rfl,rfl,by simp only[cG,List.map_nil]at C;rw[oW B,oV B]at C;exact C⟩⟩,R,cp,⟨fun _=>⟨_,rfl,rfl⟩,fun h=>absurd (by rw[j]) h⟩,by rw[j];rfl,Rd.nil _ _ _ _,(fun x h=>by cases h),(fun b h=>h.elim),(fun c h=>h.elim),(fun k H b h=>h.elim),(fun b h=>h.elim),q⟩
   ·
    refine G.skip (bV (G.t2 (fun bH bJ=>G.L (fun bL=>?_))));refine o.W ?_;refine o.v1 c1 (o.nil (bL ?_));refine aT (fun b0=>?_) (fun b0=>?_)
    ·
     refine G.L (fun bM=>?_);refine o.aR 4 ?_;refine bM ?_;refine G.ret (bJ (Q ?_));have B:D.fw p≠0:=by omega
     have j:=FI (D:=D) L M (by omega) B;exact⟨.pointer none,0,⟨none,0,0⟩,[],_,_,(fun _=>False),by rw[j];rfl,by rw[j];exact n,P,⟨.inl ⟨rfl,rfl⟩⟩,(.inl rfl),ah.kd,⟨fun h=>absurd h (by rw[j];exact B),fun _=>⟨rfl,rfl⟩⟩,by rw[j];rfl,Rd.nil _ _ _ _,(fun x h=>by cases h),(fun b h=>h.elim),(fun c h=>h.elim),(fun k H b h=>h.elim),(fun b h=>h.elim),q⟩
    ·
     refine G.skip (bH (G.L (fun a0=>?_)));refine o.W ?_;refine aV vs (x1 bU (D.cx p) w0 _ an.rd.any (by have:=nZ aA p;omega)) (fun cM aD b2=>?_);obtain⟨aF,ap,rfl,N,ac,O,ab⟩:=b2;replace n:=n.M ab;replace aN:=aN.M ab;replace C:=C.M ab;replace an:=an.M ab;replace q:=q.bc ab;have cO:=ab.size;replace ac:=ac.bt;have ad:=ac.bY;have am:az (fun b=>aB.size≤b∧b<aD.size) K:=az.iZ (fun b h=>h.1) (by first|exact aa|exact fun k H=>Nat.le_trans (aa k H) (by omega)|assumption);have W:ay (fun b=>aB.size≤b∧b<aD.size) (F.size+1):=ay.iZ (fun b h=>h.1) (by first|exact cq|exact cw|omega);replace O:=fun x S=>(O x S).bt;have a7:az (fun b=>aB.size≤b∧b<aD.size) K:=az.iZ (fun b h=>h.1) (by first|exact aa|exact fun k H=>Nat.le_trans (aa k H) (by omega)|assumption);have ar:ay (fun b=>aB.size≤b∧b<aD.size) (F.size+1):=ay.iZ (fun b h=>h.1) (by first|exact cq|exact cw|omega);refine o.W ?_;refine o.v1 cN ?_;refine o.v1 cN ?_;refine o.v1 cN ?_;have ct:=congrArg List.length N;simp only[cG,List.length_map]at ct;refine o.aR 3 ?_;refine a0 (G.t1 (fun aW=>G.L (fun a8=>?_)));refine o.W ?_;refine o.v1 b9 ?_;refine o.W ?_;refine o.bj (d:=50) rfl (fun b3=>?_) (fun b3=>?_)
     ·
      refine o.ax 2 ?_;refine o.an (ba an.rd db) ?_;refine o.an bG ?_;refine o.N ?_;refine o.nil (a8 ?_);refine aT (fun b4=>?_) (fun b4=>?_)
      ·
       refine G.region ?_;refine o.ax 2 ?_;refine aV rZ (r1 bk K g b D F.size p 0 false aF ap _ cb w0 _ n aN (ae.mono (by omega)) (di) C (Z) (bl) ac (ad.mono (by omega)) (am) O (ad.mono (by omega)) (a7) (fun x h=>xX _ _ (by rw[←N];exact List.mem_map_of_mem h)) (by rw[N];have U:=(mK (D.cx p)).1;omega) (W) (ar) bp aA (by rw[N];omega) (by omega)) (fun cP cQ b5=>?_);obtain⟨b6,c_,rfl,n,bb,C,bo,aO⟩:=b5;have a2:=az.hk (am) (ad.mono (by omega)) bb;have a_:aZ K I.size b6:=aZ.L (P) bb q.size;replace ac:=ac.ab aO (az.app am (az.J W));replace O:=fun x S=>(O x S).ab aO (az.app a7 (az.J ar));replace q:=q.aJ aO (ag.app (ag.cF (P) (by intro k H;simp[H])) (ag.J (aq.q R)));have dc:=aO.size;have aa:=n.aB;refine o.aj ?_;refine aW (G.t2 (fun a3 a4=>G.L (fun a5=>?_)));refine o.W ?_;refine o.v1 c1 (o.nil (a5 ?_));refine aT (fun ai=>?_) (fun ai=>?_)
       ·
        refine G.L (fun bs=>?_);refine o.aR 4 ?_;refine bs ?_;refine G.ret (a4 (Q ?_));have B:(eF D p (ea (D.cx p))).1≠0:=by rw[←N];omega
        have j:=m1 (D:=D) L M (by omega) (by omega) (by omega);rw[if_neg B]at j;rw[N]at n;exact⟨.pointer none,0,⟨none,0,0⟩,[],_,_,(fun _=>False),by rw[j,N],by rw[j];exact n,a_,⟨.inl ⟨rfl,rfl⟩⟩,(.inl rfl),ah.kd,⟨fun h=>absurd h (by rw[j];exact B),fun _=>⟨rfl,rfl⟩⟩,by rw[j];rfl,Rd.nil _ _ _ _,(fun x h=>by cases h),(fun b h=>h.elim),(fun c h=>h.elim),(fun k H b h=>h.elim),(fun b h=>h.elim),q⟩
       ·
        try (have B:(eF D p (cG ap)).1=0:=(by omega);rw[oW B,oV B]at C)
        refine G.skip (a3 (G.L (fun bt=>?_)));refine o.ax 2 ?_;refine o.v1 (ba ac h6) ?_;refine o.bI ?_;refine o.v1 (Y.ai C.N rfl gk rfl b1) ?_;refine o.s1 (dh C 2 ([ptr b,aI p,.int .i64 ((ap.length:Nat):Int),.bool false]) (rfl) b1 (by simp) (rfl)) fun bc aj=>?_;obtain⟨C,E⟩:=aj;replace E:=E.bp;replace n:=n.ab E (ew.cons bo ew.nil);replace ac:=ac.ab E (az.J W);replace O:=fun x S=>(O x S).ab E (az.J ar);replace q:=q.aJ E (ag.J (aq.q R));have de:=E.size;refine o.nil (bt (G.L (fun bu=>?_)));refine o.aR 5 ?_;refine bu ?_;refine G.ret (Q ?_)
        have j:(eQ D p).1=0∧(eQ D p).2.1=ea (D.cx p):=by
         first
         |(have A:=m1 (D:=D) L M (by omega) (by omega) (by omega);have B:(eF D p (ea (D.cx p))).1=0:=(by rw[←N];omega);rw[B,if_pos rfl]at A;rw[A];exact⟨rfl,rfl⟩)
         |(have A:=nW (D:=D) L M (by omega) (by omega) (by omega);rw[A];exact⟨rfl,rfl⟩)
        exact⟨ptr F.size,(F.size+1),aF,ap,_,_,_,by rw[j.1];rfl,(by first|(have A:=m1 (D:=D) L M (by omega) (by omega) (by omega);rw[A];rw[N]at n;exact n)|(have A:=nW (D:=D) L M (by omega) (by omega) (by omega);rw[A];exact n)),a_,⟨.inr ⟨_,rfl,rfl,C⟩⟩,R,bo,⟨fun _=>⟨_,rfl,rfl⟩,fun h=>absurd j.1 h⟩,by rw[j.2];exact N,ac,(fun x h=>O x h),(ad.mono (by omega)),(fun c h=>by have A:=h.1;omega),(a2),(W),q⟩
      ·
       refine G.skip (aW (G.t2 (fun a9 bN=>G.L (fun b7=>?_))));refine o.W ?_;refine o.v1 c1 (o.nil (b7 ?_));refine aT (fun ai=>?_) (fun ai=>?_)
       ·
        refine G.L (fun b8=>?_);refine o.aR 4 ?_;refine b8 ?_;refine G.ret (bN (Q ?_));have B:gu (D.cx p)≠0:=by omega
        have j:=xV (D:=D) L M (by omega) B;exact⟨.pointer none,0,⟨none,0,0⟩,[],_,_,(fun _=>False),by rw[j];rfl,by rw[j];exact n,P,⟨.inl ⟨rfl,rfl⟩⟩,(.inl rfl),ah.kd,⟨fun h=>absurd h (by rw[j];exact B),fun _=>⟨rfl,rfl⟩⟩,by rw[j];rfl,Rd.nil _ _ _ _,(fun x h=>by cases h),(fun b h=>h.elim),(fun c h=>h.elim),(fun k H b h=>h.elim),(fun b h=>h.elim),q⟩
       ·
        try (have B:(eF D p (cG ap)).1=0:=(by omega);rw[oW B,oV B]at C)
        refine G.skip (a9 (G.L (fun b_=>?_)));refine o.ax 2 ?_;refine o.v1 (ba ac h6) ?_;refine o.bI ?_;refine o.v1 (Y.ai C.N rfl gk rfl b1) ?_;refine o.s1 (dh C 2 ([ptr b,aI p,.int .i64 ((ap.length:Nat):Int),.bool false]) (rfl) b1 (by simp) (rfl)) fun bc aj=>?_;obtain⟨C,E⟩:=aj;replace E:=E.bp;replace n:=n.ab E (ew.cons Z ew.nil);replace ac:=ac.ab E (az.J W);replace O:=fun x S=>(O x S).ab E (az.J ar);replace q:=q.aJ E (ag.J (aq.q R));have df:=E.size;refine o.nil (b_ (G.L (fun bT=>?_)));refine o.aR 5 ?_;refine bT ?_;refine G.ret (Q ?_)
        have j:(eQ D p).1=0∧(eQ D p).2.1=ea (D.cx p):=by
         first
         |(have A:=m1 (D:=D) L M (by omega) (by omega) (by omega);have B:(eF D p (ea (D.cx p))).1=0:=(by rw[←N];omega);rw[B,if_pos rfl]at A;rw[A];exact⟨rfl,rfl⟩)
         |(have A:=nW (D:=D) L M (by omega) (by omega) (by omega);rw[A];exact⟨rfl,rfl⟩)
        exact⟨ptr F.size,(F.size+1),aF,ap,_,_,_,by rw[j.1];rfl,(by first|(have A:=m1 (D:=D) L M (by omega) (by omega) (by omega);rw[A];rw[N]at n;exact n)|(have A:=nW (D:=D) L M (by omega) (by omega) (by omega);rw[A];exact n)),P,⟨.inr ⟨_,rfl,rfl,C⟩⟩,R,Z,⟨fun _=>⟨_,rfl,rfl⟩,fun h=>absurd j.1 h⟩,by rw[j.2];exact N,ac,(fun x h=>O x h),(ad.mono (by omega)),(fun c h=>by have A:=h.1;omega),(am),(W),q⟩
     ·
      refine o.ax 5 ?_;refine o.nil (a8 ?_);refine dB ?_;refine G.skip (aW (G.t2 (fun be ca=>G.L (fun cc=>?_))));refine o.W ?_;refine o.v1 c1 (o.nil (cc ?_));refine aT (fun ai=>?_) (fun ai=>?_)
      ·
       refine G.L (fun bi=>?_);refine o.aR 4 ?_;refine bi ?_;refine G.ret (ca (Q ?_));have B:gu (D.cx p)≠0:=by omega
       have j:=xV (D:=D) L M (by omega) B;exact⟨.pointer none,0,⟨none,0,0⟩,[],_,_,(fun _=>False),by rw[j];rfl,by rw[j];exact n,P,⟨.inl ⟨rfl,rfl⟩⟩,(.inl rfl),ah.kd,⟨fun h=>absurd h (by rw[j];exact B),fun _=>⟨rfl,rfl⟩⟩,by rw[j];rfl,Rd.nil _ _ _ _,(fun x h=>by cases h),(fun b h=>h.elim),(fun c h=>h.elim),(fun k H b h=>h.elim),(fun b h=>h.elim),q⟩
      ·
       try (have B:(eF D p (cG ap)).1=0:=(by omega);rw[oW B,oV B]at C)
       refine G.skip (be (G.seq (fun bm cd _=>G.region ?_)));refine o.ax 2 ?_;refine o.v1 (ba ac h6) ?_;refine o.bI ?_;refine o.v1 (Y.ai C.N rfl gk rfl b1) ?_;refine o.s1 (dh C 2 ([ptr b,aI p,.int .i64 ((ap.length:Nat):Int),.bool false]) (rfl) b1 (by simp) (rfl)) fun bc aj=>?_;obtain⟨C,E⟩:=aj;replace E:=E.bp;replace n:=n.ab E (ew.cons Z ew.nil);replace ac:=ac.ab E (az.J W);replace O:=fun x S=>(O x S).ab E (az.J ar);replace q:=q.aJ E (ag.J (aq.q R));have cV:=E.size;refine o.nil (cd _ _ (G.L (fun cf=>?_)));refine o.aR 5 ?_;refine cf ?_;refine G.ret (Q ?_)
       have j:(eQ D p).1=0∧(eQ D p).2.1=ea (D.cx p):=by
        first
        |(have A:=m1 (D:=D) L M (by omega) (by omega) (by omega);have B:(eF D p (ea (D.cx p))).1=0:=(by rw[←N];omega);rw[B,if_pos rfl]at A;rw[A];exact⟨rfl,rfl⟩)
        |(have A:=nW (D:=D) L M (by omega) (by omega) (by omega);rw[A];exact⟨rfl,rfl⟩)
       exact⟨ptr F.size,(F.size+1),aF,ap,_,_,_,by rw[j.1];rfl,(by first|(have A:=m1 (D:=D) L M (by omega) (by omega) (by omega);rw[A];rw[N]at n;exact n)|(have A:=nW (D:=D) L M (by omega) (by omega) (by omega);rw[A];exact n)),P,⟨.inr ⟨_,rfl,rfl,C⟩⟩,R,Z,⟨fun _=>⟨_,rfl,rfl⟩,fun h=>absurd j.1 h⟩,by rw[j.2];exact N,ac,(fun x h=>O x h),(ad.mono (by omega)),(fun c h=>by have A:=h.1;omega),(am),(W),q⟩
theorem Ia(bk:Int)(K:List Nat)(g:cz)(b:Nat)(D:aG)(p:aH)(cb:Nat)(w0:World)(I:Heap)(O:bn K g I b D)(aN:dV bk I)(i:bg (fun b=>b=0) I.size)(di:az (fun b=>b=0) K)(P:p.length≤4294960000)(M:bP cb D)(N:cb≤80000000)(he:(eQ D p).1=0):
 aC Tryz.prog w0 35 #[ptr b,aI p] I (fun r d=>∃(aX:Nat) (t:aM) (l:List (aM×Rec)) (bq:List Nat) (g2:cz) (aS:Nat→Prop),r= .tuple #[ptr aX,t.v,.int .i64 0]∧bn bq g2 d b (eQ D p).2.2∧aZ K I.size bq∧Var 206 d aX [ptr b,aI p,.int .i64 (l.length:Int),.bool false]∧T 0 I.size (aX+1)∧ah (aX+1) bq∧cG l=(eQ D p).2.1∧Rd aS d iF 1 t.v l∧(∀x∈l,Rd aS d a1 1 x.1.v x.2)∧bg aS d.size∧(∀c,aS c→I.size≤c)∧az aS bq∧ay aS (aX+1)∧V (aE K) I d):=by
 refine(H_ bk K g b D p cb w0 I O aN i di P M N).mono ?_;rintro r d ⟨cu,Q,t,l,bq,g2,aS,rfl,j,U,B,C,E,F,G,H,L,n,o,q,A,k⟩;obtain⟨aX,rfl,rfl⟩:=F.1 he;exact⟨aX,t,l,bq,g2,aS,by rw[he];rfl,j,U,B.var.2,C,E,G,H,L,n,o,q,A,k⟩
end om

namespace pC
open E Go.RowKit fz f_ gn gL gU hi hs hD hR iX iY ki kG lh lL mz nk om ey eX eY fF fG fO fY gg gx gy
abbrev fc:aH:=[106,111,117,114,110,97,108]
theorem AF(aX:Nat)(s s2:c2):ec (ptr aX::bS s) 1 (bS s2)=ptr aX::bS s2:=by
 unfold ec;rw[b8];rw[List.drop_eq_nil_of_le (by rw[List.length_cons,b8];omega)];simp
theorem AE(aX:Nat)(s:c2):(ptr aX::bS s).length=75:=by rw[List.length_cons,b8]
theorem zK{F:Nat→Prop}{H:Heap}:e4 F H mj:=⟨Rd.nil _ _ _ _,Rd.nil _ _ _ _,(fun y h=>by cases h),Rd.nil _ _ _ _,Rd.nil _ _ _ _,(fun y h=>by cases h)⟩
theorem zJ:mj.m=jr:=rfl
def km(D:aG)(n:Nat)(br:Bool)(m:dU)(t:b0):Int×Nat×Bool×aG×dU:=
 if eE m t≠0 then(eE m t,n,br,D,m)
 else if(e8 D fc n br (fi t)).1≠0 then(((e8 D fc n br (fi t)).1:Int),(e8 D fc n br (fi t)).2.1,(e8 D fc n br (fi t)).2.2.1,(e8 D fc n br (fi t)).2.2.2,m)
 else(0,(e8 D fc n br (fi t)).2.1,(e8 D fc n br (fi t)).2.2.1,(e8 D fc n br (fi t)).2.2.2,m.ap t)
section
variable {D : aG} {n : Nat} {br : Bool} {m : dU} {t : b0}
theorem do_1(h:eE m t≠0):km D n br m t=(eE m t,n,br,D,m):=by unfold km;rw[if_pos h]
theorem CS(h:eE m t=0)(U:(e8 D fc n br (fi t)).1≠0):km D n br m t=(((e8 D fc n br (fi t)).1:Int),(e8 D fc n br (fi t)).2.1,(e8 D fc n br (fi t)).2.2.1,(e8 D fc n br (fi t)).2.2.2,m):=by unfold km;rw[if_neg (by rw[h];decide),if_pos U]
theorem vK(h:eE m t=0)(U:(e8 D fc n br (fi t)).1=0):km D n br m t=(0,(e8 D fc n br (fi t)).2.1,(e8 D fc n br (fi t)).2.2.1,(e8 D fc n br (fi t)).2.2.2,m.ap t):=by unfold km;rw[if_neg (by rw[h];decide),if_neg (by rw[U];decide)]
end
theorem FH(bk:Int)(K:List Nat)(g:cz)(b:Nat)(D:aG)(cb:Nat)(w0:World)(I:Heap)
 (d:bn K g I b D) (aN:dV bk I) (aL:bg (fun b=>b=0) I.size) (di:az (fun b=>b=0) K) (aO:bP cb D) (aP:cb≤80000000) (he:(eQ D fc).1=0) (aS:(eQ D fc).2.1=[]):
 aC Tryz.prog w0 14 #[ptr b] I (fun r B=>∃t:Nat,∃aX:Nat,∃bq:List Nat,∃g2:cz,r= .tuple #[ptr t,.int .i64 0]∧(bn bq g2 B b (eQ D fc).2.2)∧(aZ K I.size bq)∧(Var 206 B aX [ptr b,aI fc,.int .i64 0,.bool false])∧(T 0 I.size (aX+1))∧(ah (aX+1) bq)∧(Var 108 B t (ptr aX::bS mj))∧(T 0 I.size (t+1))∧(ah (t+1) bq)∧(af (aX+1) (t+1))∧V (aE K) I B):=by
 refine aC.aK [ptr b] Tryz.func14 ?_;intro a1 aW;have i:V (aE K) I I:=V.refl _ _;have E:=aZ.refl K I.size;have aA:=d.aB;refine G.L (fun M=>?_);refine o.aR 2 ?_;refine M (G.seq (fun bq N _=>G.region ?_));refine o.W ?_;refine aV BM (Ia bk K g b D fc _ w0 _ d aN (aL.mono (by omega)) (di) (by decide) aO (aP) he) (fun a_ n O=>?_);obtain⟨A,P,L,au,Q,bb,rfl,d,aB,j,aD,aM,ad,C,a7,bh,bj,bl,bm,F⟩:=O;have R:aZ K I.size au:=aZ.L (E) aB i.size;have S:T 0 I.size (A+1):=T.L (T.refl 0 _) aD i.size;replace i:=i.aJ F (ag.cF (E) (by intro k aQ;simp[aQ]));have bc:=F.size;have aA:=d.aB;have bf:=j.le;rw[aS]at ad;have aR:L.length=0:=by have:=congrArg List.length ad;simpa[cG]using this
 rw[aR]at j;refine o.W ?_;refine o.v1 cN ?_;refine o.v1 cN ?_;refine o.v1 cN ?_;refine o.aR 3 ?_;refine N _ _ (G.t1 (fun W=>G.L (fun X=>?_)));refine o.W ?_;refine o.v1 ((c1).fC ((fun h=>h rfl))) (o.nil (X ?_));refine dB ?_;refine G.skip (W (G.L (fun Z=>?_)));refine o.W ?_;refine o.v1 (Y.build (v:= .agg (ptr A::bS mj).toArray) rfl rfl (by intro w;kernel_rfl)) ?_;refine o.aO cr fun bd am aa=>?_;obtain⟨rfl,x,q,a8,aF⟩:=aa;have a6:am.size=n.size+1:=by rw[aF];simp
 have ab:ah (n.size+1) au:=ah.hn d.aB;have ae:af (A+1) (n.size+1):=af.new j.le;have ap:T 0 I.size (n.size+1):=T.new i.size;replace d:=d.M q;replace j:=j.M q;replace C:=C.M q;replace i:=i.bc q;have a0:=q.size;replace x:Var 108 am n.size ((ptr A::bS mj)):=x;refine o.aj ?_;refine Z (G.t1 (fun ai=>G.L (fun aj=>?_)));refine o.W ?_;refine o.v1 (ba C h6) ?_;refine o.W (o.nil (aj ?_));refine G.aB (fun _ an _=>?_)
 refine G.bd (fun(_:Unit)=>[(7,.pointer (some ⟨n.size,0,none⟩)),(24,P.v),(25,.int .i64 (L.length:Int)),(26,.int .i64 0)])
  (fun(_:Unit) (H:Heap)=>(True)∧ak am H)
  (fun(_:Unit)=>0) () ⟨rfl,rfl,rfl,rfl,trivial⟩ ?_ ?_
 ·
  exact⟨trivial,V.refl _ _⟩
 intro _ a2 aq aY a3 ar;obtain⟨bo,ac⟩:=aq;replace d:=d.M ac;replace j:=j.M ac;replace x:=x.M ac;replace i:=i.bc ac;have a4:=ac.size;refine G.L (fun aH=>?_);refine o.v1 bG (o.nil (aH ?_));refine G.t2 (fun _ aJ=>?_);refine aT (fun ay=>?_) (fun ay=>?_)
 ·
  omega
 ·
  refine G.exit (aJ (ar (an ?_)));refine ai (G.L (fun aK=>?_));refine o.aR 3 ?_;refine aK ?_;refine G.ret (aW ?_);exact⟨n.size,A,au,Q,rfl,d,R,j,S,aM,x,ap,ab,ae,i⟩
theorem vL(bk:Int)(K:List Nat)(g:cz)(b:Nat)(D:aG)(cb aX x n:Nat)(br:Bool)(s:c2)(t:b0)(F C:Nat→Prop)(w0:World)(I:Heap)
 (i:bn K g I b D) (aN:dV bk I) (aR:bg (fun b=>b=0) I.size) (di:az (fun b=>b=0) K) (j:Var 206 I aX [ptr b,aI fc,.int .i64 (n:Int),.bool br]) (dl:ah (aX+1) K) (bO:ay (fun b=>b=0) (aX+1)) (d:Var 108 I x (ptr aX::bS s)) (aF:ah (x+1) K) (a1:af (aX+1) (x+1)) (cp:ay (fun b=>b=0) (x+1)) (ao:∀u:Unit,e4 F I s) (W:bg F I.size) (aL:az F K) (iq:ay F (aX+1)) (cV:ay F (x+1)) (A:e6 C I t) (aD:bg C I.size) (b2:az C K) (b3:ay C (aX+1)) (cv:ay C (x+1)) (ok:s.m.Ok) (ae:lf t) (bQ:bP cb D) (bR:cb≤80000000) (bY:n≤1000000000):
 aC Tryz.prog w0 15 #[ptr x,eg t] I (fun r L=>∃bq:List Nat,∃g2:cz,∃s2:c2,∃aS:Nat→Prop,r= .int .i64 (km D n br s.m t).1∧(bn bq g2 L b (km D n br s.m t).2.2.2.1)∧(aZ K I.size bq)∧(Var 206 L aX [ptr b,aI fc,.int .i64 ((km D n br s.m t).2.1:Int),.bool (km D n br s.m t).2.2.1])∧(ah (aX+1) bq)∧(Var 108 L x (ptr aX::bS s2))∧(ah (x+1) bq)∧(∀u:Unit,e4 aS L s2)∧(bg aS L.size)∧(az aS bq)∧(ay aS (aX+1))∧(ay aS (x+1))∧(s2.m=(km D n br s.m t).2.2.2.2)∧V (aE (K++[(aX+1),(x+1)])) I L):=by
 refine aC.aK [ptr x,eg t] Tryz.func15 ?_;intro b4 aJ;have q:V (aE (K++[(aX+1),(x+1)])) I I:=V.refl _ _;have aj:=aZ.refl K I.size;have an:=i.aB;have bH:=T.refl (aX+1) I.size;have bL:=j.lt;have bJ:=T.refl (x+1) I.size;have au:=d.lt;have bV:=ae.l1;refine G.L (fun bp=>?_);refine o.aO cr ?_;rintro v3 aM ⟨rfl,B,am,a9,bs⟩;have b9:aM.size=I.size+1:=by rw[bs];simp
 have bt:ah (I.size+1) K:=ah.hn i.aB;have bu:af (aX+1) (I.size+1):=af.new j.lt;replace i:=i.M am;replace aN:=aN.M am;replace j:=j.M am;replace d:=d.M am;replace ao:=fun u=>(ao u).M am;replace A:=A.M am;replace q:=q.bc am;have b_:=am.size;replace B:Var 32 aM I.size (df t):=B;refine o.aj ?_;refine bp (G.seq (fun bq bw bx=>G.t1 (fun bz=>?_)));refine iV 5 (fun b5 bU=>?_);refine o.ax 2 ?_;refine o.v1 (Y.ai d.N rfl pq rfl dx) ?_;refine o.v1 (aW (d.N.drop 1) fg dx (b8 _)) ?_;refine o.v1 (aW B.N gM fk (dY _)) ?_;refine o.nil (bU _ ?_);refine aV BB (pZ s t F C bk w0 _ aN (aR.mono (by omega)) (ao ()) (W.mono (by omega)) A (aD.mono (by omega)) ok ae) (fun ca cc bA=>?_);obtain⟨rfl,ac⟩:=bA;replace i:=i.M ac;replace aN:=aN.M ac;replace j:=j.M ac;replace d:=d.M ac;replace ao:=fun u=>(ao u).M ac;replace A:=A.M ac;replace B:=B.M ac;replace q:=q.bc ac;have bT:=ac.size;refine o.aj ?_;refine bz (G.L (fun bC=>?_));refine o.W ?_;refine o.v1 c1 (o.nil (bC ?_));refine aT (fun ai=>?_) (fun ai=>?_)
 ·
  have al:=do_1 (D:=D) (n:=n) (br:=br) ai;refine G.L (fun bD=>?_);refine o.aR 2 ?_;refine bD ?_;refine G.ret (bx .ret nofun _ _ (aJ ?_));exact⟨K,g,s,F,by rw[al],(by rw[al];exact i),aj,(by rw[al];exact j),dl,d,aF,ao,(W.mono (by omega)),(aL),(iq),(cV),by rw[al],q⟩
 ·
  have ab:eE s.m t=0:=by simpa using ai
  have bZ:=r8 ae ab;refine G.skip (bw _ _ (G.L (fun bE=>?_)));refine o.v1 (aW B.N gM fk (dY _)) ?_;refine aV vi (vU t C w0 _ A (aD.mono (by omega)) bZ) (fun be cd bF=>?_);obtain⟨b1,a7,rfl,aK,a6,ad⟩:=bF;have bG:ah a7 K:=ah.ow (ah.kd) i.aB a6;have bb:af (aX+1) a7:=af.app (af.z) j.lt a6;replace i:=i.M ad;replace aN:=aN.M ad;replace j:=j.M ad;replace d:=d.M ad;replace ao:=fun u=>(ao u).M ad;replace A:=A.M ad;replace B:=B.M ad;replace q:=q.bc ad;have cf:=ad.size;have b7:=aK.le;refine o.W ?_;refine o.v1 cN ?_;refine o.v1 cN ?_;refine o.aR 2 ?_;refine bE (G.t2 (fun a0 a2=>G.L (fun a3=>?_)));refine o.ax 2 ?_;refine o.v1 (Y.ai d.N rfl pq rfl GR) ?_;refine o.v1 (ar d.N hj) ?_;refine o.W ?_;refine aV BN (H3 bk K g b D aX fc n br b1 (fi t) _ cb w0 _ i aN (aR.mono (by omega)) (di) j (dl) (bO) aK.rd (bg.of aK.le) (az.of (bG)) (ay.of (bb.symm)) bV (by decide) bQ bR bY) (fun bi Q a4=>?_);have bc:=d.lt;obtain⟨R,aO,rfl,i,aA,j,aY,M⟩:=a4;have aB:ah (x+1) R:=ah.hk (aF) bc aA;have bd:=az.hk (aL) (W.mono q.size) aA;have aP:aZ K I.size R:=aZ.L (aj) aA q.size;replace d:=d.ab M (ah.app aF (ah.J a1.symm));replace ao:=fun u=>(ao u).ab M (az.app aL (az.J iq));replace A:=A.ab M (az.app b2 (az.J b3));replace B:=B.ab M (ah.app bt (ah.J bu.symm));replace q:=q.aJ M (ag.app (ag.cF (aj) (by intro k aH;simp[aH])) (ag.J (aq.r bH)));have cg:=M.size;have an:=i.aB;refine o.aj ?_;refine a3 (G.L (fun a5=>?_));refine o.W ?_;refine o.v1 c1 (o.nil (a5 ?_));refine aT (fun a_=>?_) (fun a_=>?_)
  ·
   have al:=CS (D:=D) (n:=n) (br:=br) ab (by omega);refine G.L (fun bf=>?_);refine o.aR 2 ?_;refine bf ?_;refine G.ret (a2 (aJ ?_));exact⟨R,aO,s,F,by rw[al],(by rw[al];exact i),aP,(by rw[al];exact j),aY,d,aB,ao,(W.mono (by omega)),(bd),(iq),(cV),by rw[al],q⟩
  ·
   have al:=vK (D:=D) (n:=n) (br:=br) ab (by omega);refine G.skip (a0 (G.t1 (fun bh=>?_)));refine dC (fun Z=>ak Q Z) [7,8,9] ?_;have H:=ak.refl Q;refine O.W 0 rfl H ?_;refine O.W 1 rfl H ?_;refine O.bI 2 rfl H ?_;refine O.t1 3 rfl (fun Z X=>Y.ai (d.N.M X) rfl pq rfl dx) H ?_;refine O.t1 4 rfl (fun Z X=>aW ((d.N.drop 1).M X) fg dx (b8 _)) H ?_;refine O.t1 5 rfl (fun Z X=>aW (B.N.M X) gM fk (dY _)) H ?_;refine O.aY 6 ?_;refine ch BD (Aj s t F C w0 _ (ao ()) (W.mono (by omega)) A (aD.mono (by omega)) ok ab ae) (fun cj aa ba=>?_);obtain⟨a8,rfl,P,bX,N⟩:=ba;replace i:=i.M N;replace j:=j.M N;replace d:=d.M N;replace q:=q.bc N;have cl:=N.size;replace P:=P.bt;have ap:=P.bY;have bj:az (fun b=>Q.size≤b∧b<aa.size) R:=az.iZ (fun b h=>h.1) (by first|exact an|exact fun k aH=>Nat.le_trans (an k aH) (by omega)|assumption);have bl:ay (fun b=>Q.size≤b∧b<aa.size) (aX+1):=ay.iZ (fun b h=>h.1) (by first|exact ct|exact bL|omega);have aQ:ay (fun b=>Q.size≤b∧b<aa.size) (x+1):=ay.iZ (fun b h=>h.1) (by first|exact cq|exact au|omega);have bM:=H.L N;refine O.cn bM ?_;have bN:=ak.refl aa;refine O.aY 7 ?_;refine hg rfl (Y.nilCheck rfl rfl) (.inl rfl) ?_;refine O.aY 8 ?_;refine hg rfl (Y.ai d.N rfl pq rfl dx) (.inl rfl) ?_;refine O.aY 9 ?_;refine gJ rfl (S.var d (_) ((ptr aX::bS a8)) rfl rfl rfl rfl ((iG _)) dx (b8 _) (by rw[AE];exact Nat.le_of_ble_eq_true rfl) ((AF _ _ _))) (fun b6 bm=>?_);obtain⟨d,E⟩:=bm;replace E:=E.bp;replace i:=i.ab E (ew.cons aB ew.nil);replace j:=j.ab E (ah.J a1);replace P:=P.ab E (az.J aQ);replace q:=q.aJ E (ag.J (aq.r bJ));have cn:=E.size;refine⟨.inl rfl,?_⟩;refine cD ?_;have cu:=bN;refine bh (G.L (fun bo=>?_));refine o.aj ?_;refine bo ?_;refine G.ret (aJ ?_);exact⟨R,aO,a8,_,by rw[al],(by rw[al];exact i),aP,(by rw[al];exact j),aY,d,aB,(fun _=>P),(ap.mono (by omega)),(bj),(bl),(aQ),by rw[al];exact bX,q⟩
theorem Hq(aX t:Nat)(s:c2)(F:Nat→Prop)(w0:World)(I:Heap)
 (k:Var 108 I t (ptr aX::bS s)) (ao:e4 F I s) (P:bg F I.size) (ok:s.m.Ok):
 aC Tryz.prog w0 17 #[ptr t] I (fun r n=>∃s2:c2,r=ed s2∧(e4 (fun b=>I.size≤b) n s2)∧(s2.m=s.m)∧ak I n):=by
 refine aC.enter (args:=[ptr t]) Tryz.func17 rfl rfl rfl ?_;intro W R;have d:ak I I:=V.refl _ _;have X:=k.lt;refine G.L (fun L=>?_);refine o.aO (cQ jq) ?_;rintro v2 n ⟨rfl,j,ac,ap,M⟩;have aa:n.size=I.size+1:=by rw[M];simp
 have N:T 0 I.size (I.size+1):=T.new d.size;replace k:=k.M ac;replace ao:=ao.M ac;replace d:=d.L ac;have ae:=ac.size;refine o.nil (L (G.L (fun O=>?_)));refine o.ax 2 ?_;refine o.v1 (Y.ai k.N rfl pq rfl dx) ?_;refine o.v1 (aW (k.N.drop 1) fg dx (b8 _)) ?_;refine aV vj (zf s F w0 _ ao (P.mono (by omega)) ok) ?_;rintro aE S ⟨H,C,aS,rfl,x,q,B,ar,A,aA,Q,ad⟩;have au:af (I.size+1) C:=af.app (af.z) j.lt B;have am:T 0 I.size C:=T.L (T.refl 0 _) B d.size;replace j:=j.M ad;replace d:=d.L ad;have ai:=ad.size;have Z:=q.le;have aj:ay _ (I.size+1):=ay.iZ A (by first|exact aB|exact aD|omega);refine o.s1 (dy j (_) (bS H) (iG _) dx (b8 _) ((c0 (b8 _).symm))) fun ab K=>?_;obtain⟨j,i⟩:=K;replace i:=i.bp;replace q:=q.ab i (ah.J au.symm);replace x:=x.ab i (az.J aj);replace d:=d.bl i (ag.J (aq.q N));have an:=i.size;refine o.nil (O ?_);refine G.ret (R .ret (.inr rfl) _ _ _ (jA rfl rfl j.N fg dx (b8 _)) ?_);exact⟨H,rfl,(ju.st (x.imp (fun b _ e=>by have E:=A b e;omega)) (q.rd.imp (fun b _ e=>by have E:=(am);unfold T at E;omega))),Q,d⟩
end pC

namespace rA
open E Go.RowKit eJ eN eW e3 ey eX eY fF fG fO fY gg gx gy pC hQ lH mo nd oe kF mq ng pF rz tY nh tZ dz
def o4(b5:dP)(on:List Bool)(t:b0):b0:={t with ml:=j5 b5 on t.ml}
theorem p9:∀{a b:List bA},a.map (fun x=>(x.k,x.d))=b.map (fun x=>(x.k,x.d))→ic a=ic b∧(∀l,gA l a=gA l b)∧h1 a=h1 b∧(a=[]↔b=[])
 |[],[],_=>⟨rfl,fun _=>rfl,rfl,Iff.rfl⟩
 |x::a,[],h=>by cases h
 |[],y::b,h=>by cases h
 |x::a,y::b,h=>by
  simp only[List.map_cons,List.cons.injEq,Prod.mk.injEq]at h;obtain⟨i,U,d,_⟩:=p9 h.2;have e:gC x=gC y:=by unfold gC;rw[h.1.1,h.1.2]
  refine⟨by rw[ic,ic,e,i],fun l=>?_,?_,by simp⟩
  ·show gA (dZ l x.k.1 x.d) a=gA (dZ l y.k.1 y.d) b
   rw[h.1.1,h.1.2];exact U _
  ·unfold h1 at d⊢
   simp only[List.map_cons,List.sum_cons,h.1.2,d]
theorem td{a b:cY}(h:a.p=b.p):gH a=gH b∧a.k=b.k∧a.br=b.br∧a.a6=b.a6:=
 ⟨(congrArg gH h:gH a.p=gH b.p),(congrArg (·.k) h:a.p.k=b.p.k),(congrArg (·.br) h:a.p.br=b.p.br),(congrArg (·.a6) h:a.p.a6=b.p.a6)⟩
theorem vB{a b:b0}(h:lK a b)(m:dU):eE m a=eE m b:=by
 obtain⟨j,U,k,n,o,q⟩:=h;obtain⟨aK,d,_,i⟩:=p9 q;obtain⟨r,t,_,_⟩:=td o;unfold eE eC fr gj ie;rw[j,U,k,n,aK,d,r,t];simp only[i]
theorem Ac{a b:b0}(h:lK a b)(m:dU):m.ap a=m.ap b:=by
 obtain⟨j,U,k,n,d,o⟩:=h;obtain⟨_,i,_,_⟩:=p9 o;obtain⟨_,q,_,_⟩:=td d;unfold dU.ap;rw[j,U,k,n,i,q,d]
theorem Dh{a b:b0}(h:lK a b)(j:iv a):iv b:=by
 obtain⟨t,U,n,x,o,i⟩:=h;obtain⟨_,_,k,_⟩:=p9 i;obtain⟨_,_,q,r⟩:=td o;have d:=congrArg List.length i;simp only[List.length_map]at d;unfold iv nS at j⊢;rw[←U,←q,←n,←k,←d,←r];exact j
theorem lK.symm{a b:b0}(h:lK a b):lK b a:=⟨h.1.symm,h.2.1.symm,h.2.2.1.symm,h.2.2.2.1.symm,h.2.2.2.2.1.symm,h.2.2.2.2.2.symm⟩
theorem Fw(b5:dP)(on:List Bool)(i:Nat)(m:bF):(kV b5 on i m).n=m.n∧(kV b5 on i m).y=m.y∧(kV b5 on i m).w=m.w:=by unfold kV;split<;>exact⟨rfl,rfl,rfl⟩
theorem Fi(b5:dP)(on:List Bool)(ml:List bF):gF (j5 b5 on ml)=gF ml:=by
 unfold gF j5;congr 1;refine List.ext_getElem (by simp) (fun i j U=>?_);simp only[List.getElem_map,List.getElem_mapIdx];obtain⟨aK,d,_⟩:=Fw b5 on i (ml[i]'(by simpa using U));rw[aK,d]
theorem Dk{t:b0}(b5:dP)(on:List Bool)(h:iv t):iv (o4 b5 on t):=by
 unfold iv nS o4 at*;rw[Fi]
 simpa[j5]using h
def lB(on:List Bool)(m:dU)(t:b0):dU:=if iv t then(if eE m (o4 m.b5 on t)=0 then m.ap (o4 m.b5 on t)else m)else m
def sA(on:List Bool)(l:List b0):dU:=(l.take 12).foldl (lB on) jr
theorem sB{on:List Bool}{l:List b0}{i:Nat}(h:i<l.length):(l.take (i+1)).foldl (lB on) jr=lB on ((l.take i).foldl (lB on) jr) l[i]:=by
 rw[List.take_succ_eq_append_getElem h,List.foldl_append];rfl
theorem EF{on:List Bool}{l:List b0}{i:Nat}(h:i≤l.length∧i≤12)(U:¬((i:Int)<l.length∧(i:Int)<12)):(l.take i).foldl (lB on) jr=sA on l:=by
 unfold sA;rcases Nat.lt_or_ge i 12 with d|d
 ·obtain rfl:i=l.length:=by omega
  rw[List.take_length,List.take_of_length_le (by omega)]
 ·obtain rfl:i=12:=by omega
  rfl
set_option maxHeartbeats 1600000 in
theorem sC(v aQ:Value)(l:List b0)(on:List Bool)(w0:World)(I:Heap)
 (F:bw I df 75 v l) (C:∀t∈l,e6 (fun _=>True) I t) (K:bw I oI 1 aQ on) (hw:∀t∈l,oj t):
 aC Tryz.prog w0 27 #[v,aQ] I (fun r bd=>∃bb:c2,∃bc:Nat→Prop,r=ed bb∧(∀u:Unit,e4 bc bd bb)∧(bg bc bd.size)∧(∀b,bc b→I.size≤b)∧(bb.m=sA on l)∧(bb.m.Ok)∧ak I bd):=by
 refine aC.enter (args:=[v,aQ]) Tryz.func27 rfl rfl rfl ?_;intro cO cK;have N:ak I I:=V.refl _ _;replace F:=F.bt;have bQ:=F.bY;replace C:=fun t R=>(C t R).bt;have bp:bg (fun b=>True∧b<I.size) I.size:=fun b h=>h.2;replace K:=K.bt;have b6:=K.bY;have dB:=F.len;refine G.L (fun cq=>?_);refine o.aO (cQ jq) ?_;rintro v4 M ⟨rfl,ai,aJ,dm,bi⟩;have dz:M.size=I.size+1:=by rw[bi];simp
 have aB:T 0 I.size (I.size+1):=T.new N.size;replace F:=F.M aJ;replace C:=fun t R=>(C t R).M aJ;replace K:=K.M aJ;replace N:=N.L aJ;have dp:=aJ.size;refine o.nil (cq (G.L (fun cr=>?_)));refine o.aO (cQ jq) ?_;rintro v5 aY ⟨rfl,n,aH,dq,ct⟩;have dA:aY.size=M.size+1:=by rw[ct];simp
 have cu:=(ay.new (bQ.mono N.size):ay _ (M.size+1));have cv:=(ay.new (bp.mono N.size):ay _ (M.size+1));have cw:=(ay.new (b6.mono N.size):ay _ (M.size+1));have br:af (I.size+1) (M.size+1):=af.new ai.lt;have cy:T 0 I.size (M.size+1):=T.new N.size;replace F:=F.M aH;replace C:=fun t R=>(C t R).M aH;replace K:=K.M aH;replace ai:=ai.M aH;replace N:=N.L aH;have dr:=aH.size;replace n:Var 47 aY M.size (bS mj):=n;refine o.nil (cr (G.t1 (fun cz=>G.L (fun bv=>?_))));refine o.aj ?_;refine bv (G.aB (fun _ cC _=>?_))
 refine G.bd (fun(bt:(Nat)×(c2)×(Nat→Prop))=>match bt with|(i,x,P)=>[(0,v),(1,aQ),(4,.pointer (some ⟨I.size,0,none⟩)),(5,.pointer (some ⟨M.size,0,none⟩)),(6,.int .i64 (i:Int))])
  (fun(i,x,P) (H:Heap)=>(i≤l.length∧i≤12)∧(Var 47 H M.size (bS x))∧(∀u:Unit,e4 P H x)∧(bg P H.size)∧(ay P (M.size+1))∧(ay P (I.size+1))∧(∀b,P b→I.size≤b)∧(x.m=(l.take i).foldl (lB on) jr)∧(x.m.Ok)∧V (aE [(M.size+1)]) aY H)
  (fun(i,x,P)=>l.length-i) (0,mj,fun _=>False) ⟨rfl,rfl,rfl,rfl,rfl,trivial⟩ ?_ ?_
 ·
  exact⟨(by omega),n,(fun _=>zK),(fun b e=>e.elim),(fun b e=>e.elim),(fun b e=>e.elim),(fun b e=>e.elim),rfl,rl,V.refl _ _⟩
 rintro⟨i,x,P⟩ dt cE cN bk cG;obtain⟨cI,n,ao,aM,f1,f2,a6,hm,ok,A⟩:=cE;replace F:=F.ab A (az.J cu);replace C:=fun t R=>(C t R).ab A (az.J cv);replace K:=K.ab A (az.J cw);replace ai:=ai.ab A (ah.J br);replace N:=N.bl A (ag.J (aq.q cy));have dv:=A.size;have b3:=T.refl (M.size+1) aY.size;refine G.t2 (fun b7 b_=>G.L (fun ca=>?_));refine o.ax 2 ?_;refine o.v1 (ba F tN) ?_;refine o.v1 bG ?_;refine o.W ?_;refine o.join (d:=15) (v:= .bool (decide ((i:Int)<l.length∧(i:Int)<12))) 3 (fun bx=>?_) ?_
 ·
  refine o.bj (d:=12) rfl (fun aK=>?_) (fun aK=>?_)
  ·
   refine o.bU ?_;refine o.an bG ?_;refine o.N ?_;exact bx _ (congrArg (fun b=>some (Value.bool b)) (by simp[aK])) (ae (ae (ae (bC (congrArg Value.bool (decide_eq_true aK).symm)))))
  ·
   refine o.ax 3 ?_;exact bx _ (congrArg (fun b=>some (Value.bool b)) (by simp[aK])) (ae (ae (ae (bC (congrArg Value.bool (decide_eq_false aK).symm)))))
 refine o.nil (ca ?_);refine aT (fun be=>?_) (fun be=>?_)
 ·
  refine G.skip (b7 (G.t1 (fun bl=>G.aB (fun bz bR _=>G.t2 (fun bU bV=>G.L (fun bX=>?_))))));refine o.ax 2 ?_;have a_:i<l.length:=by omega
  obtain⟨t,het⟩:∃q,q=l[i]:=⟨_,rfl⟩;have ar:t∈l:=by rw[het];exact List.getElem_mem a_
  have bs:=hw t ar;refine o.bR (Y.bJ F (i) rfl tN fk rfl rfl) fun c_ bY=>?_;refine o.v1 (Y.cast (v2:=eg t) (aW bY.N gM fk (dY _)) (by rw[het])) ?_;refine aV A6 (Di t w0 _ (C t ar).m.any (C t ar).q.any (C t ar).e.any (fun y hy=>((C t ar).d y hy).any) bs) (fun dw B cb=>?_);obtain⟨rfl,an⟩:=cb;replace F:=F.M an;replace C:=fun t R=>(C t R).M an;replace K:=K.M an;replace n:=n.M an;replace ao:=fun u=>(ao u).M an;replace A:=A.bc an;have cT:=an.size;refine o.v1 (Y.h2 rfl rfl) (o.nil (bX ?_));refine aT (fun bm=>?_) (fun bm=>?_)
  ·
   have cJ:¬iv t:=bm;refine G.exit (bV (bR ?_));refine bl (G.region ?_);refine o.W ?_;refine o.v1 bD ?_;refine o.aj ?_;refine aP.sub (bk (i+1,x,P) _ ?_ ?_) ⟨rfl,rfl,rfl,rfl,(aD (by omega)),trivial⟩
   ·exact⟨(by omega),n,ao,(aM.mono (by omega)),(f1),(f2),a6,by rw[sB a_,←het,←hm,lB,if_neg cJ],ok,A⟩
   ·first|omega|(simp only;omega)|(simp;omega)
  ·
   have a8:iv t:=Classical.not_not.1 bm;obtain⟨bI,dD,dE,dF⟩:=id a8;refine G.skip (bU ?_)
   refine G.cut (fun(bt:(Nat)×(b0)×(Nat→Prop))=>match bt with|(aN,ab,aF)=>[(0,v),(1,aQ),(4,.pointer (some ⟨I.size,0,none⟩)),(5,.pointer (some ⟨M.size,0,none⟩)),(6,.int .i64 (i:Int)),(7,.pointer (some ⟨aN,0,none⟩))])
    (fun(aN,ab,aF) (H:Heap)=>(Var 32 H aN (df ab))∧(∀u:Unit,e6 aF H ab)∧(bg aF H.size)∧(lK ab (o4 x.m.b5 on t))∧(T 0 B.size ((aN+1)))∧ak B H) (fun _ bA _=>?_) ?_
   ·
    have E:ak B B:=V.refl _ _;refine dC (fun X=>ak B X) [8] ?_;have k:ak B B:=V.refl _ _;refine O.t1 0 rfl (fun X aA=>aW (n.N.M aA) fg dx (b8 _)) k ?_;refine O.W 1 rfl k ?_;refine O.W 2 rfl k ?_;refine O.e (g:=fun ad=> .pointer (some ad)) 3 (by kernel_rfl) rfl (by kernel_rfl) (by kernel_rfl) (by kernel_rfl) (Y.bJ F (i) rfl tN fk rfl rfl) cR rfl rfl k (fun da bZ=>?_);refine O.t1 4 rfl (fun X aA=>Y.cast (v2:=eg t) (aW (bZ.N.M aA) gM fk (dY _)) (by rw[het])) k ?_;refine O.W 5 rfl k ?_;refine O.two (i:=6) (j:=7) (by kernel_rfl) ?_ ?_
    ·
     refine ch u3 (xG x t aQ on _ w0 _ (ao ()).r.any (C t ar) (bp.mono (by omega)) K.any (by omega) (by omega) (by omega) bs.md) (fun cc W bn=>?_);obtain⟨aS,aX,aR,aO,aZ,rfl,hu,aj,bE,bq,aa⟩:=bn;replace E:=E.L aa;replace k:=k.L aa;have cU:=aa.size;refine O.cn k ?_;have k:ak W W:=V.refl _ _;refine O.aY 7 ?_;refine ep rfl (cQ n9) ?_;rintro cL Z ⟨rfl,L,Q,cd,bo⟩;have a0:Z.size=W.size+1:=by rw[bo];simp
     have b2:=(ay.new (aj.mono (by omega)):ay _ (W.size+1));have bF:T 0 B.size (W.size+1):=T.new E.size;have a2:T 0 W.size (W.size+1):=T.new k.size;replace hu:=fun u=>(hu u).M Q;replace E:=E.L Q;replace k:=k.L Q;have cV:=Q.size;refine⟨.inr k,O.narrow (SH2:=fun X=>V (aE [(W.size+1)]) Z X) (fun X aA=>(V.aJ (ks:=[]) (k.j1 []) aA (ag.J (aq.q a2))).nil) ?_⟩;refine O.aY 8 ?_;refine gJ rfl (dy L (_) (df {t with eL:=aS,ml:=j5 (bN x.bb) on t.ml,q:={t.q with cM:=aX},cB:=aR,el:=aO}) (mN _) fk (dY _) ((c0 (dY _).symm))) (fun a3 bf=>?_);obtain⟨L,ac⟩:=bf;replace ac:=ac.bp;replace hu:=fun u=>(hu u).ab ac (az.J b2);replace E:=E.bl ac (ag.J (aq.q bF));have cW:=ac.size;refine⟨.inl rfl,?_⟩;refine cD ?_;refine aP.sub (bA (W.size,{t with eL:=aS,ml:=j5 (bN x.bb) on t.ml,q:={t.q with cM:=aX},cB:=aR,el:=aO},aZ) _ ?_) ⟨rfl,rfl,rfl,rfl,(aD (by omega)),rfl,trivial⟩;exact⟨L,hu,(aj.mono (by omega)),⟨rfl,rfl,rfl,rfl,rfl,bq⟩,bF,E⟩
    ·
     refine ep rfl (cQ n9) ?_;rintro cL Z ⟨rfl,L,Q,cd,bo⟩;have a0:Z.size=B.size+1:=by rw[bo];simp
     have bH:T 0 B.size (B.size+1):=T.new E.size;have a4:T 0 B.size (B.size+1):=T.new k.size;replace C:=fun t R=>(C t R).M Q;replace K:=K.M Q;replace ao:=fun u=>(ao u).M Q;replace E:=E.L Q;replace k:=k.L Q;have cY:=Q.size;refine⟨.inr k,O.narrow (SH2:=fun X=>V (aE [(B.size+1)]) Z X) (fun X aA=>(V.aJ (ks:=[]) (k.j1 []) aA (ag.J (aq.q a4))).nil) ?_⟩;have k:V (aE [(B.size+1)]) Z Z:=V.refl _ _;have a5:=T.refl (B.size+1) Z.size;refine O.aY 6 ?_;refine ch u3 (xG x t aQ on _ w0 _ (ao ()).r.any (C t ar) (bp.mono (by omega)) K.any (by omega) (by omega) (by omega) bs.md) (fun cc W bn=>?_);obtain⟨aS,aX,aR,aO,aZ,rfl,hu,aj,bE,bq,aa⟩:=bn;replace L:=L.M aa;replace E:=E.L aa;replace k:=k.bc aa;have cZ:=aa.size;have bP:=(fun b e h=>by have dG:=bE b e;omega:ay aZ ((B.size+1)));refine O.b3 k (ag.J (aq.r a5)) ?_;refine O.aY 8 ?_;refine gJ rfl (dy L (_) (df {t with eL:=aS,ml:=j5 (bN x.bb) on t.ml,q:={t.q with cM:=aX},cB:=aR,el:=aO}) (mN _) fk (dY _) ((c0 (dY _).symm))) (fun a3 bf=>?_);obtain⟨L,ac⟩:=bf;replace ac:=ac.bp;replace hu:=fun u=>(hu u).ab ac (az.J bP);replace E:=E.bl ac (ag.J (aq.q bH));have db:=ac.size;refine⟨.inl rfl,?_⟩;refine cD ?_;refine aP.sub (bA (B.size,{t with eL:=aS,ml:=j5 (bN x.bb) on t.ml,q:={t.q with cM:=aX},cB:=aR,el:=aO},aZ) _ ?_) ⟨rfl,rfl,rfl,rfl,(aD (by omega)),rfl,trivial⟩;exact⟨L,hu,(aj.mono (by omega)),⟨rfl,rfl,rfl,rfl,rfl,bq⟩,bH,E⟩
   ·
    rintro⟨aN,ab,aF⟩ cP b4;obtain⟨L,hu,aj,a7,cS,a1⟩:=b4;replace n:=n.M a1;replace ao:=fun u=>(ao u).M a1;replace A:=A.bc a1;have dc:=a1.size;have a9:=L.le;refine G.L (fun b1=>?_);refine o.v1 (aW n.N fg dx (b8 _)) ?_;have bM:iv ab:=Dh (lK.symm a7) (Dk _ on a8);refine o.v1 (aW L.N gM fk (dY _)) ?_;refine aV Bw (F6 x ab P aF w0 _ (ao ()) (aM.mono (by omega)) (hu ()) (aj.mono (by omega)) ok (wm bM)) (fun c1 c3 cf=>?_);obtain⟨rfl,aI⟩:=cf;replace n:=n.M aI;replace ao:=fun u=>(ao u).M aI;replace L:=L.M aI;replace hu:=fun u=>(hu u).M aI;replace A:=A.bc aI;have de:=aI.size;refine o.v1 b9 (o.nil (b1 ?_));refine aT (fun aL=>?_) (fun aL=>?_)
    ·
     refine G.region ?_;refine o.v1 (aW n.N fg dx (b8 _)) ?_;refine o.v1 (aW L.N gM fk (dY _)) ?_;refine aV BE (F5 x ab P aF w0 _ (ao ()) (aM.mono (by omega)) (hu ()) (aj.mono (by omega)) ok aL (wm bM)) (fun c5 c6 cg=>?_);obtain⟨bL,cj,rfl,bu,b5,bh,bO,bj⟩:=cg;replace n:=n.M bj;replace A:=A.bc bj;have dg:=bj.size;have bJ:=(ay.jj bh (f1) (by omega));have cl:=(ay.jj bh (f2) (by omega));refine o.s1 (S.var n (_) (bS bL) rfl rfl rfl rfl (iG _) dx (b8 _) (by rw[b8];exact Nat.le_refl _) ((c0 ((b8 _).trans (b8 _).symm)))) fun dh cn=>?_;obtain⟨n,au⟩:=cn;replace au:=au.bp;replace bu:=fun u=>(bu u).ab au (az.J bJ);replace A:=A.aJ au (ag.J (aq.r b3));have di:=au.size;refine o.nil (bz (bl (G.region ?_)));refine o.W ?_;refine o.v1 bD ?_;refine o.aj ?_;refine aP.sub (bk (i+1,bL,cj) _ ?_ ?_) ⟨rfl,rfl,rfl,rfl,(aD (by omega)),trivial⟩
     ·exact⟨(by omega),n,bu,(b5.mono (by omega)),(bJ),(cl),(fun b e=>(bh b e).elim (a6 b) (fun e=>by omega)),by rw[bO,sB a_,←het,←hm,lB,if_pos a8,if_pos ((vB a7 _).symm.trans aL)];exact Ac a7 _,by rw[bO];exact ok.ap aL,A⟩
     ·first|omega|(simp only;omega)|(simp;omega)
    ·
     refine G.skip (bz (bl (G.region ?_)));refine o.W ?_;refine o.v1 bD ?_;refine o.aj ?_;refine aP.sub (bk (i+1,x,P) _ ?_ ?_) ⟨rfl,rfl,rfl,rfl,(aD (by omega)),trivial⟩
     ·exact⟨(by omega),n,ao,(aM.mono (by omega)),(f1),(f2),a6,by rw[sB a_,←het,←hm,lB,if_pos a8,if_neg (fun e=>aL ((vB a7 _).trans e))],ok,A⟩
     ·first|omega|(simp only;omega)|(simp;omega)
 ·
  have cH:=EF (on:=on) cI be;refine G.exit (b_ (cG (cC ?_)));refine cz (G.L (fun cp=>?_));refine o.v1 (aW n.N fg dx (b8 _)) ?_;refine o.s1 (dy ai (_) (bS x) (iG _) dx (b8 _) ((c0 (b8 _).symm))) fun dj bT=>?_;obtain⟨ai,am⟩:=bT;replace am:=am.bp;replace ao:=fun u=>(ao u).ab am (az.J f2);replace N:=N.bl am (ag.J (aq.q aB));have dk:=am.size;refine o.nil (cp ?_);refine G.ret (cK .ret (.inr rfl) _ _ _ (jA rfl rfl ai.N fg dx (b8 _)) ?_);exact⟨x,P,rfl,ao,(aM.mono (by omega)),a6,hm.trans cH,ok,N⟩
end rA
end Go.Proofs.YtfjmpninmdjcaaaGreatDoor
