/-
  Contracts of functions of the program, and plain laws: put together of several texts.
-/
import Derived.Test.YtfjmpninmdjcaaaGreatDoorGe
import Derived.Test.YtfjmpninmdjcaaaGreatDoorGa
import Derived.Test.YtfjmpninmdjcaaaGreatDoorGd
import Derived.Test.YtfjmpninmdjcaaaGreatDoorGb
import Derived.Shelf.Vars
import Derived.SizedLaws
set_option linter.unusedVariables false
set_option linter.unusedSimpArgs false
set_option linter.unusedSectionVars false
set_option linter.defProp false
set_option maxHeartbeats 8000000
set_option maxRecDepth 20000
namespace Go.Proofs.YtfjmpninmdjcaaaGreatDoor

namespace k5
open E Go.RowKit eM e7 fx fS gm gN gX hf ho hI hJ iO jg j7 j8 kr
set_option maxRecDepth 100000 in
theorem sv:c3 Tryz.prog 291 230 1 8:=⟨Tryz.underlying291,_,_,rfl,rfl,rfl,rfl,rfl⟩
theorem Ed{D:aE}{p:aJ}{n:Nat}(h:D.eQ p≠0):gh D p n=(D.eQ p,D):=by unfold gh;rw[if_pos h]
theorem Ee{D:aE}{p:aJ}{n:Nat}(h:D.eQ p=0)(V:gq (D.ch p)≠0):gh D p n=(gq (D.ch p),D):=by unfold gh;rw[if_neg (by omega),if_pos V]
theorem Ef{D:aE}{p:aJ}{n:Nat}(h:D.eQ p=0)(V:gq (D.ch p)=0):gh D p n=eD D p ((dS (D.ch p)).take n):=by unfold gh;rw[if_neg (by omega),if_neg (by omega)]
theorem FH(l:List (aO×Rec))(i n:Nat)(h:i=min n l.length):cz (l.take i)=(cz l).take n:=by
 unfold cz;rw[List.map_take,h];rcases Nat.le_total n l.length with V|V
 ·rw[Nat.min_eq_left V]
 ·rw[Nat.min_eq_right V,List.take_of_length_le (by simp),List.take_of_length_le (by simpa using V)]
theorem r_(b:List UInt8)(n:Nat):(cC ((dS b).take n)).length≤b.length+8:=by
 have d:=(mw b).1;have V:=r9 (dS b) n;have i:gy.length=8:=rfl;unfold cC;rw[List.length_append];omega
theorem tc(b:List UInt8):(dS b).length≤b.length+8:=Nat.le_trans (vM _) (mw b).2
theorem o1{m n e:Nat}(h:e=0):mF e m n=m:=if_pos h
theorem o0{e:Nat}{br:Bool}(h:e=0):nH e br=false:=if_pos h
theorem sB{m n e:Nat}(h:e≠0):mF e m n=n:=if_neg h
theorem sA{e:Nat}{br:Bool}(h:e≠0):nH e br=br:=if_neg h
theorem Eg(bb:Int)(K:List Nat)(g:ct)(b:Nat)(D:aE)(aZ:Nat)(p:aJ)(n:Nat)(br:Bool)(bW:Nat)(w0:World)(J:Heap)
 (j:bg K g J b D) (aI:dP bb J) (ar:bk (fun b=>b=0) J.size) (c6:ay (fun b=>b=0) K) (d:Var 206 J aZ [ptr b,aK p,.int .i64 (n:Int),.bool br]) (dl:ag (aZ+1) K) (bt:ax (fun b=>b=0) (aZ+1)) (bw:p.length≤4294960000) (S:bA bW D) (bO:bW≤90000000) (bP:n≤1073741824):
 aG Tryz.prog w0 105 #[ptr aZ] J (fun r X=>∃bl:List Nat,∃g2:ct,r= .int .i64 ((gh D p n).1:Int)∧(bg bl g2 X b (gh D p n).2)∧(aT K J.size bl)∧(Var 206 X aZ [ptr b,aK p,.int .i64 (mF (gh D p n).1 (nK D p n) n:Int),.bool (nH (gh D p n).1 br)])∧(ag (aZ+1) bl)∧W (aB (K++[(aZ+1)])) J X):=by
 refine aG.aN [ptr aZ] Tryz.func105 ?_;intro bD ab;have A:W (aB (K++[(aZ+1)])) J J:=W.refl _ _;have Q:=aT.refl K J.size;have L:=j.aD;have ad:=U.refl (aZ+1) J.size;have af:=d.lt;have bU:=nU S p;have bu:=r_ (D.ch p);have bQ:=tc (D.ch p);refine G.L (fun bp=>?_);refine o.al ?_;refine bp (G.seq (fun bl bq _=>?_));refine dg (fun B=>aq J B) [] ?_;have C:=aq.refl J;refine T.aa 0 rfl C ?_;refine T.bG 1 rfl C ?_;refine T.t1 2 rfl (fun B q=>Y.an (d.O.N q) rfl gj rfl l3) C ?_;refine T.t1 3 rfl (fun B q=>au (d.O.N q) lJ) C ?_;refine T.aa 4 rfl C ?_;refine T.bG 5 rfl C ?_;refine T.t1 6 rfl (fun B q=>Y.an (d.O.N q) rfl gj rfl bV) C ?_;refine T.t1 7 rfl (fun B q=>au ((d.O.drop 1).N q) bR) C ?_;refine T.aX 8 ?_;refine b7 vn (x2 bb K g b D p w0 _ aI (ar.mono (by omega)) j (by omega) (fun i=>by have:=(S.f i).1;omega)) (fun bH aw az=>?_);obtain⟨aC,bJ,rfl,am,bF,F⟩:=az;have j:=j.N F;have aI:=aI.N F;have d:=d.N F;have A:=A.a8 F;have bK:=F.size;have bM:=am.le;have ap:=C.L F;refine T.cD ap ?_;have ac:=aq.refl aw;refine T.aa 9 rfl ac ?_;refine T.t1 10 rfl (fun B q=>cF) ac ?_;refine T.t1 11 rfl (fun B q=>cF) ac ?_;refine T.t1 12 rfl (fun B q=>e5) ac ?_;refine T.t1 13 rfl (fun B q=>e5) ac ?_;refine cI ?_;have bT:=ac;refine bq _ _ (G.t2 (fun aD aF=>G.L (fun aH=>?_)));refine o.aa ?_;refine o.v1 da (o.nil (aH ?_));refine aW (fun aL=>?_) (fun aL=>?_)
 ·
  refine G.L (fun aM=>?_);refine o.aP 2 ?_;refine aM ?_;refine G.ret (aF (ab ?_));have hm:=Ed (n:=n) (show D.eQ p≠0 by omega);have P:(gh D p n).1≠0:=by rw[hm];show D.eQ p≠0;omega
  exact⟨_,_,by rw[hm];rfl,by rw[hm];exact j,Q,by rw[sB P,sA P];exact d,dl,A⟩
 ·
  refine G.skip (aD (G.L (fun aN=>?_)));refine o.aa ?_;refine aV vo (xQ aC (D.ch p) w0 _ am.rd.any (by have:=nU S p;omega)) (fun bL R aP=>?_);obtain⟨a0,E,rfl,aa,M,Z,N⟩:=aP;have j:=j.N N;have aI:=aI.N N;have d:=d.N N;have A:=A.a8 N;have a2:=N.size;have M:=M.b2;have ai:=M.b5;have aQ:ay (fun b=>aw.size≤b∧b<R.size) K:=ay.iv (fun b h=>h.1) (by first|exact L|exact fun k O=>Nat.le_trans (L k O) (by omega)|assumption);have aR:ax (fun b=>aw.size≤b∧b<R.size) (aZ+1):=ax.iv (fun b h=>h.1) (by first|exact bx|exact af|omega);have Z:=fun x bB=>(Z x bB).b2;have aS:ay (fun b=>aw.size≤b∧b<R.size) K:=ay.iv (fun b h=>h.1) (by first|exact L|exact fun k O=>Nat.le_trans (L k O) (by omega)|assumption);have aX:ax (fun b=>aw.size≤b∧b<R.size) (aZ+1):=ax.iv (fun b h=>h.1) (by first|exact bx|exact af|omega);refine o.aa ?_;refine o.v1 cF ?_;refine o.v1 cF ?_;refine o.v1 cF ?_;refine o.aP 3 ?_;refine aN (G.t2 (fun a1 a6=>G.L (fun a7=>?_)));refine o.aa ?_;refine o.v1 da (o.nil (a7 ?_));refine aW (fun a8=>?_) (fun a8=>?_)
  ·
   refine G.L (fun a_=>?_);refine o.aP 2 ?_;refine a_ ?_;refine G.ret (a6 (ab ?_));have hm:=Ee (n:=n) (show D.eQ p=0 by omega) (show gq (D.ch p)≠0 by omega);have P:(gh D p n).1≠0:=by rw[hm];show gq (D.ch p)≠0;omega
   exact⟨_,_,by rw[hm];rfl,by rw[hm];exact j,Q,by rw[sB P,sA P];exact d,dl,A⟩
  ·
   refine G.skip (a1 (G.L (fun bn=>?_)));refine o.az 4 ?_;refine o.v1 (Y.an d.O rfl gj rfl b6) ?_;refine o.v1 (au (d.O.drop 2) cE) ?_;refine o.aa ?_;refine o.v1 (bf M hR) ?_;refine o.v1 (Y.cast (v2:= .int .i64 ((min n E.length:Nat):Int)) (Y.Ej rfl rfl rfl) (fh (by omega))) ?_;refine o.aN (g:=fun v=>v) (Y.slice M (0) (min n E.length) rfl hR c8 rfl (.inl ⟨rfl,rfl⟩) (.inr ⟨_,_,_,rfl,rfl,by first|rfl|omega⟩) (by omega) (by omega)) fun an ae=>?_;rw[List.drop_zero]at ae;obtain⟨ba,rfl⟩:∃s:aO,an=s.v:=⟨cm an,ae.bm.symm⟩;have H:=FH E (min n E.length) n rfl;rw[aa]at H;have bz:=congrArg List.length aa;simp only[cz,List.length_map]at bz;refine aV rZ (r1 bb K g b D aZ p n br ba (E.take (min n E.length)) _ bW w0 _ j aI (ar.mono (by omega)) (c6) d (dl) (bt) ae (ai.mono (by omega)) (aQ) (fun x h=>Z x (List.mem_of_mem_take h)) (ai.mono (by omega)) (aS) (fun x h=>xM _ _ (by rw[←aa];exact List.mem_map_of_mem (List.mem_of_mem_take h))) (by rw[H];have bN:=r9 (dS (D.ch p)) n;have V:=(mw (D.ch p)).1;omega) (aR) (aX) bw S (by rw[H];have:=bu n;omega) (by rw[List.length_take];omega)) (fun a3 a4 bc=>?_);obtain⟨bd,a5,rfl,j,bm,d,bs,al⟩:=bc;have bo:aT K J.size bd:=aT.L (Q) bm A.size;have A:=A.aL al (ah.app (ah.ca (Q) (by intro k O;simp[O])) (ah.I (ao.r ad)));have bE:=al.size;have L:=j.aD;refine o.al ?_;refine bn ?_;refine G.ret (ab ?_);have hm:=Ef (n:=n) (show D.eQ p=0 by omega) (show gq (D.ch p)=0 by omega);rw[H]at j d;exact⟨_,_,by rw[hm,H],by rw[hm];exact j,bo,by rw[hm];unfold nK;rw[show((dS (D.ch p)).take n).length=(E.take (min n E.length)).length from by rw[←H];exact List.length_map _];exact d,bs,A⟩
theorem xV{D:aE}{p:aJ}{n:Nat}{br:Bool}(h:br=false):hZ D p n br=(0,n,D):=by unfold hZ;rw[h];simp
theorem xW{D:aE}{p:aJ}{n:Nat}{br:Bool}(h:br=true):hZ D p n br=((gh D p n).1,nK D p n,(gh D p n).2):=by unfold hZ;rw[if_pos h]
theorem zW{D:aE}{p:aJ}{n:Nat}{br:Bool}{r:Rec}(h:br=true)(V:(gh D p n).1≠0):ej D p n br r=((gh D p n).1,n,br,(gh D p n).2):=by unfold ej;rw[xW h,if_pos V]
theorem uz{D d:aE}{p:aJ}{n bG:Nat}{br:Bool}{r:Rec}(h:hZ D p n br=(0,bG,d)):ej D p n br r=((cR (gO p bG r) d).1,if(cR (gO p bG r) d).1=0 then bG+1 else bG,if(cR (gO p bG r) d).1=0 then false else true,(cR (gO p bG r) d).2):=by
 unfold ej;rw[h];simp
def en(D:aE)(p:aJ):Nat×List Rec×aE:=
 if cl p=false∨cl (cu p)=false then(7,[],D)
 else if D.eQ p=2 then((eD D p []).1,[],(eD D p []).2)
 else if D.eQ p≠0 then(D.eQ p,[],D)
 else if gq (D.ch p)≠0 then(gq (D.ch p),[],D)
 else if mP (D.ch p)<(D.ch p).length then((eD D p (dS (D.ch p))).1,if(eD D p (dS (D.ch p))).1=0 then dS (D.ch p)else[],(eD D p (dS (D.ch p))).2)
 else(0,dS (D.ch p),D)
theorem uR{bW:Nat}{D:aE}(h:bA bW D)(p:aJ):bA (bW+4*(bW+28)) (en D p).2.2:=by
 have d:=(mw (D.ch p)).2;have V:=nU h p;unfold en;split
 ·exact h.mono (by omega)
 split
 ·exact(pX h p []).mono (by simp[cC,gy,eV];omega)
 split
 ·exact h.mono (by omega)
 split
 ·exact h.mono (by omega)
 split
 ·exact(pX h p _).mono (by omega)
 ·exact h.mono (by omega)
theorem Ht(bb:Int)(K:List Nat)(g:ct)(b:Nat)(D:aE)(aZ:Nat)(p:aJ)(n:Nat)(br:Bool)(s:aO)(rc:Rec)(F:Nat→Prop)(bW:Nat)(w0:World)(J:Heap)
 (i:bg K g J b D) (aI:dP bb J) (aD:bk (fun b=>b=0) J.size) (c6:ay (fun b=>b=0) K) (d:Var 206 J aZ [ptr b,aK p,.int .i64 (n:Int),.bool br]) (dl:ag (aZ+1) K) (bc:ax (fun b=>b=0) (aZ+1)) (C:Rd F J a6 1 s.v rc) (a8:bk F J.size) (a_:ay F K) (b9:ax F (aZ+1)) (cc:rc.length≤1048576) (bd:p.length≤4294960000) (an:bA bW D) (cH:bW≤80000000) (cK:n≤1000000000):
 aG Tryz.prog w0 38 #[ptr aZ,s.v] J (fun r x=>∃bl:List Nat,∃g2:ct,r= .int .i64 ((ej D p n br rc).1:Int)∧(bg bl g2 x b (ej D p n br rc).2.2.2)∧(aT K J.size bl)∧(Var 206 x aZ [ptr b,aK p,.int .i64 ((ej D p n br rc).2.1:Int),.bool (ej D p n br rc).2.2.1])∧(ag (aZ+1) bl)∧W (aB (K++[(aZ+1)])) J x):=by
 refine aG.aN [ptr aZ,s.v] Tryz.func38 ?_;intro cf aH;have j:W (aB (K++[(aZ+1)])) J J:=W.refl _ _;have ac:=aT.refl K J.size;have ar:=i.aD;have ai:=U.refl (aZ+1) J.size;have ck:=d.lt;have cP:=nU an p;have cI:=r_ (D.ch p);have cO:=tc (D.ch p);refine G.seq (fun B a5 _=>G.region ?_);refine o.aS (Z.nc rfl rfl (rfl)) ?_;rintro v2 x ⟨rfl,q,S,cB,bm⟩;have cj:x.size=J.size+1:=by rw[bm];simp
 have aQ:ag (J.size+1) K:=ag.gG i.aD;have bn:af (aZ+1) (J.size+1):=af.new d.lt;have i:=i.N S;have aI:=aI.N S;have d:=d.N S;have C:=C.N S;have j:=j.a8 S;have bv:=S.size;have q:Var 103 x J.size ([ptr aZ]):=q;refine o.aS (Z.nc rfl rfl ((C).pb)) ?_;rintro v3 L ⟨rfl,M,P,cC,a9⟩;have cl:L.size=x.size+1:=by rw[a9];simp
 have aS:ag (x.size+1) K:=ag.gG i.aD;have bQ:af (aZ+1) (x.size+1):=af.new d.lt;have i:=i.N P;have aI:=aI.N P;have d:=d.N P;have C:=C.N P;have q:=q.N P;have j:=j.a8 P;have cD:=P.size;have M:Var 57 L x.size ([s.v]):=M;refine o.al ?_;refine a5 _ _ (G.seq (fun bl bR _=>G.L (fun bU=>?_)));refine o.v1 (au M.O eI) ?_;refine o.v1 (bf C dj) ?_;refine o.v1 ((eX).fC (by omega)) (o.nil (bU ?_));refine dK ?_;refine G.skip (bR _ _ ?_)
 refine G.bw (fun(cd:(List Nat)×(ct)×(aE)×(Nat))=>match cd with|(B,g1,N,bG)=>[(2,.pointer (some ⟨J.size,0,none⟩)),(3,.pointer (some ⟨x.size,0,none⟩))])
  (fun(B,g1,N,bG) (H:Heap)=>(bg B g1 H b N)∧(Var 206 H aZ [ptr b,aK p,.int .i64 (bG:Int),.bool false])∧(hZ D p n br=(0,bG,N))∧(bA (bW+4*(bW+28)) N)∧(bG≤1100000000)∧(aT K L.size B)∧(ag (aZ+1) B)∧W (aB (K++[(aZ+1)])) L H) (fun _ a0 bT=>?_) ?_
 ·
  have am:W (aB (K++[(aZ+1)])) L L:=W.refl _ _;have ad:=aT.refl K L.size;have bO:=U.refl (aZ+1) L.size;refine G.L (fun be=>?_);refine o.v1 (au q.O hg) ?_;refine o.bG ?_;refine o.v1 (Y.an d.O rfl gj rfl dz) ?_;refine o.v1 (au (d.O.drop 3) ec) (o.nil (be ?_));refine cL (fun ab=>?_) (fun ab=>?_)
  ·
   refine G.L (fun b5=>?_);refine o.v1 (au q.O hg) ?_;refine aV AE (Eg bb K g b D aZ p n br bW w0 _ i aI (aD.mono (by omega)) (c6) d (dl) (bc) bd an (by omega) (by omega)) (fun cG cm bV=>?_);obtain⟨ae,bX,rfl,i,a1,d,ba,az⟩:=bV;have bq:aT K J.size ae:=aT.L (ac) a1 j.size;have bs:aT K L.size ae:=aT.L (ad) a1 am.size;have j:=j.aL az (ah.app (ah.ca (ac) (by intro k Q;simp[Q])) (ah.I (ao.r ai)));have am:=am.aL az (ah.app (ah.ca (ad) (by intro k Q;simp[Q])) (ah.I (ao.r bO)));have cn:=az.size;have ar:=i.aD;refine o.al ?_;refine b5 (G.L (fun bi=>?_));refine o.aa ?_;refine o.v1 da (o.nil (bi ?_));refine aW (fun bY=>?_) (fun bY=>?_)
   ·
    refine G.L (fun bZ=>?_);refine o.aP 2 ?_;refine bZ ?_;refine G.ret (bT (aH ?_));have E:(gh D p n).1≠0:=by omega
    have A:=zW (r:=rc) ab E;exact⟨_,_,by rw[A],by rw[A];exact i,bq,by rw[A];rw[sB E,sA E]at d;exact d,ba,j⟩
   ·
    refine G.skip ?_;have aF:(gh D p n).1=0:=by omega
    refine aR.sub (a0 (ae,bX,(gh D p n).2,nK D p n) _ ?_) ⟨rfl,rfl,trivial⟩;exact⟨i,by rw[o1 aF,o0 aF]at d;exact d,by rw[xW ab,aF],uQ an p n,by unfold nK;rw[List.length_take];omega,bs,ba,am⟩
  ·
   refine G.skip ?_;refine aR.sub (a0 (K,g,D,n) _ ?_) ⟨rfl,rfl,trivial⟩;exact⟨i,by rw[show br=false by simpa using ab]at d;exact d,xV (by simpa using ab),an.mono (by omega),(by omega),ad,dl,am⟩
 ·
  rintro⟨B,g1,N,bG⟩ aX bP;obtain⟨i,d,cb,ca,cJ,T,aw,R⟩:=bP;have bt:=ay.ee (c6) (aD.mono j.size) T;have bu:=ay.ee (a_) (a8.mono j.size) T;have aL:ag (J.size+1) B:=ag.ee (aQ) q.lt T;have bw:ag (x.size+1) B:=ag.ee (aS) M.lt T;have aM:aT K J.size B:=aT.L (ac) T j.size;have aI:=aI.ae R (ay.app c6 (ay.I bc));have C:=C.ae R (ay.app a_ (ay.I b9));have q:=q.ae R (ag.app aQ (ag.I bn.symm));have M:=M.ae R (ag.app aS (ag.I bQ.symm));have j:=j.aL R (ah.app (ah.ca (ac) (by intro k Q;simp[Q])) (ah.I (ao.r ai)));have cp:=R.size;have ar:=i.aD;have aC:=aw;refine G.L (fun b0=>?_);refine o.v1 (Y.makeFunc rfl rfl) ?_;refine o.al ?_;refine b0 (G.L (fun bx=>?_));refine o.v1 (Y.makeFunc rfl rfl) ?_;refine o.aa ?_;refine o.v1 (Y.makeFunc rfl rfl) ?_;refine o.aa ?_;refine o.aS (cS _ (([(109,[ptr J.size,ptr x.size]),(106,[ptr J.size]),(112,[ptr J.size]),(106,[ptr J.size])]:List jx)) sv vT vU (rfl)) fun b1 b2 b3=>?_;obtain⟨aN,O,cA,bz⟩:=b3;have cg:b2.size=aX.size+1:=by rw[bz];simp
  have bB:ag (aX.size+1) B:=ag.gG i.aD;have i:=i.N O;have aI:=aI.N O;have C:=C.N O;have q:=q.N O;have M:=M.N O;have d:=d.N O;have j:=j.a8 O;have cq:=O.size;refine aV uX (we B g1 b N b1 [(109,[ptr J.size,ptr x.size]),(106,[ptr J.size]),(112,[ptr J.size]),(106,[ptr J.size])] (gO p bG rc) _ w0 _ i aN.rd (bk.of aN.le) (ay.of (bB)) rfl (zT (ma.mk aI (aD.mono (by omega)) (bt) q d (aL) (aC)) (k4.mk M (bw)) (mc.mk C (a8.mono (by omega)) (bu)) cc bd ca (by omega))) (fun cr cu b7=>?_);have bE:=d.lt;obtain⟨a2,cv,rfl,i,a7,ap⟩:=b7;have al:ag (aZ+1) a2:=ag.ee (aC) bE a7;have aP:aT K J.size a2:=aT.L (aM) a7 j.size;have q:=q.ae ap (aL);have d:=d.ae ap (aC);have j:=j.aL ap (ah.ca (aM) (by intro k Q;simp[Q]));have cx:=ap.size;have ar:=i.aD;have A:=uz (r:=rc) cb;refine o.al ?_;refine bx (G.t2 (fun bF bH=>G.L (fun bJ=>?_)));refine o.aa ?_;refine o.v1 da (o.nil (bJ ?_));refine aW (fun b8=>?_) (fun b8=>?_)
  ·
   refine G.L (fun bK=>?_);refine o.v1 (au q.O hg) ?_;refine o.bG ?_;refine o.v1 (Y.an d.O rfl gj rfl dz) ?_;refine o.s1 (dL d 3 ([ptr b,aK p,.int .i64 (bG:Int),.bool true]) (rfl) dz (by simp) (rfl)) fun a3 bo=>?_;obtain⟨d,X⟩:=bo;have X:=X.bB;have i:=i.ae X (dr.cons al dr.nil);have j:=j.aL X (ah.I (ao.r ai));have cy:=X.size;refine o.nil (bK (G.L (fun bL=>?_)));refine o.aP 2 ?_;refine bL ?_;refine G.ret (bH (aH ?_));have E:(cR (gO p bG rc) N).1≠0:=by omega
   rw[if_neg E,if_neg E]at A;exact⟨_,_,by rw[A],by rw[A];exact i,aP,by rw[A];exact d,al,j⟩
  ·
   refine G.skip (bF (G.L (fun bM=>?_)));refine o.v1 (au q.O hg) ?_;refine o.bG ?_;refine o.v1 (Y.an d.O rfl gj rfl b6) ?_;refine o.v1 (au (d.O.drop 2) cE) ?_;refine o.v1 (Y.cast (v2:= .int .i64 ((bG+1:Nat):Int)) bD (fh (by omega))) ?_;refine o.bG ?_;refine o.v1 (Y.an d.O rfl gj rfl b6) ?_;refine o.s1 (dL d 2 ([ptr b,aK p,.int .i64 ((bG+1:Nat):Int),.bool false]) (rfl) b6 (by simp) (rfl)) fun a4 bp=>?_;obtain⟨d,aa⟩:=bp;have aa:=aa.bB;have i:=i.ae aa (dr.cons al dr.nil);have j:=j.aL aa (ah.I (ao.r ai));have cz:=aa.size;refine o.nil (bM (G.seq (fun ae bN _=>G.region ?_)));refine o.al ?_;refine bN _ _ ?_;refine G.ret (aH ?_);have E:(cR (gO p bG rc) N).1=0:=by omega
   rw[if_pos E,if_pos E]at A;exact⟨_,_,by rw[A,E];rfl,by rw[A];exact i,aP,by rw[A];exact d,al,j⟩
end k5

namespace lH
open E Go.RowKit eM e7 fx fS gm gN gX hf ho hI hJ iO jg j7 j8 kr k5
structure ry (k:Nat) (H:Heap) (v:Value) (b:Nat) (p:aJ) (n:Nat) (br:Bool):Prop where
 ex:(k=0∧v= .pointer none)∨∃aZ,k=aZ+1∧v=ptr aZ∧Var 206 H aZ [ptr b,aK p,.int .i64 (n:Int),.bool br]
section
variable {k b n : Nat} {H ab : Heap} {v : Value} {p : aJ} {br : Bool} {ks : List Nat}
theorem ry.var{aZ:Nat}(h:ry (aZ+1) H v b p n br):v=ptr aZ∧Var 206 H aZ [ptr b,aK p,.int .i64 (n:Int),.bool br]:=by
 rcases h.ex with⟨e,_⟩|⟨i,e,d,h⟩
 ·omega
 ·obtain rfl:aZ=i:=by omega
  exact⟨d,h⟩
end
section
variable {D : aE} {p : aJ}
theorem xH(h:cl p=false∨cl (cu p)=false):en D p=(7,[],D):=by unfold en;rw[if_pos h]
theorem pd(bG:cl p=true)(d:cl (cu p)=true):¬(cl p=false∨cl (cu p)=false):=by rw[bG,d];simp
theorem xI(bG:cl p=true)(d:cl (cu p)=true)(h:D.eQ p=2):en D p=((eD D p []).1,[],(eD D p []).2):=by unfold en;rw[if_neg (pd bG d),if_pos h]
theorem E8(bG:cl p=true)(d:cl (cu p)=true)(h:D.eQ p≠2)(V:D.eQ p≠0):en D p=(D.eQ p,[],D):=by unfold en;rw[if_neg (pd bG d),if_neg h,if_pos V]
theorem xJ(bG:cl p=true)(d:cl (cu p)=true)(h:D.eQ p=0)(V:gq (D.ch p)≠0):en D p=(gq (D.ch p),[],D):=by unfold en;rw[if_neg (pd bG d),if_neg (by omega),if_neg (by omega),if_pos V]
theorem mO(bG:cl p=true)(i:cl (cu p)=true)(h:D.eQ p=0)(V:gq (D.ch p)=0)(d:mP (D.ch p)<(D.ch p).length):en D p=((eD D p (dS (D.ch p))).1,if(eD D p (dS (D.ch p))).1=0 then dS (D.ch p)else[],(eD D p (dS (D.ch p))).2):=by
 unfold en;rw[if_neg (pd bG i),if_neg (by omega),if_neg (by omega),if_neg (by omega),if_pos d]
theorem nR(bG:cl p=true)(i:cl (cu p)=true)(h:D.eQ p=0)(V:gq (D.ch p)=0)(d:¬mP (D.ch p)<(D.ch p).length):en D p=(0,dS (D.ch p),D):=by
 unfold en;rw[if_neg (pd bG i),if_neg (by omega),if_neg (by omega),if_neg (by omega),if_neg d]
end
theorem HE(bb:Int)(K:List Nat)(g:ct)(b:Nat)(D:aE)(p:aJ)(bW:Nat)(w0:World)(J:Heap)
 (n:bg K g J b D) (aI:dP bb J) (ae:bk (fun b=>b=0) J.size) (c6:ay (fun b=>b=0) K) (bt:p.length≤4294960000) (au:bA bW D) (dg:bW≤80000000):
 aG Tryz.prog w0 35 #[ptr b,aK p] J (fun r X=>∃cP:Value,∃af:Nat,∃t:aO,∃l:List (aO×Rec),∃bl:List Nat,∃g2:ct,∃aQ:Nat→Prop,r= .tuple #[cP,t.v,.int .i64 ((en D p).1:Int)]∧(bg bl g2 X b (en D p).2.2)∧(aT K J.size bl)∧(ry af X cP b p l.length false)∧(U 0 J.size af)∧(ag af bl)∧(((en D p).1=0→∃aZ,af=aZ+1∧cP=ptr aZ)∧((en D p).1≠0→af=0∧cP= .pointer none))∧(cz l=(en D p).2.1)∧(Rd aQ X hU 1 t.v l)∧(∀x∈l,Rd aQ X a6 1 x.1.v x.2)∧(bk aQ X.size)∧(∀c,aQ c→J.size≤c)∧(ay aQ bl)∧(ax aQ af)∧W (aB K) J X):=by
 refine aG.aN [ptr b,aK p] Tryz.func35 ?_;intro cD Q;have q:W (aB K) J J:=W.refl _ _;have P:=aT.refl K J.size;have aa:=n.aD;have dk:=nU au p;have dh:=(mw (D.ch p)).2;have di:=tc (D.ch p);refine G.L (fun cn=>?_);refine o.aP 3 ?_;refine cn (G.seq (fun bl cp bd=>G.L (fun bm=>?_)));refine o.aa ?_;refine aV mq (mH bb p w0 _ aI (ae.mono (by omega)) (by omega)) (fun c0 c1 bv=>?_);obtain⟨rfl,aF⟩:=bv;have n:=n.N aF;have aI:=aI.N aF;have q:=q.a8 aF;have c2:=aF.size;refine o.v1 eG ?_;refine o.aa ?_;refine o.split (d:=15) rfl (fun aN=>?_) (fun aN=>?_)
 ·
  have j:=xH (D:=D) (p:=p) (.inl (by simpa using aN));refine o.az 5 ?_;refine o.nil (bm ?_);refine G.h9 rfl ?_;refine G.L (fun cq=>?_);refine o.aP 3 ?_;refine cq ?_;refine G.ret (bd .ret nofun _ _ (Q ?_));exact⟨.pointer none,0,⟨none,0,0⟩,[],_,_,(fun _=>False),by rw[j];rfl,by rw[j];exact n,P,⟨.inl ⟨rfl,rfl⟩⟩,(.inl rfl),ag.jd,⟨fun h=>absurd h (by rw[j];exact(Nat.succ_ne_zero 6)),fun _=>⟨rfl,rfl⟩⟩,by rw[j];rfl,Rd.nil _ _ _ _,(fun x h=>by cases h),(fun b h=>h.elim),(fun c h=>h.elim),(fun k H b h=>h.elim),(fun b h=>h.elim),q⟩
 ·
  refine o.bJ ?_;refine o.ar (Y.cast (v2:=aK (cu p)) (Y.q5 rfl rfl rfl (by simp only[List.length_cons,List.length_nil];omega)) (rfl)) ?_;refine o.call rfl mq rfl bo rfl rfl (mH bb (cu p) w0 _ aI (ae.mono (by omega)) (by rw[o9];omega)) (fun c3 F cr=>?_);obtain⟨rfl,aH⟩:=cr;have n:=n.N aH;have aI:=aI.N aH;have q:=q.a8 aH;have c5:=aH.size;refine o.ar eG ?_;refine o.dy ?_;refine o.nil (bm ?_);refine cL (fun aP=>?_) (fun aP=>?_)
  ·
   have j:=xH (D:=D) (p:=p) (.inr (by simpa using aP));refine G.L (fun cv=>?_);refine o.aP 3 ?_;refine cv ?_;refine G.ret (bd .ret nofun _ _ (Q ?_));exact⟨.pointer none,0,⟨none,0,0⟩,[],_,_,(fun _=>False),by rw[j];rfl,by rw[j];exact n,P,⟨.inl ⟨rfl,rfl⟩⟩,(.inl rfl),ag.jd,⟨fun h=>absurd h (by rw[j];exact(Nat.succ_ne_zero 6)),fun _=>⟨rfl,rfl⟩⟩,by rw[j];rfl,Rd.nil _ _ _ _,(fun x h=>by cases h),(fun b h=>h.elim),(fun c h=>h.elim),(fun k H b h=>h.elim),(fun b h=>h.elim),q⟩
  ·
   have L:cl p=true:=by simpa using aN
   have M:cl (cu p)=true:=by simpa using aP
   refine G.skip (cp _ _ (G.L (fun bR=>?_)));refine o.az 2 ?_;refine o.v1 (Y.build (v:= .agg #[ptr b,aK p,.int .i64 0,.bool false]) rfl rfl (by intro w;kernel_rfl)) ?_;refine o.aS cY fun c7 bn bU=>?_;obtain⟨rfl,C,aL,cW,bB⟩:=bU;have db:bn.size=F.size+1:=by rw[bB];simp
   have Z:ag (F.size+1) K:=ag.gG n.aD;have bp:=(ax.new (ae.mono q.size):ax _ (F.size+1));have R:U 0 J.size (F.size+1):=U.new q.size;have n:=n.N aL;have aI:=aI.N aL;have q:=q.a8 aL;have c8:=aL.size;have C:Var 206 bn F.size ([ptr b,aK p,.int .i64 ((0:Nat):Int),.bool false]):=C;refine o.al ?_;refine bR (G.L (fun bV=>?_));refine o.az 2 ?_;refine aV vn (x2 bb K g b D p w0 _ aI (ae.mono (by omega)) n (by omega) (fun i=>by have:=(au.f i).1;omega)) (fun c9 az bX=>?_);obtain⟨bY,cG,rfl,an,cX,aw⟩:=bX;have n:=n.N aw;have aI:=aI.N aw;have C:=C.N aw;have q:=q.a8 aw;have cH:=aw.size;have cE:=an.le;refine o.aa ?_;refine o.v1 cF ?_;refine o.v1 cF ?_;refine o.aP 2 ?_;refine bV (G.t2 (fun bZ br=>G.L (fun b0=>?_)));refine o.aa ?_;refine o.v1 cb (o.nil (b0 ?_));refine aW (fun b1=>?_) (fun b1=>?_)
   ·
    have j:=xI (D:=D) L M (by omega);refine G.t2 (fun bD bE=>G.L (fun bF=>?_));refine o.aa ?_;refine aV rZ (r1 bb K g b D F.size p 0 false ⟨none,0,0⟩ [] (fun _=>False) bW w0 _ n aI (ae.mono (by omega)) (c6) C (Z) (bp) (Rd.nil _ _ _ _) (fun b h=>h.elim) (fun k H b h=>h.elim) (fun x h=>by cases h) (fun b h=>h.elim) (fun k H b h=>h.elim) (fun x h=>by cases h) (by simp[cz,eV]) (fun b h _=>h.elim) (fun b h _=>h.elim) bt au (by simp[cz,cC,gy,eV];omega) (by simp)) (fun cI cJ b2=>?_);obtain⟨bq,cK,rfl,n,bz,C,cx,aX⟩:=b2;have a1:aT K J.size bq:=aT.L (P) bz q.size;have q:=q.aL aX (ah.app (ah.ca (P) (by intro k H;simp[H])) (ah.I (ao.q R)));have cO:=aX.size;have aa:=n.aD;refine o.al ?_;refine bF (G.L (fun bJ=>?_));refine o.aa ?_;refine o.v1 da (o.nil (bJ ?_));refine aW (fun aR=>?_) (fun aR=>?_)
    ·
     refine G.L (fun bK=>?_);refine o.aP 4 ?_;refine bK ?_;refine G.ret (bE (br (Q ?_)));exact⟨.pointer none,0,⟨none,0,0⟩,[],_,_,(fun _=>False),by rw[j];rfl,by rw[j];exact n,a1,⟨.inl ⟨rfl,rfl⟩⟩,(.inl rfl),ag.jd,⟨fun h=>absurd h (by rw[j];exact(by have A:=aR;simp only[cz,List.map_nil]at A;show(eD D p []).1≠0;omega)),fun _=>⟨rfl,rfl⟩⟩,by rw[j];rfl,Rd.nil _ _ _ _,(fun x h=>by cases h),(fun b h=>h.elim),(fun c h=>h.elim),(fun k H b h=>h.elim),(fun b h=>h.elim),q⟩
    ·
     refine G.skip (bD (G.L (fun bL=>?_)));refine o.aP 4 ?_;refine bL ?_;refine G.ret (br (Q ?_));have B:(eD D p []).1=0:=by have A:=aR;simp only[cz,List.map_nil]at A;omega
     rw[B]at j;exact⟨ptr F.size,(F.size+1),⟨none,0,0⟩,[],_,_,(fun _=>False),by rw[j];rfl,by rw[j];exact n,a1,⟨.inr ⟨_,rfl,rfl,by simp only[cz,List.map_nil]at C;rw[o1 B,o0 B]at C;exact C⟩⟩,R,cx,⟨fun _=>⟨_,rfl,rfl⟩,fun h=>absurd (by rw[j]) h⟩,by rw[j];rfl,Rd.nil _ _ _ _,(fun x h=>by cases h),(fun b h=>h.elim),(fun c h=>h.elim),(fun k H b h=>h.elim),(fun b h=>h.elim),q⟩
   ·
    refine G.skip (bZ (G.t2 (fun bM bN=>G.L (fun bO=>?_))));refine o.aa ?_;refine o.v1 da (o.nil (bO ?_));refine aW (fun b3=>?_) (fun b3=>?_)
    ·
     refine G.L (fun bP=>?_);refine o.aP 4 ?_;refine bP ?_;refine G.ret (bN (Q ?_));have B:D.eQ p≠0:=by omega
     have j:=E8 (D:=D) L M (by omega) B;exact⟨.pointer none,0,⟨none,0,0⟩,[],_,_,(fun _=>False),by rw[j];rfl,by rw[j];exact n,P,⟨.inl ⟨rfl,rfl⟩⟩,(.inl rfl),ag.jd,⟨fun h=>absurd h (by rw[j];exact B),fun _=>⟨rfl,rfl⟩⟩,by rw[j];rfl,Rd.nil _ _ _ _,(fun x h=>by cases h),(fun b h=>h.elim),(fun c h=>h.elim),(fun k H b h=>h.elim),(fun b h=>h.elim),q⟩
    ·
     refine G.skip (bM (G.L (fun a0=>?_)));refine o.aa ?_;refine aV vo (xQ bY (D.ch p) w0 _ an.rd.any (by have:=nU au p;omega)) (fun cQ aC b5=>?_);obtain⟨aD,ap,rfl,N,ac,O,ab⟩:=b5;have n:=n.N ab;have aI:=aI.N ab;have C:=C.N ab;have an:=an.N ab;have q:=q.a8 ab;have cR:=ab.size;have ac:=ac.b2;have ad:=ac.b5;have am:ay (fun b=>az.size≤b∧b<aC.size) K:=ay.iv (fun b h=>h.1) (by first|exact aa|exact fun k H=>Nat.le_trans (aa k H) (by omega)|assumption);have T:ax (fun b=>az.size≤b∧b<aC.size) (F.size+1):=ax.iv (fun b h=>h.1) (by first|exact cy|exact cB|omega);have O:=fun x S=>(O x S).b2;have a7:ay (fun b=>az.size≤b∧b<aC.size) K:=ay.iv (fun b h=>h.1) (by first|exact aa|exact fun k H=>Nat.le_trans (aa k H) (by omega)|assumption);have ar:ax (fun b=>az.size≤b∧b<aC.size) (F.size+1):=ax.iv (fun b h=>h.1) (by first|exact cy|exact cB|omega);refine o.aa ?_;refine o.v1 cF ?_;refine o.v1 cF ?_;refine o.v1 cF ?_;have cA:=congrArg List.length N;simp only[cz,List.length_map]at cA;refine o.aP 3 ?_;refine a0 (G.t1 (fun aS=>G.L (fun a8=>?_)));refine o.aa ?_;refine o.v1 cb ?_;refine o.aa ?_;refine o.bp (d:=50) rfl (fun b7=>?_) (fun b7=>?_)
     ·
      refine o.az 2 ?_;refine o.ar (bf an.rd dj) ?_;refine o.ar bH ?_;refine o.O ?_;refine o.nil (a8 ?_);refine aW (fun b8=>?_) (fun b8=>?_)
      ·
       refine G.region ?_;refine o.az 2 ?_;refine aV rZ (r1 bb K g b D F.size p 0 false aD ap _ bW w0 _ n aI (ae.mono (by omega)) (c6) C (Z) (bp) ac (ad.mono (by omega)) (am) O (ad.mono (by omega)) (a7) (fun x h=>xM _ _ (by rw[←N];exact List.mem_map_of_mem h)) (by rw[N];have V:=(mw (D.ch p)).1;omega) (T) (ar) bt au (by rw[N];omega) (by omega)) (fun cS cV b9=>?_);obtain⟨ca,c_,rfl,n,ba,C,bs,aM⟩:=b9;have a2:=ay.ee (am) (ad.mono (by omega)) ba;have a_:aT K J.size ca:=aT.L (P) ba q.size;have ac:=ac.ae aM (ay.app am (ay.I T));have O:=fun x S=>(O x S).ae aM (ay.app a7 (ay.I ar));have q:=q.aL aM (ah.app (ah.ca (P) (by intro k H;simp[H])) (ah.I (ao.q R)));have dc:=aM.size;have aa:=n.aD;refine o.al ?_;refine aS (G.t2 (fun a3 a4=>G.L (fun a5=>?_)));refine o.aa ?_;refine o.v1 da (o.nil (a5 ?_));refine aW (fun ai=>?_) (fun ai=>?_)
       ·
        refine G.L (fun bu=>?_);refine o.aP 4 ?_;refine bu ?_;refine G.ret (a4 (Q ?_));have B:(eD D p (dS (D.ch p))).1≠0:=by rw[←N];omega
        have j:=mO (D:=D) L M (by omega) (by omega) (by omega);rw[if_neg B]at j;rw[N]at n;exact⟨.pointer none,0,⟨none,0,0⟩,[],_,_,(fun _=>False),by rw[j,N],by rw[j];exact n,a_,⟨.inl ⟨rfl,rfl⟩⟩,(.inl rfl),ag.jd,⟨fun h=>absurd h (by rw[j];exact B),fun _=>⟨rfl,rfl⟩⟩,by rw[j];rfl,Rd.nil _ _ _ _,(fun x h=>by cases h),(fun b h=>h.elim),(fun c h=>h.elim),(fun k H b h=>h.elim),(fun b h=>h.elim),q⟩
       ·
        try (have B:(eD D p (cz ap)).1=0:=(by omega);rw[o1 B,o0 B]at C)
        refine G.skip (a3 (G.L (fun bw=>?_)));refine o.az 2 ?_;refine o.v1 (bf ac hR) ?_;refine o.bG ?_;refine o.v1 (Y.an C.O rfl gj rfl b6) ?_;refine o.s1 (dL C 2 ([ptr b,aK p,.int .i64 ((ap.length:Nat):Int),.bool false]) (rfl) b6 (by simp) (rfl)) fun bc al=>?_;obtain⟨C,E⟩:=al;have E:=E.bB;have n:=n.ae E (dr.cons bs dr.nil);have ac:=ac.ae E (ay.I T);have O:=fun x S=>(O x S).ae E (ay.I ar);have q:=q.aL E (ah.I (ao.q R));have de:=E.size;refine o.nil (bw (G.L (fun bx=>?_)));refine o.aP 5 ?_;refine bx ?_;refine G.ret (Q ?_)
        have j:(en D p).1=0∧(en D p).2.1=dS (D.ch p):=by
         first
         |(have A:=mO (D:=D) L M (by omega) (by omega) (by omega);have B:(eD D p (dS (D.ch p))).1=0:=(by rw[←N];omega);rw[B,if_pos rfl]at A;rw[A];exact⟨rfl,rfl⟩)
         |(have A:=nR (D:=D) L M (by omega) (by omega) (by omega);rw[A];exact⟨rfl,rfl⟩)
        exact⟨ptr F.size,(F.size+1),aD,ap,_,_,_,by rw[j.1];rfl,(by first|(have A:=mO (D:=D) L M (by omega) (by omega) (by omega);rw[A];rw[N]at n;exact n)|(have A:=nR (D:=D) L M (by omega) (by omega) (by omega);rw[A];exact n)),a_,⟨.inr ⟨_,rfl,rfl,C⟩⟩,R,bs,⟨fun _=>⟨_,rfl,rfl⟩,fun h=>absurd j.1 h⟩,by rw[j.2];exact N,ac,(fun x h=>O x h),(ad.mono (by omega)),(fun c h=>by have A:=h.1;omega),(a2),(T),q⟩
      ·
       refine G.skip (aS (G.t2 (fun a9 bQ=>G.L (fun cc=>?_))));refine o.aa ?_;refine o.v1 da (o.nil (cc ?_));refine aW (fun ai=>?_) (fun ai=>?_)
       ·
        refine G.L (fun cd=>?_);refine o.aP 4 ?_;refine cd ?_;refine G.ret (bQ (Q ?_));have B:gq (D.ch p)≠0:=by omega
        have j:=xJ (D:=D) L M (by omega) B;exact⟨.pointer none,0,⟨none,0,0⟩,[],_,_,(fun _=>False),by rw[j];rfl,by rw[j];exact n,P,⟨.inl ⟨rfl,rfl⟩⟩,(.inl rfl),ag.jd,⟨fun h=>absurd h (by rw[j];exact B),fun _=>⟨rfl,rfl⟩⟩,by rw[j];rfl,Rd.nil _ _ _ _,(fun x h=>by cases h),(fun b h=>h.elim),(fun c h=>h.elim),(fun k H b h=>h.elim),(fun b h=>h.elim),q⟩
       ·
        try (have B:(eD D p (cz ap)).1=0:=(by omega);rw[o1 B,o0 B]at C)
        refine G.skip (a9 (G.L (fun cf=>?_)));refine o.az 2 ?_;refine o.v1 (bf ac hR) ?_;refine o.bG ?_;refine o.v1 (Y.an C.O rfl gj rfl b6) ?_;refine o.s1 (dL C 2 ([ptr b,aK p,.int .i64 ((ap.length:Nat):Int),.bool false]) (rfl) b6 (by simp) (rfl)) fun bc al=>?_;obtain⟨C,E⟩:=al;have E:=E.bB;have n:=n.ae E (dr.cons Z dr.nil);have ac:=ac.ae E (ay.I T);have O:=fun x S=>(O x S).ae E (ay.I ar);have q:=q.aL E (ah.I (ao.q R));have df:=E.size;refine o.nil (cf (G.L (fun bT=>?_)));refine o.aP 5 ?_;refine bT ?_;refine G.ret (Q ?_)
        have j:(en D p).1=0∧(en D p).2.1=dS (D.ch p):=by
         first
         |(have A:=mO (D:=D) L M (by omega) (by omega) (by omega);have B:(eD D p (dS (D.ch p))).1=0:=(by rw[←N];omega);rw[B,if_pos rfl]at A;rw[A];exact⟨rfl,rfl⟩)
         |(have A:=nR (D:=D) L M (by omega) (by omega) (by omega);rw[A];exact⟨rfl,rfl⟩)
        exact⟨ptr F.size,(F.size+1),aD,ap,_,_,_,by rw[j.1];rfl,(by first|(have A:=mO (D:=D) L M (by omega) (by omega) (by omega);rw[A];rw[N]at n;exact n)|(have A:=nR (D:=D) L M (by omega) (by omega) (by omega);rw[A];exact n)),P,⟨.inr ⟨_,rfl,rfl,C⟩⟩,R,Z,⟨fun _=>⟨_,rfl,rfl⟩,fun h=>absurd j.1 h⟩,by rw[j.2];exact N,ac,(fun x h=>O x h),(ad.mono (by omega)),(fun c h=>by have A:=h.1;omega),(am),(T),q⟩
     ·
      refine o.az 5 ?_;refine o.nil (a8 ?_);refine dK ?_;refine G.skip (aS (G.t2 (fun be cg=>G.L (fun cj=>?_))));refine o.aa ?_;refine o.v1 da (o.nil (cj ?_));refine aW (fun ai=>?_) (fun ai=>?_)
      ·
       refine G.L (fun bi=>?_);refine o.aP 4 ?_;refine bi ?_;refine G.ret (cg (Q ?_));have B:gq (D.ch p)≠0:=by omega
       have j:=xJ (D:=D) L M (by omega) B;exact⟨.pointer none,0,⟨none,0,0⟩,[],_,_,(fun _=>False),by rw[j];rfl,by rw[j];exact n,P,⟨.inl ⟨rfl,rfl⟩⟩,(.inl rfl),ag.jd,⟨fun h=>absurd h (by rw[j];exact B),fun _=>⟨rfl,rfl⟩⟩,by rw[j];rfl,Rd.nil _ _ _ _,(fun x h=>by cases h),(fun b h=>h.elim),(fun c h=>h.elim),(fun k H b h=>h.elim),(fun b h=>h.elim),q⟩
      ·
       try (have B:(eD D p (cz ap)).1=0:=(by omega);rw[o1 B,o0 B]at C)
       refine G.skip (be (G.seq (fun bq ck _=>G.region ?_)));refine o.az 2 ?_;refine o.v1 (bf ac hR) ?_;refine o.bG ?_;refine o.v1 (Y.an C.O rfl gj rfl b6) ?_;refine o.s1 (dL C 2 ([ptr b,aK p,.int .i64 ((ap.length:Nat):Int),.bool false]) (rfl) b6 (by simp) (rfl)) fun bc al=>?_;obtain⟨C,E⟩:=al;have E:=E.bB;have n:=n.ae E (dr.cons Z dr.nil);have ac:=ac.ae E (ay.I T);have O:=fun x S=>(O x S).ae E (ay.I ar);have q:=q.aL E (ah.I (ao.q R));have cZ:=E.size;refine o.nil (ck _ _ (G.L (fun cm=>?_)));refine o.aP 5 ?_;refine cm ?_;refine G.ret (Q ?_)
       have j:(en D p).1=0∧(en D p).2.1=dS (D.ch p):=by
        first
        |(have A:=mO (D:=D) L M (by omega) (by omega) (by omega);have B:(eD D p (dS (D.ch p))).1=0:=(by rw[←N];omega);rw[B,if_pos rfl]at A;rw[A];exact⟨rfl,rfl⟩)
        |(have A:=nR (D:=D) L M (by omega) (by omega) (by omega);rw[A];exact⟨rfl,rfl⟩)
       exact⟨ptr F.size,(F.size+1),aD,ap,_,_,_,by rw[j.1];rfl,(by first|(have A:=mO (D:=D) L M (by omega) (by omega) (by omega);rw[A];rw[N]at n;exact n)|(have A:=nR (D:=D) L M (by omega) (by omega) (by omega);rw[A];exact n)),P,⟨.inr ⟨_,rfl,rfl,C⟩⟩,R,Z,⟨fun _=>⟨_,rfl,rfl⟩,fun h=>absurd j.1 h⟩,by rw[j.2];exact N,ac,(fun x h=>O x h),(ad.mono (by omega)),(fun c h=>by have A:=h.1;omega),(am),(T),q⟩
theorem HF(bb:Int)(K:List Nat)(g:ct)(b:Nat)(D:aE)(p:aJ)(bW:Nat)(w0:World)(J:Heap)(O:bg K g J b D)(aI:dP bb J)(i:bk (fun b=>b=0) J.size)(c6:ay (fun b=>b=0) K)(P:p.length≤4294960000)(M:bA bW D)(N:bW≤80000000)(he:(en D p).1=0):
 aG Tryz.prog w0 35 #[ptr b,aK p] J (fun r d=>∃(aZ:Nat) (t:aO) (l:List (aO×Rec)) (bl:List Nat) (g2:ct) (aQ:Nat→Prop),r= .tuple #[ptr aZ,t.v,.int .i64 0]∧bg bl g2 d b (en D p).2.2∧aT K J.size bl∧Var 206 d aZ [ptr b,aK p,.int .i64 (l.length:Int),.bool false]∧U 0 J.size (aZ+1)∧ag (aZ+1) bl∧cz l=(en D p).2.1∧Rd aQ d hU 1 t.v l∧(∀x∈l,Rd aQ d a6 1 x.1.v x.2)∧bk aQ d.size∧(∀c,aQ c→J.size≤c)∧ay aQ bl∧ax aQ (aZ+1)∧W (aB K) J d):=by
 refine(HE bb K g b D p bW w0 J O aI i c6 P M N).mono ?_;rintro r d ⟨cP,Q,t,l,bl,g2,aQ,rfl,j,V,B,C,E,F,G,H,L,n,o,q,A,k⟩;obtain⟨aZ,rfl,rfl⟩:=F.1 he;exact⟨aZ,t,l,bl,g2,aQ,by rw[he];rfl,j,V,B.var.2,C,E,G,H,L,n,o,q,A,k⟩
end lH

namespace mb
open E Go.RowKit eM e7 fx fS gm gN gX hf ho hI hJ iO jg j7 j8 kr k5 lH ez eZ e0 fI fJ fQ gb eL gL gM
abbrev dN:aJ:=[106,111,117,114,110,97,108]
theorem As(aZ:Nat)(s s2:c1):dU (ptr aZ::b3 s) 1 (b3 s2)=ptr aZ::b3 s2:=by
 unfold dU;rw[cO];rw[List.drop_eq_nil_of_le (by rw[List.length_cons,cO];omega)];simp
theorem Ar(aZ:Nat)(s:c1):(ptr aZ::b3 s).length=75:=by rw[List.length_cons,cO]
theorem zx{F:Nat→Prop}{H:Heap}:fo F H m1:=⟨Rd.nil _ _ _ _,Rd.nil _ _ _ _,(fun y h=>by cases h),Rd.nil _ _ _ _,Rd.nil _ _ _ _,(fun y h=>by cases h)⟩
theorem zw:m1.m=lB:=rfl
def gZ(D:aE)(n:Nat)(br:Bool)(m:dZ)(t:bP):Int×Nat×Bool×aE×dZ:=
 if dD m t≠0 then(dD m t,n,br,D,m)
 else if(ej D dN n br (e2 t)).1≠0 then(((ej D dN n br (e2 t)).1:Int),(ej D dN n br (e2 t)).2.1,(ej D dN n br (e2 t)).2.2.1,(ej D dN n br (e2 t)).2.2.2,m)
 else(0,(ej D dN n br (e2 t)).2.1,(ej D dN n br (e2 t)).2.2.1,(ej D dN n br (e2 t)).2.2.2,m.ap t)
section
variable {D : aE} {n : Nat} {br : Bool} {m : dZ} {t : bP}
theorem do_1(h:dD m t≠0):gZ D n br m t=(dD m t,n,br,D,m):=by unfold gZ;rw[if_pos h]
theorem Cs(h:dD m t=0)(V:(ej D dN n br (e2 t)).1≠0):gZ D n br m t=(((ej D dN n br (e2 t)).1:Int),(ej D dN n br (e2 t)).2.1,(ej D dN n br (e2 t)).2.2.1,(ej D dN n br (e2 t)).2.2.2,m):=by unfold gZ;rw[if_neg (by rw[h];decide),if_pos V]
theorem r6(h:dD m t=0)(V:(ej D dN n br (e2 t)).1=0):gZ D n br m t=(0,(ej D dN n br (e2 t)).2.1,(ej D dN n br (e2 t)).2.2.1,(ej D dN n br (e2 t)).2.2.2,m.ap t):=by unfold gZ;rw[if_neg (by rw[h];decide),if_neg (by rw[V];decide)]
end
theorem xG(bb:Int)(K:List Nat)(g:ct)(b:Nat)(D:aE)(bW:Nat)(w0:World)(J:Heap)
 (d:bg K g J b D) (aI:dP bb J) (aO:bk (fun b=>b=0) J.size) (c6:ay (fun b=>b=0) K) (aQ:bA bW D) (aR:bW≤80000000) (he:(en D dN).1=0) (a1:(en D dN).2.1=[]):
 aG Tryz.prog w0 14 #[ptr b] J (fun r C=>∃x:Nat,∃aZ:Nat,∃bl:List Nat,∃g2:ct,r= .tuple #[ptr x,.int .i64 0]∧(bg bl g2 C b (en D dN).2.2)∧(aT K J.size bl)∧(Var 206 C aZ [ptr b,aK dN,.int .i64 0,.bool false])∧(U 0 J.size (aZ+1))∧(ag (aZ+1) bl)∧(Var 108 C x (ptr aZ::b3 m1))∧(U 0 J.size (x+1))∧(ag (x+1) bl)∧(af (aZ+1) (x+1))∧W (aB K) J C):=by
 refine aG.aN [ptr b] Tryz.func14 ?_;intro a8 a6;have i:W (aB K) J J:=W.refl _ _;have F:=aT.refl K J.size;have aD:=d.aD;refine G.L (fun N=>?_);refine o.aP 2 ?_;refine N (G.seq (fun bl O _=>G.region ?_));refine o.aa ?_;refine aV Bu (HF bb K g b D dN _ w0 _ d aI (aO.mono (by omega)) (c6) (by decide) aQ (aR) he) (fun bd n P=>?_);obtain⟨B,Q,M,aw,R,bm,rfl,d,aF,j,aH,aP,ad,E,ba,bq,bs,bt,bu,L⟩:=P;have S:aT K J.size aw:=aT.L (F) aF i.size;have T:U 0 J.size (B+1):=U.L (U.refl 0 _) aH i.size;have i:=i.aL L (ah.ca (F) (by intro k aS;simp[aS]));have bn:=L.size;have aD:=d.aD;have bp:=j.le;rw[a1]at ad;have aX:M.length=0:=by have:=congrArg List.length ad;simpa[cz]using this
 rw[aX]at j;refine o.aa ?_;refine o.v1 cF ?_;refine o.v1 cF ?_;refine o.v1 cF ?_;refine o.aP 3 ?_;refine O _ _ (G.t1 (fun X=>G.L (fun Z=>?_)));refine o.aa ?_;refine o.v1 ((da).fC ((fun h=>h rfl))) (o.nil (Z ?_));refine dK ?_;refine G.skip (X (G.L (fun aa=>?_)));refine o.aa ?_;refine o.v1 (Y.build (v:= .agg (ptr B::b3 m1).toArray) rfl rfl (by intro w;kernel_rfl)) ?_;refine o.aS cY fun bo am ab=>?_;obtain⟨rfl,A,q,bc,aJ⟩:=ab;have a_:am.size=n.size+1:=by rw[aJ];simp
 have ae:ag (n.size+1) aw:=ag.gG d.aD;have ai:af (B+1) (n.size+1):=af.new j.le;have ap:U 0 J.size (n.size+1):=U.new i.size;have d:=d.N q;have j:=j.N q;have E:=E.N q;have i:=i.a8 q;have a0:=q.size;have A:Var 108 am n.size ((ptr B::b3 m1)):=A;refine o.al ?_;refine aa (G.t1 (fun al=>G.L (fun an=>?_)));refine o.aa ?_;refine o.v1 (bf E hR) ?_;refine o.aa (o.nil (an ?_));refine G.aD (fun _ ar _=>?_)
 refine G.bc (fun(_:Unit)=>[(7,.pointer (some ⟨n.size,0,none⟩)),(24,Q.v),(25,.int .i64 (M.length:Int)),(26,.int .i64 0)])
  (fun(_:Unit) (H:Heap)=>(True)∧aq am H)
  (fun(_:Unit)=>0) () ⟨rfl,rfl,rfl,rfl,trivial⟩ ?_ ?_
 ·
  exact⟨trivial,W.refl _ _⟩
 intro _ a2 au a7 a3 az;obtain⟨bw,ac⟩:=au;have d:=d.N ac;have j:=j.N ac;have A:=A.N ac;have i:=i.a8 ac;have a4:=ac.size;refine G.L (fun aL=>?_);refine o.v1 bH (o.nil (aL ?_));refine G.t2 (fun _ aM=>?_);refine aW (fun aC=>?_) (fun aC=>?_)
 ·
  omega
 ·
  refine G.exit (aM (az (ar ?_)));refine al (G.L (fun aN=>?_));refine o.aP 3 ?_;refine aN ?_;refine G.ret (a6 ?_);exact⟨n.size,B,aw,R,rfl,d,S,j,T,aP,A,ap,ae,ai,i⟩
theorem oJ(bb:Int)(K:List Nat)(g:ct)(b:Nat)(D:aE)(bW aZ x n:Nat)(br:Bool)(s:c1)(t:bP)(F C:Nat→Prop)(w0:World)(J:Heap)
 (i:bg K g J b D) (aI:dP bb J) (aR:bk (fun b=>b=0) J.size) (c6:ay (fun b=>b=0) K) (j:Var 206 J aZ [ptr b,aK dN,.int .i64 (n:Int),.bool br]) (dl:ag (aZ+1) K) (bU:ax (fun b=>b=0) (aZ+1)) (d:Var 108 J x (ptr aZ::b3 s)) (aD:ag (x+1) K) (aX:af (aZ+1) (x+1)) (cr:ax (fun b=>b=0) (x+1)) (aj:∀u:Unit,fo F J s) (R:bk F J.size) (aL:ay F K) (h4:ax F (aZ+1)) (cW:ax F (x+1)) (A:eU C J t) (aC:bk C J.size) (b6:ay C K) (b8:ax C (aZ+1)) (cy:ax C (x+1)) (ok:s.m.Ok) (ae:lG t) (bV:bA bW D) (bX:bW≤80000000) (b1:n≤1000000000):
 aG Tryz.prog w0 15 #[ptr x,ep t] J (fun r L=>∃bl:List Nat,∃g2:ct,∃s2:c1,∃aQ:Nat→Prop,r= .int .i64 (gZ D n br s.m t).1∧(bg bl g2 L b (gZ D n br s.m t).2.2.2.1)∧(aT K J.size bl)∧(Var 206 L aZ [ptr b,aK dN,.int .i64 ((gZ D n br s.m t).2.1:Int),.bool (gZ D n br s.m t).2.2.1])∧(ag (aZ+1) bl)∧(Var 108 L x (ptr aZ::b3 s2))∧(ag (x+1) bl)∧(∀u:Unit,fo aQ L s2)∧(bk aQ L.size)∧(ay aQ bl)∧(ax aQ (aZ+1))∧(ax aQ (x+1))∧(s2.m=(gZ D n br s.m t).2.2.2.2)∧W (aB (K++[(aZ+1),(x+1)])) J L):=by
 refine aG.aN [ptr x,ep t] Tryz.func15 ?_;intro b9 aH;have q:W (aB (K++[(aZ+1),(x+1)])) J J:=W.refl _ _;have al:=aT.refl K J.size;have an:=i.aD;have bM:=U.refl (aZ+1) J.size;have bO:=j.lt;have bN:=U.refl (x+1) J.size;have aw:=d.lt;have bZ:=ae.lT;refine G.L (fun bt=>?_);refine o.aS cY ?_;rintro v3 aM ⟨rfl,B,am,a9,bu⟩;have cd:aM.size=J.size+1:=by rw[bu];simp
 have bw:ag (J.size+1) K:=ag.gG i.aD;have bx:af (aZ+1) (J.size+1):=af.new j.lt;have i:=i.N am;have aI:=aI.N am;have j:=j.N am;have d:=d.N am;have aj:=fun u=>(aj u).N am;have A:=A.N am;have q:=q.a8 am;have cf:=am.size;have B:Var 32 aM J.size (dB t):=B;refine o.al ?_;refine bt (G.seq (fun bl bz bB=>G.t1 (fun bD=>?_)));refine G.jq 5 rfl (by kernel_rfl) (fun ca bY=>?_);refine o.az 2 ?_;refine o.v1 (Y.an d.O rfl nY rfl ev) ?_;refine o.v1 (a_ (d.O.drop 1) gY ev (cO _)) ?_;refine o.v1 (a_ B.O gz fj (dX _)) ?_;refine o.nil (bY _ ?_);refine aV Bk (p5 s t F C bb w0 _ aI (aR.mono (by omega)) (aj ()) (R.mono (by omega)) A (aC.mono (by omega)) ok ae) (fun cg cj bE=>?_);obtain⟨rfl,ac⟩:=bE;have i:=i.N ac;have aI:=aI.N ac;have j:=j.N ac;have d:=d.N ac;have aj:=fun u=>(aj u).N ac;have A:=A.N ac;have B:=B.N ac;have q:=q.a8 ac;have bT:=ac.size;refine o.al ?_;refine bD (G.L (fun bF=>?_));refine o.aa ?_;refine o.v1 da (o.nil (bF ?_));refine aW (fun ai=>?_) (fun ai=>?_)
 ·
  have ak:=do_1 (D:=D) (n:=n) (br:=br) ai;refine G.L (fun bH=>?_);refine o.aP 2 ?_;refine bH ?_;refine G.ret (bB .ret nofun _ _ (aH ?_));exact⟨K,g,s,F,by rw[ak],(by rw[ak];exact i),al,(by rw[ak];exact j),dl,d,aD,aj,(R.mono (by omega)),(aL),(h4),(cW),by rw[ak],q⟩
 ·
  have ab:dD s.m t=0:=by simpa using ai
  have b2:=sc ae ab;refine G.skip (bz _ _ (G.L (fun bJ=>?_)));refine o.v1 (a_ B.O gz fj (dX _)) ?_;refine aV vh (vN t C w0 _ A (aC.mono (by omega)) b2) (fun be ck bK=>?_);obtain⟨b5,a6,rfl,aJ,a1,ad⟩:=bK;have bL:ag a6 K:=ag.lM (ag.jd) i.aD a1;have bc:af (aZ+1) a6:=af.app (af.z) j.lt a1;have i:=i.N ad;have aI:=aI.N ad;have j:=j.N ad;have d:=d.N ad;have aj:=fun u=>(aj u).N ad;have A:=A.N ad;have B:=B.N ad;have q:=q.a8 ad;have cl:=ad.size;have cc:=aJ.le;refine o.aa ?_;refine o.v1 cF ?_;refine o.v1 cF ?_;refine o.aP 2 ?_;refine bJ (G.t2 (fun a0 a2=>G.L (fun a3=>?_)));refine o.az 2 ?_;refine o.v1 (Y.an d.O rfl nY rfl Gi) ?_;refine o.v1 (au d.O hg) ?_;refine o.aa ?_;refine aV Bv (Ht bb K g b D aZ dN n br b5 (e2 t) _ bW w0 _ i aI (aR.mono (by omega)) (c6) j (dl) (bU) aJ.rd (bk.of aJ.le) (ay.of (bL)) (ax.of (bc.symm)) bZ (by decide) bV bX b1) (fun bi P a4=>?_);have bd:=d.lt;obtain⟨Q,aN,rfl,i,ar,j,aS,M⟩:=a4;have az:ag (x+1) Q:=ag.ee (aD) bd ar;have bf:=ay.ee (aL) (R.mono q.size) ar;have aO:aT K J.size Q:=aT.L (al) ar q.size;have d:=d.ae M (ag.app aD (ag.I aX.symm));have aj:=fun u=>(aj u).ae M (ay.app aL (ay.I h4));have A:=A.ae M (ay.app b6 (ay.I b8));have B:=B.ae M (ag.app bw (ag.I bx.symm));have q:=q.aL M (ah.app (ah.ca (al) (by intro k aF;simp[aF])) (ah.I (ao.r bM)));have cm:=M.size;have an:=i.aD;refine o.al ?_;refine a3 (G.L (fun a5=>?_));refine o.aa ?_;refine o.v1 da (o.nil (a5 ?_));refine aW (fun a8=>?_) (fun a8=>?_)
  ·
   have ak:=Cs (D:=D) (n:=n) (br:=br) ab (by omega);refine G.L (fun bm=>?_);refine o.aP 2 ?_;refine bm ?_;refine G.ret (a2 (aH ?_));exact⟨Q,aN,s,F,by rw[ak],(by rw[ak];exact i),aO,(by rw[ak];exact j),aS,d,az,aj,(R.mono (by omega)),(bf),(h4),(cW),by rw[ak],q⟩
  ·
   have ak:=r6 (D:=D) (n:=n) (br:=br) ab (by omega);refine G.skip (a0 (G.t1 (fun bn=>?_)));refine dg (fun Z=>aq P Z) [7,8,9] ?_;have H:=aq.refl P;refine T.aa 0 rfl H ?_;refine T.aa 1 rfl H ?_;refine T.bG 2 rfl H ?_;refine T.t1 3 rfl (fun Z X=>Y.an (d.O.N X) rfl nY rfl ev) H ?_;refine T.t1 4 rfl (fun Z X=>a_ ((d.O.drop 1).N X) gY ev (cO _)) H ?_;refine T.t1 5 rfl (fun Z X=>a_ (B.O.N X) gz fj (dX _)) H ?_;refine T.aX 6 ?_;refine b7 Bm (zY s t F C w0 _ (aj ()) (R.mono (by omega)) A (aC.mono (by omega)) ok ab ae) (fun cn aa ba=>?_);obtain⟨a7,rfl,O,b0,N⟩:=ba;have i:=i.N N;have j:=j.N N;have d:=d.N N;have q:=q.a8 N;have cp:=N.size;have O:=O.b2;have ap:=O.b5;have bo:ay (fun b=>P.size≤b∧b<aa.size) Q:=ay.iv (fun b h=>h.1) (by first|exact an|exact fun k aF=>Nat.le_trans (an k aF) (by omega)|assumption);have bp:ax (fun b=>P.size≤b∧b<aa.size) (aZ+1):=ax.iv (fun b h=>h.1) (by first|exact cv|exact bO|omega);have aP:ax (fun b=>P.size≤b∧b<aa.size) (x+1):=ax.iv (fun b h=>h.1) (by first|exact cu|exact aw|omega);have bQ:=H.L N;refine T.cD bQ ?_;have bR:=aq.refl aa;refine T.aX 7 ?_;refine gJ rfl (Y.nilCheck rfl rfl) (.inl rfl) ?_;refine T.aX 8 ?_;refine gJ rfl (Y.an d.O rfl nY rfl ev) (.inl rfl) ?_;refine T.aX 9 ?_;refine gW rfl (S.var d (_) ((ptr aZ::b3 a7)) rfl rfl rfl rfl ((ke _)) ev (cO _) (by rw[Ar];exact Nat.le_of_ble_eq_true rfl) ((As _ _ _))) (fun cb bq=>?_);obtain⟨d,E⟩:=bq;have E:=E.bB;have i:=i.ae E (dr.cons az dr.nil);have j:=j.ae E (ag.I aX);have O:=O.ae E (ay.I aP);have q:=q.aL E (ah.I (ao.r bN));have cq:=E.size;refine⟨.inl rfl,?_⟩;refine cI ?_;have cx:=bR;refine bn (G.L (fun bs=>?_));refine o.al ?_;refine bs ?_;refine G.ret (aH ?_);exact⟨Q,aN,a7,_,by rw[ak],(by rw[ak];exact i),aO,(by rw[ak];exact j),aS,d,az,(fun _=>O),(ap.mono (by omega)),(bo),(bp),(aP),by rw[ak];exact b0,q⟩
theorem GU(aZ x:Nat)(s:c1)(F:Nat→Prop)(w0:World)(J:Heap)
 (k:Var 108 J x (ptr aZ::b3 s)) (aj:fo F J s) (Q:bk F J.size) (ok:s.m.Ok):
 aG Tryz.prog w0 17 #[ptr x] J (fun r n=>∃s2:c1,r=eR s2∧(fo (fun b=>J.size≤b) n s2)∧(s2.m=s.m)∧aq J n):=by
 refine aG.enter (args:=[ptr x]) Tryz.func17 rfl rfl rfl ?_;intro X S;have d:aq J J:=W.refl _ _;have Z:=k.lt;refine G.L (fun M=>?_);refine o.aS (dk kW) ?_;rintro v2 n ⟨rfl,j,ac,ap,N⟩;have ab:n.size=J.size+1:=by rw[N];simp
 have O:U 0 J.size (J.size+1):=U.new d.size;have k:=k.N ac;have aj:=aj.N ac;have d:=d.L ac;have ai:=ac.size;refine o.nil (M (G.L (fun P=>?_)));refine o.az 2 ?_;refine o.v1 (Y.an k.O rfl nY rfl ev) ?_;refine o.v1 (a_ (k.O.drop 1) gY ev (cO _)) ?_;refine aV rY (tO s F w0 _ aj (Q.mono (by omega)) ok) ?_;rintro aD T ⟨K,E,aQ,rfl,A,q,C,au,B,az,R,ad⟩;have aw:af (J.size+1) E:=af.app (af.z) j.lt C;have am:U 0 J.size E:=U.L (U.refl 0 _) C d.size;have j:=j.N ad;have d:=d.L ad;have an:=ad.size;have aa:=q.le;have al:ax _ (J.size+1):=ax.iv B (by first|exact aB|exact aC|omega);refine o.s1 (eh j (_) (b3 K) (ke _) ev (cO _) ((dJ (cO _).symm))) fun ae L=>?_;obtain⟨j,i⟩:=L;have i:=i.bB;have q:=q.ae i (ag.I aw.symm);have A:=A.ae i (ay.I al);have d:=d.bx i (ah.I (ao.q O));have ar:=i.size;refine o.nil (P ?_);refine G.ret (S .ret (.inr rfl) _ _ _ (kk rfl rfl j.O gY ev (cO _)) ?_);exact⟨K,rfl,(iN.st (A.imp (fun b _ e=>by have H:=B b e;omega)) (q.rd.imp (fun b _ e=>by have H:=(am);unfold U at H;omega))),R,d⟩
end mb

namespace oe
open E Go.RowKit eY fm fw fA ez eZ e0 fI fJ fQ gb eL gL gM mb h8 ob pG kZ m3 od rC rD lD pI dm
def qM(bI:dh)(on:List Bool)(t:bP):bP:={t with ml:=eb bI on t.ml}
theorem r8:∀{a b:List bu},a.map (fun x=>(x.k,x.d))=b.map (fun x=>(x.k,x.d))→hW a=hW b∧(∀l,gA l a=gA l b)∧hh a=hh b∧(a=[]↔b=[])
 |[],[],_=>⟨rfl,fun _=>rfl,rfl,Iff.rfl⟩
 |x::a,[],h=>by cases h
 |[],y::b,h=>by cases h
 |x::a,y::b,h=>by
  simp only[List.map_cons,List.cons.injEq,Prod.mk.injEq]at h;obtain⟨i,V,d,_⟩:=r8 h.2;have e:gE x=gE y:=by unfold gE;rw[h.1.1,h.1.2]
  refine⟨by rw[hW,hW,e,i],fun l=>?_,?_,by simp⟩
  ·show gA (ea l x.k.1 x.d) a=gA (ea l y.k.1 y.d) b
   rw[h.1.1,h.1.2];exact V _
  ·unfold hh at d⊢
   simp only[List.map_cons,List.sum_cons,h.1.2,d]
theorem x0{a b:c5}(h:a.p=b.p):gI a=gI b∧a.k=b.k∧a.br=b.br∧a.ba=b.ba:=
 ⟨(congrArg gI h:gI a.p=gI b.p),(congrArg (·.k) h:a.p.k=b.p.k),(congrArg (·.br) h:a.p.br=b.p.br),(congrArg (·.ba) h:a.p.ba=b.p.ba)⟩
theorem B5{a b:bP}(h:k3 a b)(m:dZ):dD m a=dD m b:=by
 obtain⟨j,V,k,n,o,q⟩:=h;obtain⟨aN,d,_,i⟩:=r8 q;obtain⟨r,x,_,_⟩:=x0 o;unfold dD ef fg gi hX;rw[j,V,k,n,aN,d,r,x];simp only[i]
theorem sh{a b:bP}(h:k3 a b)(j:hc a):hc b:=by
 obtain⟨x,V,n,A,o,i⟩:=h;obtain⟨_,_,k,_⟩:=r8 i;obtain⟨_,_,q,r⟩:=x0 o;have d:=congrArg List.length i;simp only[List.length_map]at d;unfold hc lg at j⊢;rw[←V,←q,←n,←k,←d,←r];exact j
theorem k3.symm{a b:bP}(h:k3 a b):k3 b a:=⟨h.1.symm,h.2.1.symm,h.2.2.1.symm,h.2.2.2.1.symm,h.2.2.2.2.1.symm,h.2.2.2.2.2.symm⟩
theorem EW(bI:dh)(on:List Bool)(i:Nat)(m:bn):(kg bI on i m).n=m.n∧(kg bI on i m).y=m.y∧(kg bI on i m).w=m.w:=by unfold kg;split<;>exact⟨rfl,rfl,rfl⟩
theorem EL(bI:dh)(on:List Bool)(ml:List bn):fX (eb bI on ml)=fX ml:=by
 unfold fX eb;congr 1;refine List.ext_getElem (by simp) (fun i j V=>?_);simp only[List.getElem_map,List.getElem_mapIdx];obtain⟨aN,d,_⟩:=EW bI on i (ml[i]'(by simpa using V));rw[aN,d]
theorem wa{t:bP}(bI:dh)(on:List Bool)(h:hc t):hc (qM bI on t):=by
 unfold hc lg qM at*;rw[EL]
 simpa[eb]using h
end oe

namespace pJ
open E Go.RowKit eY fm fw fA ez eZ e0
def wH(j:Nat):cw:=⟨1::UInt8.ofNat j::List.replicate 30 0,by simp⟩
def Hx(i:Nat):List UInt8:=[UInt8.ofNat (97+i%26)]
def E2(i:Nat):cw:=if i=0 then bq else wH (i-1)
def DU(i:Nat):c4:=⟨E2 i,wH i,Hx i⟩
def mF(i:Nat):List c4:=jP ((List.range i).map DU)
theorem vv{s:dZ}{t:bP}{e:Int}(d:ef t=0)(i:fg t=0)(V:e3 s.bI t.ml=e)(j:gi t=0)(k:hX s.g_ t.el=0):dD s t=e:=by
 unfold dD;rw[d,i,V,j,k];by_cases he:e=0<;>simp[he]
end pJ

namespace k1
open E Go.RowKit eM e7 fx fS gm gN gX hf ho kq k0 hI hJ
theorem DG{c m:Nat}{fs:List fP}{N st:dc}{dG:List dA}{op:Nat}{p:aJ}{w:dQ}(aC:cl p=true)(d:(w.on (aE.c_ ⟨c,m,fs,N,st,dG,op+1,0,false⟩ p) w.d.length).length≤m)(V:ij fs N+(w.on (aE.c_ ⟨c,m,fs,N,st,dG,op+1,0,false⟩ p) w.d.length).length≤c+(aE.c_ ⟨c,m,fs,N,st,dG,op+1,0,false⟩ p).length):
 aE.lay ⟨c,m,fs,N,st,dG,op,0,false⟩ p w=(0,aE.write ⟨c,m,fs,N,st,dG,op+1,0,false⟩ p w):=by
 have aA:aE.begin ⟨c,m,fs,N,st,dG,op,0,false⟩=(true,⟨c,m,fs,N,st,dG,op+1,0,false⟩):=by simp[aE.begin]
 have he:=oX (D:=⟨c,m,fs,N,st,dG,op+1,0,false⟩) aC (Nat.not_lt.2 d) (Nat.not_lt.2 V);rw[qz (by rw[aA]),aA];simp only[he,if_true]
theorem qS(b:List UInt8)(d:List UInt8):(⟨false,d⟩:dQ).on b d.length=d:=by simp[dQ.on]
theorem s7(b:List UInt8)(d:List UInt8):(⟨true,d⟩:dQ).on b d.length=b++d:=by simp[dQ.on]
end k1

namespace lE
open E Go.RowKit eM e7 fx fS gm gN gX hf ho kq k0 hI hJ k1
theorem FD{D:aE}{p:aJ}{i:Nat}{x:List UInt8}(ak:D.dead=false)(aC:cl p=true)(j:aM D.now p=some i)(k:(bY D.fs i).now=x):D.eQ p=0∧D.ch p=x:=by
 have d:D.eQ p=0:=by unfold aE.eQ;rw[ak];simp[aE.look,aC,j]
 exact⟨d,by unfold aE.ch;rw[if_pos d,tX j,k]⟩
end lE

namespace me
open E Go.RowKit eM e7 fx fS gm gN gX hf ho kq k0 hI hJ k1 lE
section
variable {H : Type} {enc : TypeId × Value → H} {P : Program} {b_ : World} {base : Nat} {sp : Nat → Bool} {held : Bool}
open Go.ChangeShapes Go.WideShapes Go.ChangeAt Go.RowKit Go.Deep
end
theorem uJ{D:aE}(h:D.dead=false)(V:D.left=0):D.begin=(true,{D with left:=D.left-1,ops:=D.ops+1}):=by
 unfold aE.begin;rw[if_neg (by rw[h];decide),if_neg (by omega)]
end me

namespace m4
open E Go.RowKit eM e7 fx fS gm gN gX hf ho kq k0 hI hJ k1 lE me
def oh(D E:aE):Prop:=E.cap=D.cap∧E.most=D.most∧E.ops=D.ops∧E.left=D.left∧E.dead=D.dead
theorem oh.rfl{D:aE}:oh D D:=⟨Eq.refl _,Eq.refl _,Eq.refl _,Eq.refl _,Eq.refl _⟩
theorem Gx(D:aE)(p:aJ)(w:dQ):oh D (D.write p w):=by
 unfold aE.write aE.make
 cases aM D.now p with
 |some i=>exact oh.rfl
 |none=>exact oh.rfl
end m4

namespace og
open E Go.RowKit eM e7 fx fS gm gN gX hf ho kq k0 hI hJ k1 lE me m4
theorem qk{fs:List fP}{i j:Nat}{x:fP}:bY (fs.set i x) j=if j=i∧i<fs.length then x else bY fs j:=by
 unfold bY;by_cases d:i<fs.length
 ·by_cases e:j=i
  ·rw[if_pos ⟨e,d⟩,e,List.getD_eq_getElem?_getD,List.getElem?_set_self d];rfl
  ·rw[if_neg (fun h=>e h.1),List.getD_eq_getElem?_getD,List.getElem?_set_ne (Ne.symm e),←List.getD_eq_getElem?_getD]
 ·rw[if_neg (fun h=>d h.2),List.set_eq_of_length_le (by omega)]
end og

namespace m8
open E Go.RowKit eM e7 fx fS gm gN gX hf ho hI hJ k1 lE me m4 og iO jg j7 j8 kr k5 lH
theorem He{a b:List UInt8}{f:UInt8→Bool}(h:∀x∈a,f x=true):(a++b).takeWhile f=a++b.takeWhile f:=by
 induction a with
 |nil=>rfl
 |cons x a ih=>rw[List.cons_append,List.takeWhile_cons,if_pos (h x List.mem_cons_self),ih (fun y hy=>h y (List.mem_cons_of_mem _ hy)),List.cons_append]
theorem De(p:aJ):mB (cu p)=mB p:=by
 unfold mB cu
 have h:((p++[46,110,101,119]).reverse.takeWhile (fun c=>decide (c≠47))).length=4+(p.reverse.takeWhile (fun c=>decide (c≠47))).length:=by
  rw[List.reverse_append,He (by decide),List.length_append];rfl
 rw[h,List.length_append,List.length_cons,List.length_cons,List.length_cons,List.length_cons,List.length_nil];rw[List.take_append_of_le_length (by omega)];congr 1;omega
theorem Cq{p:aJ}(h:cl p=true)(V:cl (cu p)=true):ck (cu p)=ck p:=by unfold ck;rw[if_pos h,if_pos V,De]
theorem An(p:aJ):blt p (cu p):=by
 unfold blt cu
 induction p with
 |nil=>decide
 |cons x p ih=>simp only[List.cons_append,Op.bytesLess];simpa using ih
theorem new_ne(p:aJ):cu p≠p:=fun e=>by have:=congrArg List.length e;rw[o9]at this;omega
theorem xq(p:aJ):¬cu p=[]:=by simp[cu]
structure One (cap most:Nat) (p:aJ) (x:List UInt8) (D:aE):Prop where
 dead:D.dead=false
 left:D.left=0
 cap:D.cap=cap
 most:D.most=most
 N:∃i,D.now=[(p,i)]∧i<D.fs.length∧(bY D.fs i).now=x
section
variable {cap most : Nat} {p : aJ} {x : List UInt8} {D : aE}
theorem One.used(h:One cap most p x D):D.used=x.length:=by
 obtain⟨i,d,_,V⟩:=h.N;unfold aE.used ij;rw[d];simp[V]
theorem One.pB(h:One cap most p x D):D.c_ p=x:=by
 obtain⟨i,d,_,V⟩:=h.N;unfold aE.c_;rw[d];simp[aM,V]
theorem One.read(h:One cap most p x D)(aC:cl p=true):D.eQ p=0∧D.ch p=x:=by
 obtain⟨i,d,_,V⟩:=h.N;exact FD h.dead aC (by rw[d];simp[aM]) V
theorem One.begin(h:One cap most p x D):D.begin=(true,D.begin.2)∧One cap most p x D.begin.2:=by
 have e:=uJ h.dead h.left;rw[e];exact⟨rfl,h.dead,by show D.left-1=0;rw[h.left],h.cap,h.most,h.N⟩
theorem One.lay(h:One cap most p x D)(aC:cl p=true)(w:dQ):
 ((D.lay p w).1=5∧most<(w.on x w.d.length).length∧One cap most p x (D.lay p w).2)∨((D.lay p w).1=12∧cap<(w.on x w.d.length).length∧One cap most p x (D.lay p w).2)∨
 ((D.lay p w).1=0∧(w.on x w.d.length).length≤cap∧One cap most p (w.on x w.d.length) (D.lay p w).2):=by
 obtain⟨aA,d⟩:=h.begin;rw[qz (by rw[aA])];by_cases j:most<(w.on x w.d.length).length
 ·rw[sy aC (by rw[d.pB,d.most];exact j)]
  exact .inl ⟨rfl,j,d⟩
 by_cases n:cap<(w.on x w.d.length).length
 ·rw[qy aC (by rw[d.pB,d.most];exact j) (by rw[d.pB,d.cap,d.used];omega)]
  exact .inr (.inl ⟨rfl,n,d⟩)
 rw[oX aC (by rw[d.pB,d.most];exact j) (by rw[d.pB,d.cap,d.used];omega)];refine .inr (.inr ⟨rfl,by omega,?_⟩);simp only[if_true];obtain⟨s1,s2,A,q,r⟩:=Gx D.begin.2 p w;obtain⟨i,aN,k,o⟩:=d.N;have hm:aM D.begin.2.now p=some i:=by rw[aN];simp[aM]
 refine⟨by rw[r];exact d.dead,by rw[q];exact d.left,by rw[s1];exact d.cap,by rw[s2];exact d.most,i,?_⟩;unfold aE.write aE.make;rw[hm];refine⟨aN,by show i<(D.begin.2.fs.set i _).length;rw[List.length_set];exact k,?_⟩;show(bY (D.begin.2.fs.set i _) i).now=_;rw[qk,if_pos ⟨rfl,k⟩,o]
theorem One.sync(h:One cap most p x D)(aC:cl p=true):(D.sync p).1=0∧One cap most p x (D.sync p).2:=by
 obtain⟨aA,d⟩:=h.begin;obtain⟨i,aN,j,k⟩:=d.N;have hm:aM D.begin.2.now p=some i:=by rw[aN];simp[aM]
 have n:D.begin.2.look p=0:=by unfold aE.look;rw[if_pos aC,hm];rfl
 rw[tH (by rw[aA]),n];refine⟨rfl,?_⟩;simp only[if_true];rw[hm];refine⟨d.dead,d.left,d.cap,d.most,i,aN,by show i<(D.begin.2.fs.set i _).length;rw[List.length_set];exact j,?_⟩;show(bY (D.begin.2.fs.set i _) i).now=_;rw[qk,if_pos ⟨rfl,j⟩];exact k
structure j6 (cap most:Nat) (p:aJ) (x:List UInt8) (D:aE):Prop where
 dead:D.dead=false
 left:D.left=0
 cap:D.cap=cap
 most:D.most=most
 N:∃k,aM D.now (cu p)=some k∧k<D.fs.length∧(bY D.fs k).now=x∧(dA.ap ⟨cu p,p,some k⟩ D.now)=[(p,k)]
theorem j6.begin(h:j6 cap most p x D):D.begin=(true,D.begin.2)∧j6 cap most p x D.begin.2:=by
 have e:=uJ h.dead h.left;rw[e];exact⟨rfl,h.dead,by show D.left-1=0;rw[h.left],h.cap,h.most,h.N⟩
theorem j6.sync(h:j6 cap most p x D)(aC:cl (cu p)=true):(D.sync (cu p)).1=0∧j6 cap most p x (D.sync (cu p)).2:=by
 obtain⟨aA,d⟩:=h.begin;obtain⟨k,aN,i,j,n⟩:=d.N;have o:D.begin.2.look (cu p)=0:=by unfold aE.look;rw[if_pos aC,aN];rfl
 rw[tH (by rw[aA]),o];refine⟨rfl,?_⟩;simp only[if_true];rw[aN];refine⟨d.dead,d.left,d.cap,d.most,k,aN,by show k<(D.begin.2.fs.set k _).length;rw[List.length_set];exact i,?_,n⟩;show(bY (D.begin.2.fs.set k _) k).now=_;rw[qk,if_pos ⟨rfl,i⟩];exact j
theorem j6.rename(h:j6 cap most p x D)(bG:cl p=true)(i:cl (cu p)=true):(D.rename (cu p) p).1=0∧One cap most p x (D.rename (cu p) p).2:=by
 obtain⟨aA,d⟩:=h.begin;obtain⟨k,aN,j,n,o⟩:=d.N;have q:D.begin.2.jX (cu p) p=0:=by rw[x4 i bG (Cq bG i)];unfold aE.look;rw[if_pos i,aN];rfl
 rw[x5 (by rw[aA]),q];refine⟨rfl,?_⟩;rw[if_pos ⟨rfl,new_ne p⟩,aN];exact⟨d.dead,d.left,d.cap,d.most,k,o,j,n⟩
theorem One.h5(h:One cap most p x D){d:aJ}(ak:iQ d=0):(D.h5 d).1=0∧One cap most p x (D.h5 d).2:=by
 obtain⟨aA,i⟩:=h.begin;rw[yr (by rw[aA]),ak];exact⟨rfl,i.dead,i.left,i.cap,i.most,i.N⟩
theorem wv{d:aE}{l:List Rec}(h:D.lay (cu p) ⟨false,cC l⟩=(0,d))(q:j6 cap most p (cC l) d)(bG:cl p=true)(i:cl (cu p)=true)(ak:iQ (ck p)=0):(eD D p l).1=0∧One cap most p (cC l) (eD D p l).2:=by
 obtain⟨cg,a2⟩:=q.sync i;obtain⟨j,k⟩:=a2.rename bG i;obtain⟨n,o⟩:=k.h5 ak;unfold eD iS;simp only[cR,h,if_true,cg,j,n];exact⟨trivial,o⟩
theorem C2{l:List Rec}(h:(D.lay (cu p) ⟨false,cC l⟩).1≠0):eD D p l=D.lay (cu p) ⟨false,cC l⟩:=by
 unfold eD iS cR;rw[if_neg h]
theorem zo{q:aJ}{k:Nat}{w:dQ}(hm:aM D.now q=none):D.write q w=({D with fs:=(D.fs++[(⟨[],[],[]⟩:fP)]).set D.fs.length ⟨w.on [] w.d.length,[],[w]⟩,now:=hE D.now q D.fs.length,log:=D.log++[⟨[],q,some D.fs.length⟩]}:aE):=by
 unfold aE.write aE.make;rw[hm];simp only[aE.change,aE.fq,dA.ap,if_true];rw[show bY (D.fs++[(⟨[],[],[]⟩:fP)]) D.fs.length=⟨[],[],[]⟩by simp[bY]];rfl
theorem One.fresh(h:One cap most p x D)(bG:cl p=true)(o:cl (cu p)=true)(ak:iQ (ck p)=0)(l:List Rec)(hm:(cC l).length≤most):
 ((eD D p l).1=12∧cap<x.length+(cC l).length∧One cap most p x (eD D p l).2)∨((eD D p l).1=0∧x.length+(cC l).length≤cap∧One cap most p (cC l) (eD D p l).2):=by
 obtain⟨aA,d⟩:=h.begin;obtain⟨i,aN,E,F⟩:=d.N;have q:aM D.begin.2.now (cu p)=none:=by rw[aN];simp[aM,new_ne]
 have hw:D.begin.2.c_ (cu p)=[]:=by unfold aE.c_;rw[q]
 have n:((⟨false,cC l⟩:dQ).on [] (cC l).length)=cC l:=qS _ _;have j:=qz (D:=D) (p:=cu p) (w:=⟨false,cC l⟩) (by rw[aA]);by_cases r:cap<x.length+(cC l).length
 ·rw[qy o (by rw[hw,d.most];simp only[n];omega) (by rw[hw,d.cap,d.used];simp only[n,List.length_nil];omega)]at j
  have C:(D.lay (cu p) ⟨false,cC l⟩).1≠0:=by rw[j];exact Nat.succ_ne_zero 11
  rw[C2 C,j];exact .inl ⟨rfl,r,d⟩
 ·rw[oX o (by rw[hw,d.most];simp only[n];omega) (by rw[hw,d.cap,d.used];simp only[n,List.length_nil];omega)]at j
  simp only[if_true]at j;refine .inr ?_
  have B:j6 cap most p (cC l) (D.begin.2.write (cu p) ⟨false,cC l⟩):=by
   rw[zo (k:=0) q];refine⟨d.dead,d.left,d.cap,d.most,D.begin.2.fs.length,?_,?_,?_,?_⟩
   ·show aM (hE _ _ _) _=_;rw[qG,if_pos rfl]
   ·simp
   ·show(bY ((_:List fP).set _ _) _).now=_
    rw[qk,if_pos ⟨rfl,by simp⟩];exact n
   ·show dA.ap _ (hE D.begin.2.now _ _)=_
    have A:¬p=cu p:=fun e=>new_ne p e.symm;rw[aN];simp[dA.ap,hE,An,eu,new_ne,mn,xq,A]
  have:=wv j B bG o ak;exact⟨this.1,by omega,this.2⟩
theorem One.start(bG:cl p=true)(d:cl (cu p)=true)(ak:iQ (ck p)=0)(hm:8≤most)(av:8≤cap):(en (aE.empty cap most) p).1=0∧(en (aE.empty cap most) p).2.1=[]∧One cap most p (cC []) (en (aE.empty cap most) p).2.2:=by
 have n:(aE.empty cap most).eQ p=2:=by simp[aE.eQ,aE.empty,aE.look,bG,aM]
 have o:cC []=gy:=rfl
 have j:(aE.empty cap most).lay (cu p) ⟨false,cC []⟩=(0,aE.write ⟨cap,most,[],[],[],[],1,0,false⟩ (cu p) ⟨false,cC []⟩):=by
  unfold aE.empty;rw[DG d (by simp only[qS];exact hm) (by simp only[qS];simp[ij,aE.c_,aM];exact av)]
 have i:j6 cap most p (cC []) (aE.write ⟨cap,most,[],[],[],[],1,0,false⟩ (cu p) ⟨false,cC []⟩):=by
  rw[zo (k:=0) rfl];refine⟨rfl,rfl,rfl,rfl,0,?_,?_,?_,?_⟩
  ·show aM (hE _ _ _) _=_;rw[qG,if_pos rfl];rfl
  ·simp
  ·simp[bY,qS]
  ·simp[dA.ap,hE,eu,xq]
 have:=wv j i bG d ak;rw[xI bG d n];exact⟨this.1,rfl,this.2⟩
theorem q0{f:hS}{fs:List hS}{D:aE}(h:(f D).1=0):cR (f::fs) D=cR fs (f D).2:=by rw[cR,if_pos h]
theorem yd{f:hS}{fs:List hS}{D:aE}(h:(f D).1≠0):cR (f::fs) D=f D:=by rw[cR,if_neg h]
theorem One.FG(h:One cap most p x D)(aC:cl p=true)(n:Nat)(r:Rec)(hm:x.length+13+r.length≤most):
 ((cR (gO p n r) D).1=12∧(One cap most p x (cR (gO p n r) D).2∨One cap most p (x++iU n r) (cR (gO p n r) D).2)∧cap<x.length+13+r.length)∨((cR (gO p n r) D).1=0∧One cap most p (x++kj n r) (cR (gO p n r) D).2):=by
 have o:=oY n r;have j:∀b:List UInt8,(⟨true,[67]⟩:dQ).on b 1=b++[67]:=fun b=>by simp[dQ.on]
 unfold gO;rcases h.lay aC ⟨true,iU n r⟩with⟨_,e,_⟩|⟨aN,i,d⟩|⟨aN,i,d⟩
 ·simp only[s7,List.length_append]at e;omega
 ·simp only[s7,List.length_append]at i
  rw[yd (by rw[aN];decide)];exact .inl ⟨aN,.inl d,by omega⟩
 ·simp only[s7,List.length_append]at d i
  obtain⟨f1,f2⟩:=d.sync aC;rw[q0 aN,q0 f1];rcases f2.lay aC ⟨true,[67]⟩with⟨_,e,_⟩|⟨g1,g2,g3⟩|⟨g1,g2,g3⟩
  ·simp only[List.length_singleton,j,List.length_append]at e;omega
  ·simp only[List.length_singleton,j,List.length_append]at g2
   rw[yd (by rw[g1];decide)];exact .inl ⟨g1,.inr g3,by omega⟩
  ·simp only[List.length_singleton,j]at g3
   obtain⟨k,a7⟩:=g3.sync aC;rw[q0 g1,q0 k];refine .inr ⟨rfl,?_⟩;unfold kj;rw[←List.append_assoc];exact a7
end
end m8

namespace oj
open E Go.RowKit eM e7 fx fS gm gN gX hf ho hI hJ k1 lE me m4 og iO jg j7 j8 kr k5 lH m8
theorem xF{cap most:Nat}{p:aJ}{l:List Rec}{r:Rec}{D:aE}(h:One cap most p (cC l) D)(bG:cl p=true)(hm:(cC l).length+13+r.length≤most)(av:(cC l).length+13+r.length≤cap):(ej D p l.length false r).1=0∧(ej D p l.length false r).2.1=l.length+1∧(ej D p l.length false r).2.2.1=false∧One cap most p (cC (l++[r])) (ej D p l.length false r).2.2.2:=by
 rw[uz (xV rfl)];rcases h.FG bG l.length r hm with⟨_,_,i⟩|⟨d,V⟩
 ·omega
 ·simp only[d,if_true]
  refine⟨trivial,trivial,trivial,?_⟩;rw[sb];exact V
end oj

namespace rF
open E Go.RowKit k2 lF m7 pK n4 eM e7 fx fS gm gN gX hf ho hI hJ k1 lE me m4 og iO jg j7 j8 kr k5 lH m8 oj
theorem Aw{bW d:Nat}{D:aE}(h:bA bW D)(p:aJ)(n:Nat)(i:(D.ch p).length+8≤d):bA (bW+4*(d+20)) (gh D p n).2:=by
 unfold gh;split
 ·exact h.mono (by omega)
 ·split
  ·exact h.mono (by omega)
  ·exact(pX h p _).mono (by have:=r_ (D.ch p) n;omega)
theorem Av{bW M:Nat}{D:aE}(h:bA bW D)(p:aJ)(n:Nat)(br:Bool)(r:Rec)(i:(D.ch p).length+8≤M):bA (bW+4*(M+20)+4*(r.length+20)) (ej D p n br r).2.2.2:=by
 have d:bA (bW+4*(M+20)) (hZ D p n br).2.2:=by
  unfold hZ;split
  ·exact Aw h p n i
  ·exact h.mono (by omega)
 unfold ej;split
 ·exact d.mono (by omega)
 ·exact(oz (rL p _ r) d).mono (by simp[gO];omega)
end rF

namespace oa
open E Go.RowKit eM e7 fx fS gm gN gX hf ho hI hJ k1 lE me m4 og iO jg j7 j8 kr k5 lH m8 oj ez eZ e0 fI fJ fQ gb eL gL gM mb pJ dm
set_option maxRecDepth 100000 in
theorem qw:c3 Tryz.prog 24 52 66 96:=⟨Tryz.underlying24,_,_,rfl,rfl,rfl,rfl,rfl⟩
def mC:cw:=⟨7::List.replicate 31 0,by simp⟩
def jQ:bn:=⟨[109,97,105,110],bq,mC,[99,111,109,109,105,116]⟩
def fE(s:aO):bP:=⟨false,[],s,[jQ],false,im,dw,[]⟩
theorem nE(s:aO):ef (fE s)=0∧fg (fE s)=0∧gi (fE s)=0:=⟨by unfold ef;simp[fE],by unfold fg;simp[fE],by unfold gi;simp[fE]⟩
theorem sx(s:aO):dD lB (fE s)=0:=vv (nE s).1 (nE s).2.1 (by show e3 [] [jQ]=0;decide+kernel) (nE s).2.2 (by show hX [] []=0;decide)
theorem DC(s:aO):dD (lB.ap (fE s)) (fE s)=21:=vv (nE s).1 (nE s).2.1 (by show e3 ([jQ].foldl dH []) [jQ]=21;decide+kernel) (nE s).2.2 (by show hX [] []=0;decide)
theorem wQ(s:aO):lB.ap (fE s)=⟨[],[([109,97,105,110],mC)],[([109,97,105,110],[⟨bq,mC,[99,111,109,109,105,116]⟩])],im,[]⟩:=by
 have h:¬mC=bq:=by intro h;have d:=congrArg (fun z:cw=>z.1.getD 0 0) h;simp only[mC,bq,List.getD_cons_zero]at d;revert d;decide
 unfold dZ.ap fE;simp[dH,ig,jQ,h,gA,ea,lB,aM,jP]
theorem vO{t:bP}(d:t.bz=false)(V:t.aj=false):(e2 t).length=5+(t.ml.flatMap iD).length+(t.el.flatMap iC).length:=by
 unfold e2;rw[d,V];simp only[List.length_append,dI,Bool.false_eq_true,if_false,List.length_nil];omega
theorem Hj{t:bP}(j:t.bz=false)(V:t.aj=false)(d:t.q=im)(k:t.ak=[])(n:t.ml.length≤65535)(o:t.el.length≤65535)(i:∀m∈t.ml,m.y.length≤65535∧m.n.length≤140737488355328)(q:(t.ml.flatMap iD).length+(t.el.flatMap iC).length≤1048571):lG t:=
 ⟨n,o,fun m hm=>(i m hm).1,fun m hm=>(i m hm).2,by rw[k];simp,by rw[d];simp[im],by rw[d];simp[im],by rw[vO j V];omega⟩
theorem yQ(s:aO):lG (fE s):=Hj rfl rfl rfl rfl (Nat.le_of_ble_eq_true rfl) (Nat.le_of_ble_eq_true rfl) (fun m hm=>by rw[List.mem_singleton.1 hm];decide) (by simp only[fE,List.flatMap_cons,List.flatMap_nil,List.append_nil,nM,jQ,List.length_cons,List.length_nil];decide)
theorem F0{l:List cx}{x:aJ×cw}(h:bh l=[x]):l.length=1:=by have:=congrArg List.length h;simpa[bh]using this
theorem DR{l:List ir}{n:aJ}{k:List c4}(h:dv l=[(n,k)]):∃y:ir,l=[y]∧y.n=n∧y.l=k:=by
 match l,h with
 |[y],h=>
  simp only[dv,List.map_cons,List.map_nil,List.cons.injEq,Prod.mk.injEq,and_true]at h;exact⟨y,rfl,h.1,h.2⟩
theorem yX{F:Nat→Prop}{H:Heap}{s:aO}(h:Rd F H db 66 s.v [jQ]):eU F H (fE s):=⟨h,Rd.nil _ _ _ _,Rd.nil _ _ _ _,fun y hy=>by cases hy⟩
set_option maxHeartbeats 1600000 in
theorem DD(bb:Int)(w0:World)(J:Heap)
 (aI:dP bb J) (K:bk (fun b=>b=0) J.size):
 aG Tryz.prog w0 11 #[] J (fun r bU=>r= .bool true∧aq J bU):=by
 refine aG.aN [] Tryz.func11 ?_;intro c_ c2;have d:aq J J:=W.refl _ _;refine G.L (fun b8=>?_);refine o.al ?_;refine b8 (G.L (fun b9=>?_));refine aV u1 (qN 65536 65536 w0 _ (by decide) (by decide)) (fun dp dq ca=>?_);obtain⟨bv,cc,aM,rfl,i,bM,aP⟩:=ca;have a0:=ay.ee (ay.nil) (K.mono d.size) bM;have bz:aT [] J.size bv:=aT.L (aT.refl [] _) bM d.size;have aI:=aI.N aP;have d:=d.L aP;have dt:=aP.size;have aN:=i.aD;have bF:=bA.empty 65536 65536;have a7:=One.start (p:=dN) (cap:=65536) (most:=65536) (by decide) (by decide) (by decide) (by decide) (by decide);refine o.aa ?_;refine o.v1 cF ?_;refine o.v1 cF ?_;refine o.aP 2 ?_;refine b9 (G.t1 (fun cd=>G.L (fun cf=>?_)));refine o.aa ?_;refine o.v1 (Y.peq rfl (by kernel_rfl) (by kernel_rfl) rfl rfl) (o.nil (cf ?_));refine dK ?_;refine G.skip (cd (G.L (fun cg=>?_)));refine o.aa ?_;refine aV u4 (xG bb bv cc aM (aE.empty 65536 65536) _ w0 _ i aI (K.mono (by omega)) (a0) bF (by omega) a7.1 a7.2.1) (fun du Z cj=>?_);obtain⟨x,B,N,ck,rfl,i,bu,q,bw,cV,A,bL,cX,bE,aQ⟩:=cj;have a2:=ay.ee (a0) (K.mono d.size) bu;have bB:aT [] J.size N:=aT.L (bz) bu d.size;have a3:=ax.app (ax.z) (K.mono d.size) bw;have bD:U 0 J.size (B+1):=U.L (U.refl 0 _) bw d.size;have a4:=ax.app (ax.z) (K.mono d.size) bL;have a8:U 0 J.size (x+1):=U.L (U.refl 0 _) bL d.size;have aI:=aI.ae aQ (a0);have d:=d.bx aQ (ah.mK (bz));have dw:=aQ.size;have aN:=i.aD;have dc:=q.le;have de:=A.le;obtain⟨M,cZ,c1,bH⟩:∃M,(en (aE.empty 65536 65536) dN).2.2=M∧One 65536 65536 dN (cC []) M∧bA _ M:=⟨_,rfl,a7.2.2,uR bF dN⟩;rw[cZ]at i;refine o.aa ?_;refine o.v1 cF ?_;refine o.v1 cF ?_;refine o.aP 2 ?_;refine cg (G.t1 (fun cl=>G.L (fun cn=>?_)));refine o.aa ?_;refine o.v1 ((da).fC ((fun h=>h rfl))) ?_;refine o.az 2 ?_;refine o.ar (Y.peq rfl (by kernel_rfl) (by kernel_rfl) rfl rfl) ?_;refine o.dy ?_;refine o.nil (cn ?_);refine dK ?_;refine G.skip (cl (G.L (fun cp=>?_)));refine o.v1 (Y.build (v:=bs mC) rfl rfl (by intro w;kernel_rfl)) ?_;refine o.v1 (Y.build (v:= .agg (db jQ).toArray) rfl rfl (by intro w;kernel_rfl)) ?_;refine o.aS (cS _ ([jQ]) qw fc kC (rfl)) fun bx O cq=>?_;obtain⟨C,aa,dy,a5⟩:=cq;have dx:O.size=Z.size+1:=by rw[a5];simp
 have aC:ag (Z.size+1) N:=ag.gG i.aD;have aD:af (B+1) (Z.size+1):=af.new q.le;have aF:af (x+1) (Z.size+1):=af.new A.le;have aI:=aI.N aa;have i:=i.N aa;have q:=q.N aa;have A:=A.N aa;have d:=d.L aa;have dC:=aa.size;obtain⟨ac,rfl⟩:∃s:aO,bx=s.v:=⟨cm bx,C.bm.symm⟩;refine o.v1 (Y.build (v:=ep (fE ac)) rfl rfl (by intro w;kernel_rfl)) ?_;refine o.aS (dk pE) ?_;rintro v5 bW ⟨rfl,az,R,dG,cr⟩;have dz:bW.size=O.size+1:=by rw[cr];simp
 have bY:=(ax.new (K.mono d.size):ax _ (O.size+1));have aH:ag (O.size+1) N:=ag.gG i.aD;have aJ:af (B+1) (O.size+1):=af.new q.le;have aK:af (x+1) (O.size+1):=af.new A.le;have bZ:af (Z.size+1) (O.size+1):=af.new C.le;have b0:U 0 J.size (O.size+1):=U.new d.size;have aI:=aI.N R;have i:=i.N R;have q:=q.N R;have A:=A.N R;have C:=C.N R;have d:=d.L R;have dH:=R.size;refine o.s1 (eh az (_) (dB (fE ac)) (nv _) fj (dX _) ((dJ (dX _).symm))) fun X a9=>?_;obtain⟨az,H⟩:=a9;have H:=H.bB;have aI:=aI.ae H (ay.I bY);have i:=i.ae H (dr.cons aH dr.nil);have q:=q.ae H (ag.I aJ);have A:=A.ae H (ag.I aK);have C:=C.ae H (ag.I bZ);have d:=d.bx H (ah.I (ao.q b0));have dI:=H.size;refine o.nil (cp (G.t1 (fun ct=>?_)));refine dg (fun F=>W (aB (N++[(B+1),(x+1)])) X F) [] ?_;have j:W (aB (N++[(B+1),(x+1)])) X X:=W.refl _ _;have a_:=aT.refl N X.size;have ba:=U.refl (B+1) X.size;have bc:=U.refl (x+1) X.size;have a1:=vO (t:=fE ac) rfl rfl;have ea:(e2 (fE ac)).length≤100:=by rw[a1];simp[fE,nM,jQ]
 have ar:=xF c1 (l:=[]) (r:=e2 (fE ac)) (by decide) (by rw[a1];simp[fE,nM,jQ,cC,eV,gy]) (by rw[a1];simp[fE,nM,jQ,cC,eV,gy]);rw[List.length_nil]at ar;refine T.aa 0 rfl j ?_;refine T.t1 1 rfl (fun F L=>Y.kH (az.ae L (ag.app aH (ag.cons aJ.symm (ag.I aK.symm)))).O rfl gz fj (dX _) rfl) j ?_;refine T.aa 3 rfl j ?_;refine T.t1 4 rfl (fun F L=>Y.kH (az.ae L (ag.app aH (ag.cons aJ.symm (ag.I aK.symm)))).O rfl gz fj (dX _) rfl) j ?_;refine T.aX 2 ?_;refine b7 oE (oJ bb N ck aM M _ B x 0 false m1 (fE ac) _ _ w0 _ i aI (K.mono (by omega)) (a2) q (cV) (a3) A (cX) (bE) (a4) (fun _=>zx) (fun b (h:False)=>h.elim) (fun k Q b (h:False)=>h.elim) (fun b (h:False)=>h.elim) (fun b (h:False)=>h.elim) (yX C.rd) (bk.of C.le) (ay.of (aC)) (ax.of (aD.symm)) (ax.of (aF.symm)) rn (yQ ac) bH (by omega) (by omega)) (fun dL S cu=>?_);have b2:=C.le;obtain⟨P,cv,aR,ce,rfl,i,an,q,cW,A,cY,c8,am,c5,c6,c7,ai,ae⟩:=cu;have cB:=ay.ee (a2) (K.mono d.size) an;have cD:ag (Z.size+1) P:=ag.ee (aC) b2 an;have bT:aT [] J.size P:=aT.L (bB) an d.size;have be:aT N X.size P:=aT.L (a_) an j.size;have aI:=aI.ae ae (ay.app a2 (ay.cons a3 (ay.I a4)));have C:=C.ae ae (ag.app aC (ag.cons aD.symm (ag.I aF.symm)));have d:=d.bx ae (ah.app (ah.mK (bB)) (ah.cons (ao.q bD) (ah.I (ao.q a8))));have j:=j.aL ae (ah.app (ah.ca (a_) (by intro k Q;simp[Q])) (ah.cons (ao.r ba) (ah.I (ao.r bc))));have dM:=ae.size;have aN:=i.aD;have cE:=c5;have cG:=c6;have bi:=c7;have bJ:=r6 (D:=M) (n:=0) (br:=false) (sx ac) ar.1;rw[zw]at i q ai;rw[bJ]at i q ai;rw[ar.2.1,ar.2.2.1]at q;have c0:=Au bH dN 0 false (e2 (fE ac));have bP:dD aR.m (fE ac)=21:=by rw[ai];exact DC ac
 refine⟨.inr j,T.narrow (SH2:=fun F=>W (aB (P++[(B+1),(x+1)])) S F) (fun F L=>j.aL L (ah.app (ah.ca (be) (by intro k Q;simp[Q])) (ah.cons (ao.r ba) (ah.I (ao.r bc))))) ?_⟩;have j:W (aB (P++[(B+1),(x+1)])) S S:=W.refl _ _;have bd:=aT.refl P S.size;have bg:=U.refl (B+1) S.size;have bl:=U.refl (x+1) S.size;refine T.aX 5 ?_;refine b7 oE (oJ bb P cv aM (ej M dN 0 false (e2 (fE ac))).2.2.2 _ B x (0+1) false aR (fE ac) _ _ w0 _ i aI (K.mono (by omega)) (cB) q (cW) (a3) A (cY) (bE) (a4) c8 (am.mono (by omega)) (cE) (cG) (bi) (yX C.rd) (bk.of C.le) (ay.of (cD)) (ax.of (aD.symm)) (ax.of (aF.symm)) (by rw[ai];exact rn.ap (sx ac)) (yQ ac) c0 (by omega) (by omega)) (fun dO aS cx=>?_);obtain⟨aW,dR,cy,ci,rfl,i,b1,q,dW,A,dY,c9,b5,ei,ek,eo,bO,aL⟩:=cx;have cJ:aT P S.size aW:=aT.L (bd) b1 j.size;have d:=d.bx aL (ah.app (ah.mK (bT)) (ah.cons (ao.q bD) (ah.I (ao.q a8))));have j:=j.aL aL (ah.app (ah.ca (bd) (by intro k Q;simp[Q])) (ah.cons (ao.r bg) (ah.I (ao.r bl))));have dQ:=aL.size;have aN:=i.aD;have bK:=do_1 (D:=(ej M dN 0 false (e2 (fE ac))).2.2.2) (n:=0+1) (br:=false) (t:=fE ac) (m:=aR.m) (by rw[bP];decide);rw[bK]at i q bO;obtain⟨hm,ee⟩:∃hm,hm=bO.trans (ai.trans (wQ ac)):=⟨_,rfl⟩;refine⟨.inr j,T.narrow (SH2:=fun F=>W (aB (aW++[(B+1),(x+1)])) aS F) (fun F L=>j.aL L (ah.app (ah.ca (cJ) (by intro k Q;simp[Q])) (ah.cons (ao.r bg) (ah.I (ao.r bl))))) ?_⟩;have j:W (aB (aW++[(B+1),(x+1)])) aS aS:=W.refl _ _;refine T.t1 6 rfl (fun F L=>e5) j ?_;refine T.t1 7 rfl (fun F L=>e5) j ?_;refine cI ?_;refine ct (G.L (fun cK=>?_));refine o.aa ?_;refine aV oF (GU B x cy _ w0 _ A (c9 ()) (b5.mono (by omega)) (by rw[hm];exact(wQ ac)▸rn.ap (sx ac))) (fun dS aX cz=>?_);obtain⟨al,rfl,E,a6,bm⟩:=cz;have d:=d.L bm;have dT:=bm.size;have E:=E.b2;have b6:=E.b5;rw[hm]at a6;have ef:=F0 (congrArg dZ.bI a6);obtain⟨y,bQ,eg,c3⟩:=DR (congrArg dZ.dG a6);have ec:al.b4.length=1:=by rw[bQ];rfl
 have bN:al.b4[0].l=[⟨bq,mC,[99,111,109,109,105,116]⟩]:=by simp only[bQ];exact c3
 have ed:al.b4[0].l.length=1:=by rw[bN];rfl
 refine o.aS (dk kW) ?_;rintro er bX ⟨rfl,aw,aZ,dU,cA⟩;have dA:bX.size=aX.size+1:=by rw[cA];simp
 have cL:=(ax.new (b6.mono (by omega)):ax _ (aX.size+1));have cP:U 0 J.size (aX.size+1):=U.new d.size;have E:=E.N aZ;have d:=d.L aZ;have dV:=aZ.size;refine o.s1 (eh aw (_) (b3 al) (ke _) ev (cO _) ((dJ (cO _).symm))) fun df cQ=>?_;obtain⟨aw,ab⟩:=cQ;have ab:=ab.bB;have E:=E.ae ab (ay.I cL);have d:=d.bx ab (ah.I (ao.q cP));have dh:=ab.size;refine o.nil (cK (G.L (fun cR=>?_)));refine o.aa ?_;refine o.v1 ((cb).gD (by rw[zw,bJ])) ?_;refine o.az 2 ?_;refine o.ar ((cb).gD (by rw[bK];exact bP)) ?_;refine o.az 2 ?_;refine o.ar (Y.an aw.O rfl cH rfl h2) ?_;refine o.ar (au (aw.O.drop 1) jh) ?_;refine o.ar (bf E.r hF) ?_;refine o.ar ((cb).gD (by omega)) ?_;refine o.az 2 ?_;refine o.ar (Y.an aw.O rfl cH rfl gS) ?_;refine o.ar (au (aw.O.drop 2) hT) ?_;refine o.ar (bf E.g h6) ?_;refine o.ar ((cb).gD (by omega)) ?_;refine o.az 2 ?_;refine o.ar (Y.an aw.O rfl cH rfl gS) ?_;refine o.ar (au (aw.O.drop 2) hT) ?_;refine o.e (g:=fun ad=> .pointer (some ad)) (Y.mD E.g (0) rfl h6 iH rfl rfl (by first|rfl|omega) (by omega)) bo rfl rfl (fun di bn=>?_);refine o.ar (Y.an bn.O rfl jv rfl lq) ?_;refine o.ar (au (bn.O.drop 1) k6) ?_;refine o.ar (bf (E.n _ (List.getElem_mem _)) km) ?_;refine o.ar ((cb).gD (by omega)) ?_;refine o.az 2 ?_;refine o.ar (Y.an aw.O rfl cH rfl gS) ?_;refine o.ar (au (aw.O.drop 2) hT) ?_;refine o.e (g:=fun ad=> .pointer (some ad)) (Y.mD E.g (0) rfl h6 iH rfl rfl (by first|rfl|omega) (by omega)) bo rfl rfl (fun dj bp=>?_);refine o.ar (Y.an bp.O rfl jv rfl lq) ?_;refine o.ar (au (bp.O.drop 1) k6) ?_;refine o.e (g:=fun ad=> .pointer (some ad)) (Y.mD (E.n _ (List.getElem_mem _)) (0) rfl km mT rfl rfl (by first|rfl|omega) (by omega)) bo rfl rfl (fun dm bt=>?_);refine o.ar (Y.an bt.O rfl Hl rfl bV) ?_;refine o.ar (au bt.O.DT bR) ?_;refine o.ar ((Y.lr rfl rfl rfl).gD (by simp only[bN];rfl)) ?_;refine o.aP 2 ?_;refine cR ?_;refine G.ret (c2 ?_);exact⟨rfl,d⟩
end oa

namespace uf
open E Go.RowKit eM e7 fx fS hI iO jg j7 j8 kr k5 lH m8 oj rF ez eZ e0 fI fJ fQ gb eL gL gM mb oa pJ h8 lD pI oe eY dm
def eK(ml:List bn):List Bool:=List.replicate ml.length true
theorem E3{ml:List bn}{i:Nat}(h:i<ml.length):(eK ml).getD i false=true:=by simp[eK,List.getD_eq_getElem?_getD,h]
theorem s5(bI:dh)(on:List Bool)(ml:List bn):(eb bI on ml).length=ml.length:=by unfold eb;simp
theorem EX{bI:dh}{i:Nat}{ml:List bn}(h:i<ml.length):ht bI (eK ml) (i+1) ml=(ht bI (eK ml) i ml).set i {ml[i]with I:=gd bI ml[i].n}:=by
 rw[s4 h];unfold kg;rw[if_pos (E3 h)]
def iw(z:cw):cw:=⟨z.1.set 3 (z.1.getD 3 0+1),by rw[List.length_set];exact z.2⟩
theorem tV(a:UInt8):a+1≠a:=by
 intro h;have:=congrArg UInt8.toNat h;rw[UInt8.toNat_add]at this;have V:=a.toNat_lt;simp at this;omega
theorem Ao(z:cw):iw z≠z:=by
 intro h;have d:=congrArg (fun y:cw=>y.1.getD 3 0) h;have V:=z.2;simp only[iw]at d;rw[List.getD_eq_getElem?_getD,List.getElem?_set_self (by omega)]at d;exact tV _ d
theorem Es{bI:dh}{pre:List bn}{m:bn}{z:cw}(h:fV bI pre m=0)(j:z≠m.I):fV bI pre {m with I:=z}=21:=by
 unfold fV at h⊢;split at h
 ·cases h
 split at h
 ·cases h
 split at h
 ·cases h
 rename_i d V i;rw[if_neg d,if_neg V,if_pos (by intro e;exact j (e.symm.trans (Classical.not_not.1 i)))]
theorem xn{bI:dh}{z:cw}:∀{ml pre:List bn} {k:Nat} (d:k<ml.length),fW bI pre ml=0→z≠ml[k].I→fW bI pre (ml.set k {ml[k]with I:=z})=21
 |m::r,pre,0,d,h,i=>by
  unfold fW at h;split at h
  ·rename_i e;exact absurd h e
  rename_i e;have j:fV bI pre m=0:=Classical.not_not.1 e;show fW bI pre ({m with I:=z}::r)=21;unfold fW
  rw[Es j i,if_pos (by decide)]
 |m::r,pre,k+1,d,h,i=>by
  unfold fW at h;split at h
  ·rename_i e;exact absurd h e
  rename_i e;show fW bI pre (m::r.set k {r[k]'(by simpa using d)with I:=z})=21;unfold fW;rw[if_neg e];exact xn (by simpa using d) h i
theorem B6{m:dZ}{t:bP}{k:Nat}{z:cw}(o:k<t.ml.length)(h:dD m t=0)(q:z≠t.ml[k].I):dD m {t with ml:=t.ml.set k {t.ml[k]with I:=z}}=21:=by
 have c:=oH h
 have j:ef {t with ml:=t.ml.set k {t.ml[k]with I:=z}}=0:=by
  unfold ef;rw[if_neg];rintro⟨_,_,n,_⟩;have:=congrArg List.length n;simp only[List.length_set,List.length_nil]at this;omega
 have aN:fg {t with ml:=t.ml.set k {t.ml[k]with I:=z}}=0:=c.ak;have d:=xn o c.cN q
 have i:e3 m.bI ({t with ml:=t.ml.set k {t.ml[k]with I:=z}}:bP).ml=21:=by
  unfold e3;rw[if_pos (by show fW m.bI [] (t.ml.set k {t.ml[k]with I:=z})≠0;rw[d];decide)];exact d
 unfold dD;rw[if_neg (by rw[j];decide),if_neg (by rw[aN];decide),if_pos (by rw[i];decide)];exact i
theorem Ad{m:dZ}{t:bP}{x:bn}(ok:m.Ok)(h:dD m t=0)(d:x∈t.ml):gd (m.ap t).bI x.n=x.w:=by
 have c:=oH h;unfold gd dZ.ap;simp only;rw[sR ok.fY (sU c.cN).1 d];split
 ·rename_i e;rw[e];rfl
 ·rfl
def h7(i n:Nat)(D:aE):Prop:=(∃d:List Rec,One 2097152 2097152 dN (cC d) D∧d.length=n∧n≤i∧(cC d).length≤8+31013*i)∧bA (112+2000000*i) D
theorem h7.start:(en (aE.empty 2097152 2097152) dN).1=0∧(en (aE.empty 2097152 2097152) dN).2.1=[]∧h7 0 0 (en (aE.empty 2097152 2097152) dN).2.2:=by
 have h:=One.start (p:=dN) (cap:=2097152) (most:=2097152) (by decide) (by decide) (by decide) (by decide) (by decide);exact⟨h.1,h.2.1,⟨[],h.2.2,rfl,Nat.le_refl _,by decide⟩,(uR (bA.empty _ _) dN).mono (by omega)⟩
theorem h7.up{i n:Nat}{D:aE}(h:h7 i n D):h7 (i+1) n D:=by
 obtain⟨⟨d,j,V,o,q⟩,k⟩:=h;exact⟨⟨d,j,V,by omega,by omega⟩,k.mono (by omega)⟩
theorem h7.app{i n:Nat}{D:aE}{r:Rec}(h:h7 i n D)(C:i≤13)(E:r.length≤31000):(ej D dN n false r).1=0∧(ej D dN n false r).2.1=n+1∧(ej D dN n false r).2.2.1=false∧h7 (i+1) (n+1) (ej D dN n false r).2.2.2:=by
 obtain⟨⟨d,k,rfl,A,B⟩,o⟩:=h;have j:=xF k (r:=r) (by decide) (by omega) (by omega);have q:=(k.read (by decide)).2;have aA:=Av o dN d.length false r (M:=450000) (by rw[q];omega);refine⟨j.1,j.2.1,j.2.2.1,⟨d++[r],j.2.2.2,by simp,by omega,?_⟩,aA.mono (by omega)⟩;have e:(cC (d++[r])).length=(cC d).length+(13+r.length):=by rw[sa,sa,List.map_append,List.sum_append];simp;omega
 omega
theorem h7.gZ{i n:Nat}{D:aE}{m:dZ}{t:bP}(h:h7 i n D)(j:i≤13)(d:hc t)(ok:m.Ok):h7 (i+1) (gZ D n false m t).2.1 (gZ D n false m t).2.2.2.1∧(gZ D n false m t).2.2.1=false∧(gZ D n false m t).1=dD m t∧(gZ D n false m t).2.2.2.2=(if dD m t=0 then m.ap t else m)∧((gZ D n false m t).2.2.2.2).Ok:=by
 by_cases c:dD m t=0
 ·obtain⟨cg,a2,a3,a4⟩:=h.app (r:=e2 t) j (v_ d)
  rw[r6 c cg,if_pos c];exact⟨by rw[a2];exact a4,a3,c.symm,rfl,ok.ap c⟩
 ·rw[do_1 c,if_neg c]
  exact⟨h.up,rfl,rfl,rfl,ok⟩
theorem h7.b{i n:Nat}{D:aE}(h:h7 i n D):bA (112+2000000*i) D∧n≤i:=⟨h.2,by obtain⟨⟨j,_,_,d,_⟩,_⟩:=h;exact d⟩
end uf

namespace E
open Go.ChangeShapes Go.WideShapes Go.ChangeAt Go.RowKit Go.Deep
section
variable {H : Type} {enc : TypeId × Value → H} {P : Program} {b_ : World} {base : Nat} {sp : Nat → Bool} {held : Bool}
def m9(P:Program)(t:TypeId)(d:DataW H):Prop:=∀n∈d.weights P t,n≤reachBytes
theorem m9.of{i:List TypeId}{ds:List (DataW H)}{j:Nat}{t:TypeId}{d:DataW H}(h:(DataW.weightsEach P i ds).all (·≤reachBytes)=true)(k:i[j]?=some t)(ak:ds[j]?=some d):m9 P t d:=fun n aC=>by
 have:=List.all_eq_true.1 h _ (DataW.weights_mem_each k ak n aC)
 simpa using this
theorem yz{t e:TypeId}{n:Nat}{u:Value}{y:DataW H}{eP:List MemPlace}(he:P.underlying t=some (.slice e))(hy:DataW.trod enc P b_ base sp held n t [u]=some (y,eP)):∃s:aO,u=s.v:=by
 rcases open_slice he hy with⟨d,_⟩|⟨a,len,cap,_,_,_,_,d,_⟩
 ·simp only[List.cons.injEq,and_true]at d;exact⟨⟨none,0,0⟩,d⟩
 ·simp only[List.cons.injEq,and_true]at d;exact⟨⟨some a,len,cap⟩,d⟩
theorem FA{n m:Nat}{t e:TypeId}{cs:List Value}{y:DataW H}{eP:List MemPlace}(x:P.underlying t=some (.array n e))(he:P.underlying e=some (.int .u8))(av:P.cellsOf e=1)(C:cs.length=n)(h:DataW.trod enc P b_ base sp held m t cs=some (y,eP)):
 ∃l:List UInt8,cs=l.map (fun b=>Value.int .u8 b.toNat)∧l.length=n:=by
 obtain⟨xs,m,_,ex,hlen,B,q⟩:=DataW.trod_array x h
 have:∀i,i<n→∃b:UInt8,cs[i]?=some (.int .u8 b.toNat):=by
  intro i d;have k:=q i d;rw[av,Nat.mul_one,List.getElem?_eq_getElem (by omega)]at k;obtain⟨z,aN,A,hw⟩:=DataW.trod_int he k;obtain⟨b,rfl⟩:=y9 hw;refine⟨b,?_⟩;have o:((cs.drop i).take 1)[0]?=some (.int .u8 b.toNat):=by rw[aN];rfl
  simpa using o
 obtain⟨l,j,r⟩:=wU this;refine⟨l,?_,j⟩;apply List.ext_getElem?;intro i;by_cases d:i<n
 ·rw[r i l[i] (by simp[j,d])];simp[j,d]
 ·rw[List.getElem?_eq_none (by omega),List.getElem?_eq_none (by simp;omega)]
end
end E

namespace ue
open E Go.RowKit eY fm fw fA ez eZ e0 lD oe dm
section
variable {H : Type} {enc : TypeId × Value → H} {P : Program} {b_ : World} {base : Nat} {sp : Nat → Bool} {held : Bool}
open Go.ChangeShapes Go.WideShapes Go.ChangeAt Go.RowKit Go.Deep
theorem C1{fs:Array Field}{l:List (TypeId×Nat)}(i:fs.toList.map (fun f=>(f.type,f.offset))=l){j:Nat}{t:TypeId}{I:Nat}(h:l[j]?=some (t,I)):∃f,fs[j]?=some f∧f.type=t∧f.offset=I:=by
 rw[←i,List.getElem?_map]at h;obtain⟨f,d,V⟩:=Option.map_eq_some_iff.1 h;simp only[Prod.mk.injEq]at V;exact⟨f,by simpa using d,V.1,V.2⟩
theorem uU{d:DataW H}:∀{ds:List (DataW H)},d∈ds→Rows.uptoBulk d≤Rows.uptoBulkAll ds
 |x::ds,h=>by
  simp only[Rows.uptoBulkAll];rcases List.mem_cons.1 h with rfl|h
  ·omega
  ·have:=uU h;omega
theorem parts{fs:Array Field}{k:List (TypeId×Nat)}{t:TypeId}{n:Nat}{cs:List Value}{y:DataW H}{eP:List MemPlace}(E:P.underlying t=some (.struct fs))(B:fs.toList.map (fun f=>(f.type,f.offset))=k)(h:DataW.trod enc P b_ base sp held n t cs=some (y,eP)){j:Nat}{ty:TypeId}{I c:Nat}(C:k[j]?=some (ty,I))(av:P.cellsOf ty=c):
 ∃z q m,DataW.trod enc P b_ base sp held m ty ((cs.drop I).take c)=some (z,q)∧Rows.uptoBulk z+1≤Rows.uptoBulk y:=by
 obtain⟨xs,m,_,o,F,hlen,A⟩:=DataW.trod_struct E h;obtain⟨f,x,rfl,rfl⟩:=C1 B C;have i:=A j f x;rw[av]at i;have r:j<xs.length:=by rw[hlen];exact(Array.getElem?_eq_some_iff.1 x).1
 rw[List.getElem?_eq_getElem r]at i;simp only[Prod.mk.injEq]at o;refine⟨xs[j].1,xs[j].2,m,i,?_⟩;rw[o.1];simp only[Rows.uptoBulk];have:=uU (ds:=xs.map (·.1)) (d:=xs[j].1) (List.mem_map.2 ⟨xs[j],List.getElem_mem r,rfl⟩);omega
theorem h3{cs:List Value}(a n b:Nat)(aA:b=a+n):cs.drop a=(cs.drop a).take n++cs.drop b:=by
 subst aA
 conv=>lhs;rw[←List.take_append_drop n (cs.drop a),List.drop_drop]
theorem pn{cs:List Value}(a n:Nat)(h:cs.length=a+n):cs.drop a=(cs.drop a).take n:=(List.take_of_length_le (by simp;omega)).symm
theorem qV{t:TypeId}{m:Nat}{c:List Value}{z:DataW H}{q:List MemPlace}(u:P.underlying t=some .string)(h:DataW.trod enc P b_ base sp held m t c=some (z,q)):∃s:List UInt8,c=[aK s]∧s.length+1≤Rows.uptoBulk z:=by
 obtain⟨s,e,ex,_⟩:=DataW.trod_string u h;simp only[Prod.mk.injEq]at ex;exact⟨s.data.toList,e,by rw[ex.1];simp[Rows.uptoBulk]⟩
theorem nS{t u8:TypeId}{m:Nat}{c:List Value}{z:DataW H}{q:List MemPlace}(u:P.underlying t=some (.array 32 u8))(hu:P.underlying u8=some (.int .u8))(bw:P.cellsOf u8=1)(j:c.length=32)(h:DataW.trod enc P b_ base sp held m t c=some (z,q)):∃i:cw,c=bX i:=by
 obtain⟨k,e,d⟩:=FA u hu bw j h;exact⟨⟨k,d⟩,e⟩
theorem ta{α:Type}(f:α→List Value)(sz:Nat)(B:α→Nat)(Φ:α→Prop){t e:TypeId}{m:Nat}{c:List Value}{z:DataW H}{q:List MemPlace}(u:P.underlying t=some (.slice e))(av:P.cellsOf e=sz)(k:∀x,(f x).length=sz)(r:0<sz)
 (elem:∀n d y eP,DataW.trod enc P b_ base sp held n e d=some (y,eP)→d.length=sz→∃x,d=f x∧Φ x∧B x≤Rows.uptoBulk y) (o:c.length=1) (h:DataW.trod enc P b_ base sp held m t c=some (z,q)):
 ∃(s:aO) (l:List α),c=[s.v]∧bM b_.heap f sz s.v l∧(∀x∈l,Φ x)∧(l.map B).sum+1≤Rows.uptoBulk z:=by
 obtain⟨v,rfl⟩:=List.length_eq_one_iff.1 o;obtain⟨s,rfl⟩:=yz u h;obtain⟨l,i,V,j⟩:=pg f sz B Φ (v:=s.v) rfl u av k r elem ⟨m,h⟩;exact⟨s,l,rfl,i,V,j⟩
end
section
variable {H : Type} {enc : TypeId × Value → H} {b_ : World} {base : Nat} {sp : Nat → Bool} {held : Bool}
def qI(m:bn):Nat:=max m.n.length m.y.length
theorem CB(n:Nat)(cs:List Value)(y:DataW H)(eP:List MemPlace)(h:DataW.trod enc Tryz.prog b_ base sp held n 52 cs=some (y,eP))(J:cs.length=66):∃x:bn,cs=db x∧True∧qI x≤Rows.uptoBulk y:=by
 have aj:Tryz.prog.underlying 52=some (.struct (Tryz.prog.fieldsOf 52)):=by kernel_rfl
 have d:(Tryz.prog.fieldsOf 52).toList.map (fun f=>(f.type,f.offset))=[(9,0),(26,1),(26,33),(9,65)]:=by kernel_rfl
 obtain⟨z0,N,K,q,C⟩:=parts aj d h (j:=0) (c:=1) rfl (by kernel_rfl);obtain⟨aS,O,aa,r,E⟩:=parts aj d h (j:=1) (c:=32) rfl (by kernel_rfl);obtain⟨z2,P,L,A,F⟩:=parts aj d h (j:=2) (c:=32) rfl (by kernel_rfl);obtain⟨z3,Q,M,B,G⟩:=parts aj d h (j:=3) (c:=1) rfl (by kernel_rfl);obtain⟨s,i,w0⟩:=qV Tryz.underlying9 q;obtain⟨I,aN⟩:=nS Tryz.underlying26 Tryz.underlying5 (by kernel_rfl) (by simp;omega) r;obtain⟨w,k⟩:=nS Tryz.underlying26 Tryz.underlying5 (by kernel_rfl) (by simp;omega) A;obtain⟨x,o,R⟩:=qV Tryz.underlying9 B;refine⟨⟨s,I,w,x⟩,?_,trivial,Nat.max_le.2 ⟨by simp only;omega,by simp only;omega⟩⟩;show cs.drop 0=_;rw[h3 0 1 1 rfl,h3 1 32 33 rfl,h3 33 32 65 rfl,pn 65 1 (by omega),i,aN,k,o];rfl
theorem CD(n:Nat)(cs:List Value)(y:DataW H)(eP:List MemPlace)(h:DataW.trod enc Tryz.prog b_ base sp held n 129 cs=some (y,eP))(B:cs.length=33):∃x:fL,cs=dF x∧True∧0≤Rows.uptoBulk y:=by
 have aj:Tryz.prog.underlying 129=some (.struct (Tryz.prog.fieldsOf 129)):=by kernel_rfl
 have d:(Tryz.prog.fieldsOf 129).toList.map (fun f=>(f.type,f.offset))=[(3,0),(26,1)]:=by kernel_rfl
 obtain⟨z0,E,C,o,r⟩:=parts aj d h (j:=0) (c:=1) rfl (by kernel_rfl);obtain⟨aS,F,aa,q,A⟩:=parts aj d h (j:=1) (c:=32) rfl (by kernel_rfl);obtain⟨k,i,_,_⟩:=DataW.trod_int Tryz.underlying3 o;obtain⟨I,aN⟩:=nS Tryz.underlying26 Tryz.underlying5 (by kernel_rfl) (by simp;omega) q;refine⟨⟨k,I⟩,?_,trivial,Nat.zero_le _⟩;show cs.drop 0=_;rw[h3 0 1 1 rfl,pn 1 32 (by omega),i,aN];rfl
theorem CA(n:Nat)(cs:List Value)(y:DataW H)(eP:List MemPlace)(h:DataW.trod enc Tryz.prog b_ base sp held n 68 cs=some (y,eP))(C:cs.length=33):∃x:bu,cs=bQ x∧bM b_.heap a6 1 x.v.v x.d∧x.d.length≤Rows.uptoBulk y:=by
 have aj:Tryz.prog.underlying 68=some (.struct (Tryz.prog.fieldsOf 68)):=by kernel_rfl
 have i:(Tryz.prog.fieldsOf 68).toList.map (fun f=>(f.type,f.offset))=[(26,0),(57,32)]:=by kernel_rfl
 obtain⟨z0,F,E,r,A⟩:=parts aj i h (j:=0) (c:=32) rfl (by kernel_rfl);obtain⟨aS,q,aa,d,B⟩:=parts aj i h (j:=1) (c:=1) rfl (by kernel_rfl);obtain⟨I,k⟩:=nS Tryz.underlying26 Tryz.underlying5 (by kernel_rfl) (by simp;omega) r;obtain⟨u,aN⟩:=List.length_eq_one_iff.1 (show((cs.drop 32).take 1).length=1 by simp;omega);rw[aN]at d;obtain⟨s,rfl⟩:=yz Tryz.underlying57 d;obtain⟨l,o,V⟩:=FC rfl Tryz.underlying57 Tryz.underlying5 (by kernel_rfl) (show DataW.Trod enc Tryz.prog b_ base sp held 57 s.v aS q from⟨aa,d⟩);refine⟨⟨I,s,l⟩,?_,o,by simp only;omega⟩;show cs.drop 0=_;rw[h3 0 32 32 rfl,pn 32 1 (by omega),k,aN];rfl
theorem CC(n:Nat)(cs:List Value)(y:DataW H)(eP:List MemPlace)(h:DataW.trod enc Tryz.prog b_ base sp held n 29 cs=some (y,eP))(Y:cs.length=70):∃x:c5,cs=eC x∧bM b_.heap dF 33 x.cf.v x.ba∧x.br.length≤Rows.uptoBulk y:=by
 have aj:Tryz.prog.underlying 29=some (.struct (Tryz.prog.fieldsOf 29)):=by kernel_rfl
 have d:(Tryz.prog.fieldsOf 29).toList.map (fun f=>(f.type,f.offset))=[(3,0),(9,1),(26,2),(26,34),(27,66),(3,67),(3,68),(4,69)]:=by kernel_rfl
 obtain⟨z0,al,Z,F,P⟩:=parts aj d h (j:=0) (c:=1) rfl (by kernel_rfl);obtain⟨aS,an,aa,G,Q⟩:=parts aj d h (j:=1) (c:=1) rfl (by kernel_rfl);obtain⟨z2,au,ab,J,R⟩:=parts aj d h (j:=2) (c:=32) rfl (by kernel_rfl);obtain⟨z3,aw,ae,K,S⟩:=parts aj d h (j:=3) (c:=32) rfl (by kernel_rfl);obtain⟨z4,ay,af,L,T⟩:=parts aj d h (j:=4) (c:=1) rfl (by kernel_rfl);obtain⟨z5,az,ag,M,U⟩:=parts aj d h (j:=5) (c:=1) rfl (by kernel_rfl);obtain⟨aD,aB,ah,N,W⟩:=parts aj d h (j:=6) (c:=1) rfl (by kernel_rfl);obtain⟨aF,aC,ai,O,X⟩:=parts aj d h (j:=7) (c:=1) rfl (by kernel_rfl);obtain⟨k,i,_,_⟩:=DataW.trod_int Tryz.underlying3 F;obtain⟨s,aN,ar⟩:=qV Tryz.underlying9 G;obtain⟨cc,o⟩:=nS Tryz.underlying26 Tryz.underlying5 (by kernel_rfl) (by simp;omega) J;obtain⟨bw,q⟩:=nS Tryz.underlying26 Tryz.underlying5 (by kernel_rfl) (by simp;omega) K;obtain⟨cf,ba,r,E,_,_⟩:=ta dF 33 (fun _=>0) (fun _=>True) Tryz.underlying27 (by kernel_rfl) ix (by decide) CD (by simp;omega) L;obtain⟨dn,A,_,_⟩:=DataW.trod_int Tryz.underlying3 M;obtain⟨md,B,_,_⟩:=DataW.trod_int Tryz.underlying3 N;obtain⟨st,C,_⟩:=DataW.trod_bool Tryz.underlying4 O;refine⟨⟨k,s,cc,bw,cf,ba,dn,md,st⟩,?_,E,by simp only;omega⟩;show cs.drop 0=_;rw[h3 0 1 1 rfl,h3 1 1 2 rfl,h3 2 32 34 rfl,h3 34 32 66 rfl,h3 66 1 67 rfl,h3 67 1 68 rfl,h3 68 1 69 rfl,pn 69 1 (by omega),i,aN,o,q,r,A,B,C];rfl
def fF(x:bP):Nat:=max (max x.ak.length x.q.br.length) (max (x.ml.map qI).sum (x.el.map (·.d.length)).sum)
theorem qE{α:Type}{B:α→Nat}:∀{l:List α} {x:α},x∈l→B x≤(l.map B).sum
 |y::l,x,h=>by
  simp only[List.map_cons,List.sum_cons];rcases List.mem_cons.1 h with rfl|h
  ·omega
  ·have:=qE (B:=B) h;omega
theorem y3{x:bP}(h:fF x≤140737488355328):pL x:=by
 unfold fF at h;have d:=Nat.max_le.1 h;have V:=Nat.max_le.1 d.1;have i:=Nat.max_le.1 d.2;refine⟨V.1,V.2,fun m hm=>?_,fun y hy=>?_⟩
 ·have j:=qE (B:=qI) hm
  have k:=Nat.max_le.1 (Nat.le_trans j i.1);exact k
 ·exact Nat.le_trans (qE (B:=fun y:bu=>y.d.length) hy) i.2
theorem vH(n:Nat)(cs:List Value)(y:DataW H)(eP:List MemPlace)(h:DataW.trod enc Tryz.prog b_ base sp held n 32 cs=some (y,eP))(T:cs.length=75):∃x:bP,cs=dB x∧eU (fun _=>True) b_.heap x∧fF x≤Rows.uptoBulk y:=by
 have aj:Tryz.prog.underlying 32=some (.struct (Tryz.prog.fieldsOf 32)):=by kernel_rfl
 have d:(Tryz.prog.fieldsOf 32).toList.map (fun f=>(f.type,f.offset))=[(4,0),(9,1),(24,2),(4,3),(29,4),(30,74)]:=by kernel_rfl
 obtain⟨z0,ab,U,F,N⟩:=parts aj d h (j:=0) (c:=1) rfl (by kernel_rfl);obtain⟨aS,ae,aa,G,O⟩:=parts aj d h (j:=1) (c:=1) rfl (by kernel_rfl);obtain⟨z2,af,W,J,P⟩:=parts aj d h (j:=2) (c:=1) rfl (by kernel_rfl);obtain⟨z3,ag,X,K,Q⟩:=parts aj d h (j:=3) (c:=1) rfl (by kernel_rfl);obtain⟨z4,ah,Y,L,R⟩:=parts aj d h (j:=4) (c:=70) rfl (by kernel_rfl);obtain⟨z5,ai,Z,M,S⟩:=parts aj d h (j:=5) (c:=1) rfl (by kernel_rfl);obtain⟨bz,i,_⟩:=DataW.trod_bool Tryz.underlying4 F;obtain⟨ak,aN,ar⟩:=qV Tryz.underlying9 G;obtain⟨cN,ml,k,hm,_,al⟩:=ta db 66 qI (fun _=>True) Tryz.underlying24 (by kernel_rfl) fc (by decide) CB (by simp;omega) J;obtain⟨E,o,_⟩:=DataW.trod_bool Tryz.underlying4 K;obtain⟨q,r,C,an⟩:=CC _ _ _ _ L (by simp;omega);obtain⟨b9,el,A,he,B,au⟩:=ta bQ 33 (fun x:bu=>x.d.length) (fun x=>bM b_.heap a6 1 x.v.v x.d) Tryz.underlying30 (by kernel_rfl) di (by decide) CA (by simp;omega) M;refine⟨⟨bz,ak,cN,ml,E,q,b9,el⟩,?_,⟨hm,C,he,B⟩,Nat.max_le.2 ⟨Nat.max_le.2 ⟨by simp only;omega,by simp only;omega⟩,Nat.max_le.2 ⟨by simp only;omega,by simp only;omega⟩⟩⟩;show cs.drop 0=_;rw[h3 0 1 1 rfl,h3 1 1 2 rfl,h3 2 1 3 rfl,h3 3 1 4 rfl,h3 4 70 74 rfl,pn 74 1 (by omega),i,aN,k,o,r,A];rfl
theorem FF{v:Value}{d:DataW H}{p:List MemPlace}(j:v.cells= #[v])(h:DataW.Trod enc Tryz.prog b_ base sp held 22 v d p):∃l:List bP,bM b_.heap dB 75 v l∧(∀x∈l,eU (fun _=>True) b_.heap x)∧∀x∈l,fF x≤Rows.uptoBulk d:=by
 obtain⟨l,i,V,n⟩:=pg dB 75 fF (eU (fun _=>True) b_.heap) j Tryz.underlying22 (by kernel_rfl) dX (by decide) vH h;exact⟨l,i,V,fun x k=>by have:=qE (B:=fF) k;omega⟩
open Go.ChangeShapes Go.WideShapes Go.ChangeAt in
theorem FE{r:Reach}{i:Nat}{v:Value}{d:DataW H}{p:List MemPlace}(n:Value.okWide Tryz.prog b_ r i 32 v)(h:DataW.Trod enc Tryz.prog b_ base sp held 32 v d p):∃x:bP,v=ep x∧eU (fun _=>True) b_.heap x∧fF x≤Rows.uptoBulk d:=by
 have aj:Tryz.prog.underlying 32=some (.struct (Tryz.prog.fieldsOf 32)):=by kernel_rfl
 obtain⟨cs,rfl,o⟩:=okWide_struct aj n;obtain⟨fuel,h⟩:=h;obtain⟨_,_,_,_,k,_,_⟩:=DataW.trod_struct aj h;have av:Tryz.prog.cellsOf 32=75:=by kernel_rfl
 obtain⟨x,e,j,V⟩:=vH _ _ _ _ h (k.trans av);refine⟨x,?_,j,V⟩;show Value.agg cs= .agg _;congr 1;exact Array.ext' e
end
end ue

namespace ud
open E Go.RowKit eM ez eZ e0 fJ fQ gb eL gM mb oa h8 rB pH lD oe dm
theorem x_:∀{a b:List cx},bh a=bh b→a=b
 |[],[],_=>rfl
 |x::a,[],h=>by cases h
 |[],y::b,h=>by cases h
 |x::a,y::b,h=>by
  simp only[bh,List.map_cons,List.cons.injEq,Prod.mk.injEq]at h;have e:x=y:=by cases x;cases y;simp only at h;rw[h.1.1,h.1.2]
  rw[e,x_ (a:=a) (b:=b) h.2]
theorem GR{a b:c1}(h:a.m=b.m):oi a b:=by
 have i:a.ak=b.ak:=congrArg dZ.ak h;have V:bh a.aY=bh b.aY:=congrArg dZ.bI h;have j:dv a.b4=dv b.b4:=congrArg dZ.dG h;have d:a.q.p=b.q.p:=congrArg dZ.q h;have k:cq a.el=cq b.el:=congrArg dZ.g_ h;exact⟨i,⟨congrArg (·.k) d,congrArg (·.br) d,congrArg (·.cc) d,congrArg (·.bw) d,congrArg (·.dn) d,congrArg (·.md) d,congrArg (·.st) d,congrArg (·.ba) d⟩,x_ V,j,k⟩
end ud

namespace ub
open E Go.RowKit eM e7 fx hJ ez eZ e0 fI fJ fQ gb eL gL gM mb oa pJ dm
theorem HB(a:Int)(n:Nat)(w0:World)(J:Heap)
 (aC:1≤n∧n≤4611686018427387904) (E: -9223372036854775808≤a∧a≤9223372036854775807):
 aG Tryz.prog w0 21 #[.int .i64 a,.int .i64 (n:Int)] J (fun r k=>r= .int .i64 (f_ a n:Int)∧aq J k):=by
 refine aG.aN [.int .i64 a,.int .i64 (n:Int)] Tryz.func21 ?_;intro C j;have i:aq J J:=W.refl _ _;refine G.L (fun q=>?_);refine o.al ?_;refine q (G.L (fun ac=>?_));refine o.az 2 ?_;refine o.v1 (Y.rem rfl rfl rfl (by omega)) ?_;have F:=Int.tmod_lt_of_pos a (show(0:Int)<n by omega);have H:=Int.lt_tmod_of_pos a (show(0:Int)<n by omega);refine o.al ?_;refine ac (G.t1 (fun d=>G.L (fun ad=>?_)));refine o.aa ?_;refine o.v1 bH (o.nil (ad ?_));refine aW (fun x=>?_) (fun x=>?_)
 ·
  refine G.region ?_;refine o.az 2 ?_;refine o.v1 bD ?_;refine o.al ?_;refine d (G.L (fun A=>?_));refine o.aP 2 ?_;refine A ?_;refine G.ret (j ?_);exact⟨by rw[Hz (by omega) (by omega)],i⟩
 ·
  refine G.skip (d (G.L (fun B=>?_)));refine o.aP 2 ?_;refine B ?_;refine G.ret (j ?_);exact⟨by rw[HA (by omega) (by omega)],i⟩
theorem aa{l:List ir}{y:ir}(h:l=[y]):y∈l:=by rw[h];exact List.mem_cons_self
end ub

namespace ug
open E Go.RowKit eM e7 fx fS gm hI hJ iO jg j8 kr k5 lH m8 oj rF ez eZ e0 fI fJ fQ gb eL gL gM mb oa ub h8 rB pH kZ rD lD pI oe ud uf dm
theorem EB(m:bn):(((db m).drop 1))[3]?=some (.int .u8 (m.I.1.getD 3 0).toNat):=by
 rw[show(db m).drop 1=bX m.I++(bX m.w++[aK m.y])from rfl,List.getElem?_append_left (by rw[bC];decide)];exact nk _ 3 (by decide)
theorem EC(m:bn):db {m with I:=iw m.I}=(db m).set (1+3) (.int .u8 ((m.I.1.getD 3 0)+1).toNat):=by
 show aK m.n::(bX (iw m.I)++(bX m.w++[aK m.y]))=aK m.n::(bX m.I++(bX m.w++[aK m.y])).set 3 _;rw[List.set_append_left _ _ (by rw[bC];decide)];congr 2;simp only[bX,iw,List.map_set]
theorem Cv(a b:c1)(w0:World)(J:Heap)(h:a.m=b.m)
 (fY:bM J dE 33 a.fN.v a.aY) (d_:bM J ia 2 a.cP.v a.b4) (o:∀y∈a.b4,bM J eB 65 y.v.v y.l) (q:bM J dF 33 a.q.cf.v a.q.ba) (j:bM J bQ 33 a.b9.v a.el) (i:∀y∈a.el,bM J a6 1 y.v.v y.d) (eE:bM J dE 33 b.fN.v b.aY) (n:bM J ia 2 b.cP.v b.b4) (bS:∀y∈b.b4,bM J eB 65 y.v.v y.l) (A:bM J dF 33 b.q.cf.v b.q.ba) (k:bM J bQ 33 b.b9.v b.el) (bj:∀y∈b.el,bM J a6 1 y.v.v y.d):
 aG Tryz.prog w0 22 #[eR a,eR b] J (fun r d=>r= .bool true∧aq J d):=by
 have x:=Cw a b w0 J fY d_ o q j i eE n bS A k bj;rwa[decide_eq_true (GR h)]at x
theorem CT{t:bP}{k:Nat}{z:cw}(i:k<t.ml.length)(h:hc t):hc {t with ml:=t.ml.set k {t.ml[k]with I:=z}}:=by
 have e:fX (t.ml.set k {t.ml[k]with I:=z})=fX t.ml:=by
  unfold fX;rw[List.map_set];have d:(t.ml.map (fun m=>m.n.length+m.y.length)).set k ((t.ml.map (fun m=>m.n.length+m.y.length))[k]'(by simpa using i))=_:=List.set_getElem_self _;rw[List.getElem_map]at d;exact congrArg List.sum d
 unfold hc lg at h⊢;simp only[e,List.length_set];exact h
theorem q_(aZ B:Nat)(s:c1)(F:Nat→Prop)(w0:World)(J:Heap)
 (n:Var 108 J B (ptr aZ::b3 s)) (aj:fo F J s) (S:bk F J.size) (ok:s.m.Ok):
 aG Tryz.prog w0 17 #[ptr B] J (fun r k=>∃s2:c1,∃x:Nat→Prop,r=eR s2∧(∀u:Unit,fo x k s2)∧(bk x k.size)∧(∀b,x b→J.size≤b)∧(s2.m=s.m)∧aq J k):=by
 refine aG.enter (args:=[ptr B]) Tryz.func17 rfl rfl rfl ?_;intro ab Z;have d:aq J J:=W.refl _ _;have ac:=n.lt;refine G.L (fun O=>?_);refine o.aS (dk kW) ?_;rintro v2 k ⟨rfl,j,ad,an,P⟩;have ai:k.size=J.size+1:=by rw[P];simp
 have Q:U 0 J.size (J.size+1):=U.new d.size;have n:=n.N ad;have aj:=aj.N ad;have d:=d.L ad;have ar:=ad.size;refine o.nil (O (G.L (fun aw=>?_)));refine o.az 2 ?_;refine o.v1 (Y.an n.O rfl nY rfl ev) ?_;refine o.v1 (a_ (n.O.drop 1) gY ev (cO _)) ?_;refine aV rY (tO s F w0 _ aj (S.mono (by omega)) ok) ?_;rintro aH aa ⟨L,E,aQ,rfl,C,q,K,T,H,aB,X,A⟩;have am:af (J.size+1) E:=af.app (af.z) j.lt K;have al:U 0 J.size E:=U.L (U.refl 0 _) K d.size;have j:=j.N A;have d:=d.L A;have au:=A.size;have ae:=q.le;have M:=T;have R:ax _ (J.size+1):=ax.iv H (by first|exact aC|exact aD|omega);refine o.s1 (eh j (_) (b3 L) (ke _) ev (cO _) ((dJ (cO _).symm))) fun ap N=>?_;obtain⟨j,i⟩:=N;have i:=i.bB;have q:=q.ae i (ag.I am.symm);have C:=C.ae i (ay.I R);have d:=d.bx i (ah.I (ao.q Q));have az:=i.size;refine o.nil (aw ?_);refine G.ret (Z .ret (.inr rfl) _ _ _ (kk rfl rfl j.O gY ev (cO _)) ?_);exact⟨L,(fun b=>aQ b∨b+1=E),rfl,(fun _=>iN.st (C.imp (fun b _ e=>Or.inl e)) (q.rd.imp (fun b _ e=>Or.inr e))),(bk.dx (M.mono (by omega)) q.le),(lK (fun b e=>by have aF:=H b e;omega) (al)),X,d⟩
theorem FI(bb:Int)(v1 v2:Value)(l:List bP)(on:List Bool)(t:bP)(a3:Int)(w0:World)(J:Heap)
 (aI:dP bb J) (aM:bk (fun b=>b=0) J.size) (aD:bM J dB 75 v1 l) (al:∀t∈l,eU (fun _=>True) J t) (hw:∀t∈l,pL t) (aJ:bM J qc 1 v2 on) (ae:eU (fun _=>True) J t) (k0:pL t) (kD: -9223372036854775808≤a3∧a3≤9223372036854775807):
 aG Tryz.prog w0 3 #[v1,v2,ep t,.int .i64 a3] J (fun r gL=>r= .bool true∧aq J gL):=by
 refine aG.aN [v1,v2,ep t,.int .i64 a3] Tryz.func3 ?_;intro lk e4;have B:aq J J:=W.refl _ _;have aD:=aD.b2;have cu:=aD.b5;have al:=fun t aN=>(al t aN).b2;have dw:bk (fun b=>True∧b<J.size) J.size:=fun b h=>h.2;have aJ:=aJ.b2;have dS:=aJ.b5;have ae:=ae.b2;have c5:=ae.b5;have mx:=aD.len;refine G.L (fun f6=>?_);refine o.aS cY ?_;rintro v6 e7 ⟨rfl,ar,cG,l4,f7⟩;have f8:e7.size=J.size+1:=by rw[f7];simp
 have aI:=aI.N cG;have aD:=aD.N cG;have al:=fun t aN=>(al t aN).N cG;have aJ:=aJ.N cG;have ae:=ae.N cG;have B:=B.L cG;have l5:=cG.size;have ar:Var 32 e7 J.size (dB t):=ar;refine o.al ?_;refine f6 (G.t1 (fun f9=>G.L (fun jH=>?_)));refine aV AG (DD bb w0 _ aI (aM.mono (by omega))) (fun l6 l7 d_=>?_);obtain⟨rfl,cm⟩:=d_;have aI:=aI.N cm;have aD:=aD.N cm;have al:=fun t aN=>(al t aN).N cm;have aJ:=aJ.N cm;have ae:=ae.N cm;have ar:=ar.N cm;have B:=B.L cm;have l8:=cm.size;refine o.v1 eG (o.nil (jH ?_));refine dK ?_;refine G.skip (f9 (G.L (fun kd=>?_)));refine aV u1 (qN 2097152 2097152 w0 _ (by decide) (by decide)) (fun l9 l_ gc=>?_);obtain⟨eX,kf,cZ,rfl,E,cR,a0⟩:=gc;have eY:=ay.ee (ay.nil) (aM.mono B.size) cR;have gu:=ay.ee (ay.nil) (cu.mono B.size) cR;have gv:=ay.ee (ay.nil) (dw.mono B.size) cR;have fP:=ay.ee (ay.nil) (dS.mono B.size) cR;have fQ:=ay.ee (ay.nil) (c5.mono B.size) cR;have fR:ag (J.size+1) eX:=ag.ee (ag.nil) ar.lt cR;have fS:aT [] J.size eX:=aT.L (aT.refl [] _) cR B.size;have aI:=aI.N a0;have aD:=aD.N a0;have al:=fun t aN=>(al t aN).N a0;have aJ:=aJ.N a0;have ae:=ae.N a0;have ar:=ar.N a0;have B:=B.L a0;have fy:=a0.size;have cg:=E.aD;have kB:=bA.empty 2097152 2097152;have e5:=h7.start;refine o.aa ?_;refine o.v1 cF ?_;refine o.v1 cF ?_;refine o.aP 2 ?_;refine kd (G.t2 (fun ge kg=>G.L (fun kh=>?_)));refine o.aa ?_;refine o.v1 (Y.peq rfl (by kernel_rfl) (by kernel_rfl) rfl rfl) ?_;refine o.aa ?_;refine o.ar (a_ ar.O gz fj (dX _)) ?_;refine o.call rfl u2 rfl bo rfl rfl (v8 t w0 _ ae.m.any ae.q.any ae.e.any (fun z cX=>(ae.d z cX).any) k0) (fun ma mb ki=>?_);obtain⟨rfl,ca⟩:=ki;have aI:=aI.N ca;have aD:=aD.N ca;have al:=fun t aN=>(al t aN).N ca;have aJ:=aJ.N ca;have ae:=ae.N ca;have ar:=ar.N ca;have E:=E.N ca;have B:=B.L ca;have mc:=ca.size;refine o.ar (Y.iE rfl rfl) ?_;refine o.dy ?_;refine o.nil (kh ?_);refine aW (fun gw=>?_) (fun gw=>?_)
 ·
  refine G.L (fun kj=>?_);refine o.aa ?_;refine o.v1 (Y.qX rfl (by kernel_rfl) (by kernel_rfl) rfl rfl) ?_;refine o.al ?_;refine kj ?_;refine G.ret (kg (e4 ?_));exact⟨rfl,B⟩
 ·
  have cL:hc t:=Classical.not_not.1 gw;obtain⟨bG,mP,mQ,mR⟩:=id cL;refine G.skip (ge (G.L (fun kk=>?_)));refine o.aa ?_;refine aV u4 (xG bb eX kf cZ (aE.empty 2097152 2097152) _ w0 _ E aI (aM.mono (by omega)) (eY) kB (by omega) e5.1 e5.2.1) (fun me dA kl=>?_);have eF:=ar.lt;obtain⟨M,O,de,km,rfl,E,cx,L,cz,h9,K,cQ,ia,ig,a2⟩:=kl;have fT:=ay.ee (eY) (aM.mono B.size) cx;have fU:=ay.ee (gu) (cu.mono B.size) cx;have em:=ay.ee (gv) (dw.mono B.size) cx;have gC:=ay.ee (fP) (dS.mono B.size) cx;have jn:=ay.ee (fQ) (c5.mono B.size) cx;have b1:ag (J.size+1) de:=ag.ee (fR) eF cx;have fV:aT [] J.size de:=aT.L (fS) cx B.size;have fW:=ax.app (ax.z) (aM.mono B.size) cz;have fX:=ax.app (ax.z) (cu.mono B.size) cz;have jo:=ax.app (ax.z) (dw.mono B.size) cz;have es:=ax.app (ax.z) (dS.mono B.size) cz;have jq:=ax.app (ax.z) (c5.mono B.size) cz;have jr:af (J.size+1) (O+1):=af.app (af.z) eF cz;have fY:U 0 J.size (O+1):=U.L (U.refl 0 _) cz B.size;have fZ:=ax.app (ax.z) (aM.mono B.size) cQ;have ga:=ax.app (ax.z) (cu.mono B.size) cQ;have js:=ax.app (ax.z) (dw.mono B.size) cQ;have ex:=ax.app (ax.z) (dS.mono B.size) cQ;have jt:=ax.app (ax.z) (c5.mono B.size) cQ;have ju:af (J.size+1) (M+1):=af.app (af.z) eF cQ;have gb:U 0 J.size (M+1):=U.L (U.refl 0 _) cQ B.size;have aI:=aI.ae a2 (eY);have aD:=aD.ae a2 (gu);have al:=fun t aN=>(al t aN).ae a2 (gv);have aJ:=aJ.ae a2 (fP);have ae:=ae.ae a2 (fQ);have ar:=ar.ae a2 (fR);have B:=B.bx a2 (ah.mK (fS));have mf:=a2.size;have cg:=E.aD;have gO:=L.le;have gP:=K.le;obtain⟨dH,kz,kG⟩:∃dH,(en (aE.empty 2097152 2097152) dN).2.2=dH∧h7 0 0 dH:=⟨_,rfl,e5.2.2⟩;rw[kz]at E;refine o.aa ?_;refine o.v1 cF ?_;refine o.v1 cF ?_;refine o.aP 2 ?_;refine kk (G.t1 (fun kn=>G.L (fun iI=>?_)));refine o.aa ?_;refine o.v1 ((da).fC ((fun h=>h rfl))) (o.nil (iI ?_));refine dK ?_;refine G.skip (kn (G.t1 (fun iJ=>G.L (fun iK=>?_))));refine o.al ?_;refine iK (G.aD (fun _ iL _=>?_))
  refine G.bc (fun(ld:(Nat)×(Nat)×(aE)×(c1)×(List Nat)×(ct)×(Nat→Prop))=>match ld with|(i,n,bx,s,Q,cJ,bK)=>[(0,v1),(1,v2),(3,.int .i64 a3),(6,.pointer (some ⟨J.size,0,none⟩)),(11,ptr M),(13,.int .i64 (i:Int))])
   (fun(i,n,bx,s,Q,cJ,bK) (H:Heap)=>(i≤l.length∧i≤12)∧(bg Q cJ H cZ bx)∧(Var 206 H O [ptr cZ,aK dN,.int .i64 (n:Int),.bool false])∧(Var 108 H M (ptr O::b3 s))∧(∀u:Unit,fo bK H s)∧(bk bK H.size)∧(ay bK Q)∧(ax bK (O+1))∧(ax bK (M+1))∧(h7 i n bx)∧(s.m.Ok)∧(aT de dA.size Q)∧(U (O+1) dA.size ((O+1)))∧(U (M+1) dA.size ((M+1)))∧(ag ((O+1)) Q)∧(ag ((M+1)) Q)∧(af ((O+1)) ((M+1)))∧W (aB (de++[(O+1),(M+1)])) dA H)
   (fun(i,n,bx,s,Q,cJ,bK)=>l.length-i) (0,0,dH,m1,de,km,fun _=>False) ⟨rfl,rfl,rfl,rfl,rfl,rfl,trivial⟩ ?_ ?_
  ·
   exact⟨(by omega),E,L,K,(fun _=>zx),(fun b e=>e.elim),(fun k X b e=>e.elim),(fun b e=>e.elim),(fun b e=>e.elim),kG,rn,aT.refl _ _,U.refl _ _,U.refl _ _,h9,ia,ig,W.refl _ _⟩
  rintro⟨i,n,bx,s,Q,cJ,bK⟩ mg ko mh gf iM;obtain⟨mr,E,L,K,aj,b5,aO,bU,e6,aA,ok,dT,dI,dL,be,gS,a9,aw⟩:=ko;have dY:=ay.ee (fT) (aM.mono B.size) dT;have iN:=ay.ee (fU) (cu.mono B.size) dT;have gg:aT [] J.size Q:=aT.L (fV) dT B.size;have dZ:=ax.app (fW) (aM.mono B.size) dI;have iO:=ax.app (fX) (cu.mono B.size) dI;have gi:U 0 J.size ((O+1)):=U.L (fY) dI B.size;have ea:=ax.app (fZ) (aM.mono B.size) dL;have iP:=ax.app (ga) (cu.mono B.size) dL;have gj:U 0 J.size ((M+1)):=U.L (gb) dL B.size;have aI:=aI.ae aw (ay.app fT (ay.cons fW (ay.I fZ)));have aD:=aD.ae aw (ay.app fU (ay.cons fX (ay.I ga)));have al:=fun t aN=>(al t aN).ae aw (ay.app em (ay.cons jo (ay.I js)));have aJ:=aJ.ae aw (ay.app gC (ay.cons es (ay.I ex)));have ae:=ae.ae aw (ay.app jn (ay.cons jq (ay.I jt)));have ar:=ar.ae aw (ag.app b1 (ag.cons jr (ag.I ju)));have B:=B.bx aw (ah.app (ah.mK (fV)) (ah.cons (ao.q fY) (ah.I (ao.q gb))));have mi:=aw.size;have cg:=E.aD;have gO:=L.le;have gP:=K.le;have eI:=be;have ce:=gS;have dx:=a9;have eJ:=dT;have eM:=dI;have dR:=dL;refine G.t2 (fun iR iS=>G.L (fun iT=>?_));refine o.az 2 ?_;refine o.v1 (bf aD tQ) ?_;refine o.v1 bH ?_;refine o.aa ?_;refine o.join (d:=50) (v:= .bool (decide ((i:Int)<l.length∧(i:Int)<12))) 3 (fun e8=>?_) ?_
  ·
   refine o.bp (d:=47) rfl (fun dC=>?_) (fun dC=>?_)
   ·
    refine o.bJ ?_;refine o.ar bH ?_;refine o.O ?_;exact e8 _ (congrArg (fun b=>some (Value.bool b)) (by simp[dC])) (ai (ai (ai (bL (congrArg Value.bool (decide_eq_true dC).symm)))))
   ·
    refine o.az 3 ?_;exact e8 _ (congrArg (fun b=>some (Value.bool b)) (by simp[dC])) (ai (ai (ai (bL (congrArg Value.bool (decide_eq_false dC).symm)))))
  refine o.nil (iT ?_);refine aW (fun kp=>?_) (fun kp=>?_)
  ·
   refine G.skip (iR (G.t1 (fun gk=>G.aD (fun gl _ _=>G.L (fun iU=>?_)))));refine o.az 2 ?_;have kS:i<l.length:=by omega
   obtain⟨y,eZ⟩:∃q,q=l[i]:=⟨_,rfl⟩;have dj:y∈l:=by rw[eZ];exact List.getElem_mem kS
   have gK:=hw y dj;refine o.b1 (Y.bU aD (i) rfl tQ fj rfl rfl) fun lL iV=>?_;refine o.v1 (Y.cast (v2:=ep y) (a_ iV.O gz fj (dX _)) (by rw[eZ])) ?_;refine aV u2 (v8 y w0 _ (al y dj).m.any (al y dj).q.any (al y dj).e.any (fun z cX=>((al y dj).d z cX).any) gK) (fun lN df gs=>?_);obtain⟨rfl,bY⟩:=gs;have aI:=aI.N bY;have aD:=aD.N bY;have al:=fun t aN=>(al t aN).N bY;have aJ:=aJ.N bY;have K:=K.N bY;have E:=E.N bY;have L:=L.N bY;have aj:=fun u=>(aj u).N bY;have aw:=aw.a8 bY;have lO:=bY.size;refine o.nil (iU ?_);refine aW (fun gx=>?_) (fun gx=>?_)
   ·
    have gH:hc y:=gx;obtain⟨aa,mM,mN,mO⟩:=id gH;refine dg (fun F=>W (aB (Q++[((O+1)),((M+1))])) df F) [] ?_;have az:W (aB (Q++[((O+1)),((M+1))])) df df:=W.refl _ _;have iW:=aT.refl Q df.size;have iX:=U.refl ((O+1)) df.size;have iY:=U.refl ((M+1)) df.size;refine T.aa 0 rfl az ?_;refine T.aa 1 rfl az ?_;refine T.aa 3 rfl az ?_;refine T.aa 4 rfl az ?_;refine T.e (g:=fun ad=> .pointer (some ad)) 5 (by kernel_rfl) rfl (by kernel_rfl) (by kernel_rfl) (by kernel_rfl) (Y.bU aD (i) rfl tQ fj rfl rfl) cM rfl rfl az (fun gt iZ=>?_);refine T.t1 6 rfl (fun F A=>Y.cast (v2:=ep y) (Y.kH (iZ.ae A (ay.app iN (ay.cons iO (ay.I iP)))).O rfl gz fj (dX _) rfl) (by rw[eZ])) az ?_;refine T.aa 7 rfl az ?_;refine T.aX 2 ?_;refine b7 oF (q_ O M s _ w0 _ K (aj ()) (b5.mono (by omega)) ok) (fun V dh kq=>?_);obtain⟨di,lP,rfl,lj,lp,lM,my,bZ⟩:=kq;have aI:=aI.N bZ;have al:=fun t aN=>(al t aN).N bZ;have aJ:=aJ.N bZ;have K:=K.N bZ;have E:=E.N bZ;have L:=L.N bZ;have aj:=fun u=>(aj u).N bZ;have aw:=aw.a8 bZ;have az:=az.a8 bZ;have lR:=bZ.size;refine⟨.inr az,T.narrow (SH2:=fun F=>W (aB (Q++[((O+1)),((M+1))])) dh F) (fun F A=>az.aL A (ah.app (ah.ca (iW) (by intro k X;simp[X])) (ah.cons (ao.r iX) (ah.I (ao.r iY))))) ?_⟩;have az:W (aB (Q++[((O+1)),((M+1))])) dh dh:=W.refl _ _;have i_:=aT.refl Q dh.size;have ja:=U.refl ((O+1)) dh.size;have jb:=U.refl ((M+1)) dh.size;refine T.aX 8 ?_;refine b7 AZ (EN di y v2 on _ w0 _ (lj ()).r.any (al y dj) (dw.mono (by omega)) aJ.any (by omega) (by omega) (by omega) gK.md) (fun lS ci kr=>?_);obtain⟨et,eu,eo,ej,ef,rfl,hu,hf,eN,kP,a4⟩:=kr;have aI:=aI.N a4;have K:=K.N a4;have E:=E.N a4;have L:=L.N a4;have aj:=fun u=>(aj u).N a4;have aw:=aw.a8 a4;have az:=az.a8 a4;have lT:=a4.size;have jc:=(fun b e h=>by have aO:=eN b e;omega:ax ef (((O+1))));have jd:=(fun b e h=>by have aO:=eN b e;omega:ax ef (((M+1))));have je:=(fun k X b e h=>by have aO:=eN b e;have bU:=cg k X;omega:ay ef Q);have gG:hc {y with cN:=et,ml:=eb (bh di.aY) on y.ml,q:={y.q with cf:=eu},b9:=eo,el:=ej}:=sh (show k3 (qM (bh di.aY) on y) _ from⟨rfl,rfl,rfl,rfl,rfl,kP.symm⟩) (wa _ on gH);refine⟨.inr az,T.narrow (SH2:=fun F=>W (aB (Q++[((O+1)),((M+1))])) ci F) (fun F A=>az.aL A (ah.app (ah.ca (i_) (by intro k X;simp[X])) (ah.cons (ao.r ja) (ah.I (ao.r jb))))) ?_⟩;have az:W (aB (Q++[((O+1)),((M+1))])) ci ci:=W.refl _ _;have gm:=aT.refl Q ci.size;have gn:=U.refl ((O+1)) ci.size;have gp:=U.refl ((M+1)) ci.size;refine T.aX 9 ?_;refine b7 oE (oJ bb Q cJ cZ bx _ O M n false s {y with cN:=et,ml:=eb (bh di.aY) on y.ml,q:={y.q with cf:=eu},b9:=eo,el:=ej} bK ef w0 _ E aI (aM.mono (by omega)) (dY) L (eI) (dZ) K (ce) (dx) (ea) aj (b5.mono (by omega)) (aO) (bU) (e6) (hu ()) (hf.mono (by omega)) (je) (jc) (jd) ok (qj gG) aA.b.1 (by omega) (by have:=aA.b.2;omega)) (fun lU kt ku=>?_);obtain⟨eg,kv,j0,j3,rfl,E,fA,L,h_,K,ie,lh,gQ,k6,k8,la,kX,eP⟩:=ku;have jf:aT de dA.size eg:=aT.L (eJ) fA aw.size;have jg:aT Q ci.size eg:=aT.L (gm) fA az.size;have aw:=aw.aL eP (ah.app (ah.ca (eJ) (by intro k X;simp[X])) (ah.cons (ao.r eM) (ah.I (ao.r dR))));have az:=az.aL eP (ah.app (ah.ca (gm) (by intro k X;simp[X])) (ah.cons (ao.r gn) (ah.I (ao.r gp))));have lv:=eP.size;have cg:=E.aD;have hg:=k6;have gT:=k8;have gU:=la;obtain⟨kH,kI,mo,mz,k1⟩:=aA.gZ (m:=s.m) (by omega) gG ok;rw[kI]at L;refine⟨.inr az,T.narrow (SH2:=fun F=>W (aB (eg++[((O+1)),((M+1))])) kt F) (fun F A=>az.aL A (ah.app (ah.ca (jg) (by intro k X;simp[X])) (ah.cons (ao.r gn) (ah.I (ao.r gp))))) ?_⟩;refine cI ?_;refine gl (gk (G.region ?_));refine o.aa ?_;refine o.v1 bD ?_;refine o.al ?_;refine aR.sub (gf (i+1,(gZ bx n false s.m {y with cN:=et,ml:=eb (bh di.aY) on y.ml,q:={y.q with cf:=eu},b9:=eo,el:=ej}).2.1,(gZ bx n false s.m {y with cN:=et,ml:=eb (bh di.aY) on y.ml,q:={y.q with cf:=eu},b9:=eo,el:=ej}).2.2.2.1,j0,eg,kv,j3) _ ?_ ?_) ⟨rfl,rfl,(aF (by omega)),rfl,rfl,(aF (by omega)),trivial⟩
    ·exact⟨(by omega),E,L,K,lh,(gQ.mono (by omega)),(hg),(gT),(gU),kH,(by rw[kX];exact k1),jf,eM,dR,h_,ie,dx,aw⟩
    ·first|omega|(simp only;omega)|(simp;omega)
   ·
    refine G.skip (gl (gk (G.region ?_)));refine o.aa ?_;refine o.v1 bD ?_;refine o.al ?_;refine aR.sub (gf (i+1,n,bx,s,Q,cJ,bK) _ ?_ ?_) ⟨rfl,rfl,(aF (by omega)),rfl,rfl,(aF (by omega)),trivial⟩
    ·exact⟨(by omega),E,L,K,aj,(b5.mono (by omega)),(aO),(bU),(e6),aA.up,ok,eJ,eM,dR,eI,ce,dx,aw⟩
    ·first|omega|(simp only;omega)|(simp;omega)
  ·
   refine G.exit (iS (iM (iL ?_)));refine iJ (G.L (fun jh=>?_));refine o.aa ?_;refine aV oF (q_ O M s _ w0 _ K (aj ()) (b5.mono (by omega)) ok) (fun lV aP j4=>?_);obtain⟨P,ei,rfl,R,c7,eR,e3,cc⟩:=j4;have aI:=aI.N cc;have ae:=ae.N cc;have ar:=ar.N cc;have K:=K.N cc;have E:=E.N cc;have L:=L.N cc;have aj:=fun u=>(aj u).N cc;have B:=B.L cc;have lx:=cc.size;have gV:=(fun b e h=>by have aO:=eR b e;omega:ax ei (((O+1))));have du:=(fun b e h=>by have aO:=eR b e;omega:ax ei (((M+1))));have gX:=(fun k X b e h=>by have aO:=eR b e;have bU:=cg k X;omega:ay ei Q);refine o.aS (dk kW) fun lW j5 j6=>?_;obtain⟨rfl,Z,b0,ly,iz⟩:=j6;have lr:j5.size=aP.size+1:=by rw[iz];simp
   have g_:=(ax.new (aM.mono B.size):ax _ (aP.size+1));have ha:=(ax.new (c5.mono B.size):ax _ (aP.size+1));have cB:af (J.size+1) (aP.size+1):=af.new ar.lt;have ey:af ((M+1)) (aP.size+1):=af.new K.le;have ez:ag (aP.size+1) Q:=ag.gG E.aD;have eA:af ((O+1)) (aP.size+1):=af.new L.le;have hb:=(ax.new (b5.mono (by omega)):ax _ (aP.size+1));have hd:=(ax.new (c7.mono (by omega)):ax _ (aP.size+1));have hh:U 0 J.size (aP.size+1):=U.new B.size;have aI:=aI.N b0;have ae:=ae.N b0;have ar:=ar.N b0;have K:=K.N b0;have E:=E.N b0;have L:=L.N b0;have aj:=fun u=>(aj u).N b0;have R:=fun u=>(R u).N b0;have B:=B.L b0;have lz:=b0.size;refine o.s1 (eh Z (_) (b3 P) (ke _) ev (cO _) ((dJ (cO _).symm))) fun k_ hY=>?_;obtain⟨Z,bE⟩:=hY;have bE:=bE.bB;have aI:=aI.ae bE (ay.I g_);have ae:=ae.ae bE (ay.I ha);have ar:=ar.ae bE (ag.I cB);have K:=K.ae bE (ag.I ey);have E:=E.ae bE (dr.cons ez dr.nil);have L:=L.ae bE (ag.I eA);have aj:=fun u=>(aj u).ae bE (ay.I hb);have R:=fun u=>(R u).ae bE (ay.I hd);have B:=B.bx bE (ah.I (ao.q hh));have lA:=bE.size;refine o.nil (jh (G.L (fun iA=>?_)));refine o.v1 (a_ ar.O gz fj (dX _)) ?_;refine aV rV (tN t _ w0 _ ae (c5.mono (by omega)) (by have:=cL.2.1;omega) (by have:=cL.2.2.2;omega) (by have:=cL.2.2.1;omega) (fun z cX=>by have aO:=sW cX;have bU:=cL.1;unfold lg at bU;omega)) (fun mj a5 j7=>?_);obtain⟨ba,bq,bp,bm,an,ck,rfl,C,cr,A,cl,eS,kM,kQ,cd⟩:=j7;have bj:=ax.app (ax.z) (aM.mono B.size) cr;have fB:af ((M+1)) an:=af.app (af.z) K.le cr;have fC:ag an Q:=ag.lM (ag.jd) E.aD cr;have fD:af ((O+1)) an:=af.app (af.z) L.le cr;have dW:=ax.app (ax.z) (b5.mono (by omega)) cr;have dd:=ax.app (ax.z) (c7.mono (by omega)) cr;have hZ:af (aP.size+1) an:=af.app (af.z) Z.lt cr;have gB:U 0 J.size an:=U.L (U.refl 0 _) cr B.size;have aI:=aI.N cd;have K:=K.N cd;have E:=E.N cd;have L:=L.N cd;have aj:=fun u=>(aj u).N cd;have R:=fun u=>(R u).N cd;have Z:=Z.N cd;have B:=B.L cd;have lB:=cd.size;have hj:=C.le;have h2:=kM;have fE:=(fun k X b e h=>by have aO:=eS b e;have bU:=cg k X;omega:ay ck Q);have eB:=(fun b e h=>by have aO:=eS b e;omega:ax ck (((O+1))));have eC:=(fun b e h=>by have aO:=eS b e;omega:ax ck (((M+1))));rw[←xr (bh P.aY) (eK t.ml) t.ml]at C;refine o.aS (dk pE) fun mF j8 j9=>?_;obtain⟨rfl,N,bN,lC,iB⟩:=j9;have lu:j8.size=a5.size+1:=by rw[iB];simp
   have h3:=(ax.new (aM.mono B.size):ax _ (a5.size+1));have ec:af ((M+1)) (a5.size+1):=af.new K.le;have eD:ag (a5.size+1) Q:=ag.gG E.aD;have ee:af ((O+1)) (a5.size+1):=af.new L.le;have h4:=(ax.new (b5.mono (by omega)):ax _ (a5.size+1));have h5:=(ax.new (c7.mono (by omega)):ax _ (a5.size+1));have h6:af (aP.size+1) (a5.size+1):=af.new Z.lt;have fF:af an (a5.size+1):=af.new C.le;have dl:=(ax.new (cl.mono (by omega)):ax _ (a5.size+1));have cy:U 0 J.size (a5.size+1):=U.new B.size;have aI:=aI.N bN;have K:=K.N bN;have E:=E.N bN;have L:=L.N bN;have aj:=fun u=>(aj u).N bN;have R:=fun u=>(R u).N bN;have Z:=Z.N bN;have C:=C.N bN;have A:=fun u=>(A u).N bN;have B:=B.L bN;have lD:=bN.size;refine o.s1 (eh N (_) (dB {t with cN:=ba,q:={t.q with cf:=bq},b9:=bp,el:=bm}) (nv _) fj (dX _) ((dJ (dX _).symm))) fun fG dn=>?_;obtain⟨N,bu⟩:=dn;have bu:=bu.bB;have aI:=aI.ae bu (ay.I h3);have K:=K.ae bu (ag.I ec);have E:=E.ae bu (dr.cons eD dr.nil);have L:=L.ae bu (ag.I ee);have aj:=fun u=>(aj u).ae bu (ay.I h4);have R:=fun u=>(R u).ae bu (ay.I h5);have Z:=Z.ae bu (ag.I h6);have C:=C.ae bu (ag.I fF);have A:=fun u=>(A u).ae bu (ay.I dl);have B:=B.bx bu (ah.I (ao.q cy));have lE:=bu.size;refine o.nil (iA (G.t1 (fun iC=>G.L (fun iD=>?_))));refine o.al ?_;refine iD (G.aD (fun _ iE _=>?_))
   refine G.bc (fun(j:(Nat))=>[(3,.int .i64 a3),(11,ptr M),(14,.pointer (some ⟨aP.size,0,none⟩)),(15,.pointer (some ⟨a5.size,0,none⟩)),(16,.int .i64 (j:Int))])
    (fun(j:(Nat)) (H:Heap)=>(j≤t.ml.length)∧(aU an 52 H db 66 ba.v (ht (bh P.aY) (eK t.ml) j t.ml))∧(U an fG.size an)∧W (aB [an]) fG H)
    (fun(j:(Nat))=>t.ml.length-j) 0 ⟨rfl,rfl,rfl,rfl,rfl,trivial⟩ ?_ ?_
   ·
    exact⟨(by omega),C,U.refl _ _,W.refl _ _⟩
   intro j gy j_ mG iF iG;obtain⟨mu,C,dU,aX⟩:=j_;have eE:af ((M+1)) an:=af.app (fB) K.le dU;have fH:ag an Q:=ag.lM (fC) E.aD dU;have bv:af ((O+1)) an:=af.app (fD) L.le dU;have aI:=aI.ae aX (ay.I bj);have K:=K.ae aX (ag.I fB);have E:=E.ae aX (dr.cons fC dr.nil);have L:=L.ae aX (ag.I fD);have aj:=fun u=>(aj u).ae aX (ay.I dW);have R:=fun u=>(R u).ae aX (ay.I dd);have Z:=Z.ae aX (ag.I hZ);have A:=fun u=>(A u).ae aX (ay.I h2);have N:=N.ae aX (ag.I fF.symm);have B:=B.bx aX (ah.I (ao.q gB));have lF:=aX.size;have hj:=C.le;have fI:=dU;have mw:=mI (bh P.aY) (eK t.ml) j t.ml;refine G.t2 (fun iH ji=>G.L (fun jI=>?_));refine o.aa ?_;refine o.v1 (Y.an N.O rfl bt rfl dO) ?_;refine o.v1 (au (N.O.drop 2) dV) ?_;refine o.v1 (Y.cast (v2:= .int .i64 (t.ml.length:Int)) (bf C.rd c9) (fh (by rw[mI]))) ?_;refine o.v1 bH (o.nil (jI ?_));refine aW (fun ka=>?_) (fun ka=>?_)
   ·
    have e2:j<t.ml.length:=by omega
    obtain⟨z,e0⟩:∃q,q=t.ml[j]:=⟨_,rfl⟩;refine G.skip (iH (G.t1 (fun fb=>G.aD (fun jJ _ _=>?_))));refine dg (fun F=>aq gy F) [11,12,13] ?_;have ab:=aq.refl gy;refine T.t1 0 rfl (fun F A=>Y.an (N.O.N A) rfl bt rfl dO) ab ?_;refine T.t1 1 rfl (fun F A=>au ((N.O.drop 2).N A) dV) ab ?_;refine T.aa 2 rfl ab ?_;refine T.t1 3 rfl (fun F A=>a_ (Z.O.N A) gY ev (cO _)) ab ?_;refine T.t1 4 rfl (fun F A=>Y.an (N.O.N A) rfl bt rfl dO) ab ?_;refine T.t1 5 rfl (fun F A=>au ((N.O.drop 2).N A) dV) ab ?_;refine T.aa 6 rfl ab ?_;refine T.t1 7 rfl (fun F A=>il (C.N A) (j) c9 dp (by omega)) ab ?_;refine T.t1 8 rfl (fun F A=>Y.fieldAddr ((C.O (j:=j) (by omega)).N A) rfl cv rfl rfl bV (by decide) rfl) ab ?_;refine T.t1 9 rfl (fun F A=>Y.cast (v2:=aK z.n) (au (((C.O (j:=j) (by omega)).drop 0).N A) bR) (by rw[pa e2,e0])) ab ?_;refine T.aX 10 ?_;refine b7 p1 (pU P z.n w0 _ (R ()).r.any) (fun mH jG kb=>?_);obtain⟨rfl,dy⟩:=kb;have C:=C.N dy;have A:=fun u=>(A u).N dy;have aX:=aX.a8 dy;have lG:=dy.size;have ij:=ab.L dy;refine T.cD ij ?_;have ik:=aq.refl jG;refine T.aX 11 ?_;refine gJ rfl (il C (j) c9 dp (by omega)) (.inl rfl) ?_;refine T.aX 12 ?_;refine gJ rfl (Y.an (C.O (j:=j) (by omega)) rfl cv rfl bd) (.inl rfl) ?_;refine T.aX 13 ?_;refine gW rfl (S.qU C j 1 ({z with I:=gd (bh P.aY) z.n}:bn) (bX (gd (bh P.aY) z.n)) rfl rfl rfl rfl (jk _) bd (bC _) (by omega) (by decide) (by rw[pa e2,←e0];exact xm _ _)) (fun fd co=>?_);obtain⟨C,dQ⟩:=co;have dQ:=dQ.md;have aX:=aX.aL dQ (ah.I (ao.r fI));have lH:=dQ.size;refine⟨.inl rfl,?_⟩;refine cI ?_;have kZ:=ik;refine jJ (fb (G.region ?_));refine o.aa ?_;refine o.v1 bD ?_;refine o.al ?_;refine aR.sub (iF (j+1) _ ?_ ?_) ⟨(aF (by omega)),rfl,rfl,rfl,(aF (by omega)),trivial⟩
    ·exact⟨(by omega),by rw[EX e2,←e0];exact C,fI,aX⟩
    ·first|omega|(simp only;omega)|(simp;omega)
   ·
    obtain rfl:j=t.ml.length:=by omega
    rw[xt]at C;refine G.exit (ji (iG (iE ?_)));refine iC (G.t2 (fun jK jL=>G.L (fun jM=>?_)));have cq:hc {t with cN:=ba,ml:=eb (bh P.aY) (eK t.ml) t.ml,q:={t.q with cf:=bq},b9:=bp,el:=bm}:=sh (show k3 (qM (bh P.aY) (eK t.ml) t) _ from⟨rfl,rfl,rfl,rfl,rfl,kQ.symm⟩) (wa _ _ cL);have k4:P.m.Ok:=by rw[e3];exact ok
    refine o.v1 (a_ Z.O gY ev (cO _)) ?_;refine o.v1 (a_ N.O gz fj (dX _)) ?_;refine aV Be (Fw P {t with cN:=ba,ml:=eb (bh P.aY) (eK t.ml) t.ml,q:={t.q with cf:=bq},b9:=bp,el:=bm} ei (fun b=>ck b∨b+1=an) w0 _ (R ()) (c7.mono (by omega)) (⟨C.rd.imp (fun b _ e=>Or.inr e),(A ()).q.imp (fun b _ e=>Or.inl e),(A ()).e.imp (fun b _ e=>Or.inl e),(fun y hy=>((A ()).d y hy).imp (fun b _ e=>Or.inl e))⟩:eU (fun b=>ck b∨b+1=an) _ {t with cN:=ba,ml:=eb (bh P.aY) (eK t.ml) t.ml,q:={t.q with cf:=bq},b9:=bp,el:=bm}) (eL.bk.dx (cl.mono (by omega)) C.le) k4 (qj cq)) (fun mJ mK kc=>?_);obtain⟨rfl,bB⟩:=kc;have aI:=aI.N bB;have K:=K.N bB;have E:=E.N bB;have L:=L.N bB;have aj:=fun u=>(aj u).N bB;have R:=fun u=>(R u).N bB;have Z:=Z.N bB;have C:=C.N bB;have A:=fun u=>(A u).N bB;have N:=N.N bB;have B:=B.L bB;have lI:=bB.size;refine o.v1 da ?_;refine o.aa ?_;refine o.join (d:=101) (v:= .bool (decide (dD P.m {t with cN:=ba,ml:=eb (bh P.aY) (eK t.ml) t.ml,q:={t.q with cf:=bq},b9:=bp,el:=bm}≠0∨(t.ml.length:Int)=0))) 5 (fun e9=>?_) ?_
    ·
     refine o.bp (d:=96) rfl (fun e_=>?_) (fun e_=>?_)
     ·
      refine o.az 5 ?_;exact e9 _ (congrArg (fun b=>some (Value.bool b)) (by simp[e_])) (ai (ai (ai (ai (ai (bL (congrArg Value.bool (decide_eq_true e_).symm)))))))
     ·
      refine o.ar (Y.an N.O rfl bt rfl dO) ?_;refine o.ar (au (N.O.drop 2) dV) ?_;refine o.ar (Y.cast (v2:= .int .i64 (t.ml.length:Int)) (bf C.rd c9) (fh (by rw[s5]))) ?_;refine o.ar cb ?_;refine o.dy ?_;exact e9 _ (congrArg (fun b=>some (Value.bool b)) (by simp[e_])) (ai (ai (ai (ai (ai (bL (congrArg Value.bool (decide_eq_false e_).symm)))))))
    refine o.nil (jM ?_);refine aW (fun eT=>?_) (fun eT=>?_)
    ·
     refine G.L (fun jN=>?_);refine o.al ?_;refine jN ?_;refine G.ret (jL (e4 ?_));exact⟨rfl,B⟩
    ·
     have kK:dD P.m {t with cN:=ba,ml:=eb (bh P.aY) (eK t.ml) t.ml,q:={t.q with cf:=bq},b9:=bp,el:=bm}=0:=Classical.not_not.1 (fun e=>eT (.inl e));have kT:0<t.ml.length:=Nat.pos_of_ne_zero (fun e=>eT (.inr (by omega)));have bJ:(f_ a3 t.ml.length)<t.ml.length:=Hy kT;have aH:=s5 (bh P.aY) (eK t.ml) t.ml;obtain⟨x,hex⟩:∃q,q=(eb (bh P.aY) (eK t.ml) t.ml)[(f_ a3 t.ml.length)]'(by rw[aH];exact bJ):=⟨_,rfl⟩;refine G.skip (jK (G.L (fun jO=>?_)));refine o.v1 (a_ N.O gz fj (dX _)) ?_;refine aV rV (tN {t with cN:=ba,ml:=eb (bh P.aY) (eK t.ml) t.ml,q:={t.q with cf:=bq},b9:=bp,el:=bm} (fun b=>ck b∨b+1=an) w0 _ (⟨C.rd.imp (fun b _ e=>Or.inr e),(A ()).q.imp (fun b _ e=>Or.inl e),(A ()).e.imp (fun b _ e=>Or.inl e),(fun y hy=>((A ()).d y hy).imp (fun b _ e=>Or.inl e))⟩:eU (fun b=>ck b∨b+1=an) _ {t with cN:=ba,ml:=eb (bh P.aY) (eK t.ml) t.ml,q:={t.q with cf:=bq},b9:=bp,el:=bm}) (eL.bk.dx (cl.mono (by omega)) C.le) (by have:=cq.2.1;omega) (by have:=cq.2.2.2;omega) (by have:=cq.2.2.1;omega) (fun z cX=>by have aO:=sW cX;have bU:=cq.1;unfold lg at bU;omega)) (fun lJ bl jP=>?_);obtain⟨c2,c3,c0,cH,b6,dz,rfl,aL,bQ,bO,fx,ew,kL,kN,am⟩:=jP;have ds:=ax.app (ax.z) (aM.mono B.size) bQ;have fJ:af ((M+1)) b6:=af.app (af.z) K.le bQ;have fK:ag b6 Q:=ag.lM (ag.jd) E.aD bQ;have fL:af ((O+1)) b6:=af.app (af.z) L.le bQ;have im:=ax.app (ax.z) (b5.mono (by omega)) bQ;have iq:=ax.app (ax.z) (c7.mono (by omega)) bQ;have ir:af (aP.size+1) b6:=af.app (af.z) Z.lt bQ;have iu:af an b6:=af.app (af.z) C.le bQ;have iv:=ax.app (ax.z) (cl.mono (by omega)) bQ;have ix:af (a5.size+1) b6:=af.app (af.z) N.lt bQ;have iy:U 0 J.size b6:=U.L (U.refl 0 _) bQ B.size;have aI:=aI.N am;have K:=K.N am;have E:=E.N am;have L:=L.N am;have aj:=fun u=>(aj u).N am;have R:=fun u=>(R u).N am;have Z:=Z.N am;have C:=C.N am;have A:=fun u=>(A u).N am;have N:=N.N am;have B:=B.L am;have g0:=am.size;have lq:=aL.le;have hl:=kL;have hn:=(fun k X b e h=>by have aO:=ew b e;have bU:=cg k X;omega:ay dz Q);have ho:=(fun b e h=>by have aO:=ew b e;omega:ax dz (((O+1))));have hp:=(fun b e h=>by have aO:=ew b e;omega:ax dz (((M+1))));refine o.aS (dk pE) fun ih g2 g3=>?_;obtain⟨rfl,bW,bc,g4,a1⟩:=g3;have f0:g2.size=bl.size+1:=by rw[a1];simp
     have hs:=(ax.new (aM.mono B.size):ax _ (bl.size+1));have fM:af ((M+1)) (bl.size+1):=af.new K.le;have fN:ag (bl.size+1) Q:=ag.gG E.aD;have fc:af ((O+1)) (bl.size+1):=af.new L.le;have hv:=(ax.new (b5.mono (by omega)):ax _ (bl.size+1));have hx:=(ax.new (c7.mono (by omega)):ax _ (bl.size+1));have hz:af (aP.size+1) (bl.size+1):=af.new Z.lt;have hA:af an (bl.size+1):=af.new C.le;have hC:=(ax.new (cl.mono (by omega)):ax _ (bl.size+1));have hF:af (a5.size+1) (bl.size+1):=af.new N.lt;have fg:af b6 (bl.size+1):=af.new aL.le;have hG:=(ax.new (fx.mono (by omega)):ax _ (bl.size+1));have hH:U 0 J.size (bl.size+1):=U.new B.size;have aI:=aI.N bc;have K:=K.N bc;have E:=E.N bc;have L:=L.N bc;have aj:=fun u=>(aj u).N bc;have R:=fun u=>(R u).N bc;have Z:=Z.N bc;have C:=C.N bc;have A:=fun u=>(A u).N bc;have N:=N.N bc;have aL:=aL.N bc;have bO:=fun u=>(bO u).N bc;have B:=B.L bc;have g5:=bc.size;refine o.s1 (eh bW (_) (dB {t with cN:=c2,q:={t.q with cf:=c3},b9:=c0,el:=cH}) (nv _) fj (dX _) ((dJ (dX _).symm))) fun f1 hI=>?_;obtain⟨bW,aS⟩:=hI;have aS:=aS.bB;have aI:=aI.ae aS (ay.I hs);have K:=K.ae aS (ag.I fM);have E:=E.ae aS (dr.cons fN dr.nil);have L:=L.ae aS (ag.I fc);have aj:=fun u=>(aj u).ae aS (ay.I hv);have R:=fun u=>(R u).ae aS (ay.I hx);have Z:=Z.ae aS (ag.I hz);have C:=C.ae aS (ag.I hA);have A:=fun u=>(A u).ae aS (ay.I hC);have N:=N.ae aS (ag.I hF);have aL:=aL.ae aS (ag.I fg);have bO:=fun u=>(bO u).ae aS (ay.I hG);have B:=B.bx aS (ah.I (ao.q hH));have g6:=aS.size;refine o.nil (jO (G.L (fun ff=>?_)));refine o.aa ?_;refine o.v1 (Y.an bW.O rfl bt rfl dO) ?_;refine o.v1 (au (bW.O.drop 2) dV) ?_;refine o.v1 (Y.cast (v2:= .int .i64 (t.ml.length:Int)) (bf aL.rd c9) (fh (by show(((eb (bh P.aY) (eK t.ml) t.ml)).length:Int)=_;rw[aH]))) ?_;refine aV Bf (HB a3 t.ml.length w0 _ (by have:=cL.2.1;omega) kD) (fun g7 g8 jQ=>?_);obtain⟨rfl,a7⟩:=jQ;have aI:=aI.N a7;have K:=K.N a7;have E:=E.N a7;have L:=L.N a7;have aj:=fun u=>(aj u).N a7;have R:=fun u=>(R u).N a7;have Z:=Z.N a7;have C:=C.N a7;have A:=fun u=>(A u).N a7;have N:=N.N a7;have aL:=aL.N a7;have bO:=fun u=>(bO u).N a7;have bW:=bW.N a7;have B:=B.L a7;have g9:=a7.size;refine o.al ?_;refine ff (G.t1 (fun fn=>?_));refine G.jq 11 rfl (by kernel_rfl) (fun ll kC=>?_);refine o.v1 (Y.an bW.O rfl bt rfl dO) ?_;refine o.v1 (au (bW.O.drop 2) dV) ?_;refine o.aa ?_;refine o.v1 (il aL ((f_ a3 t.ml.length)) c9 dp (by rw[aH];exact bJ)) ?_;refine o.v1 (Y.fieldAddr (aL.O (j:=(f_ a3 t.ml.length)) (by rw[aH];exact bJ)) rfl cv rfl rfl bd (by decide) rfl) ?_;refine o.v1 (eH ((aL.O (j:=(f_ a3 t.ml.length)) (by rw[aH];exact bJ)).drop 1) (3) j2 cK) ?_;refine o.v1 (Y.cast (v2:= .int .u8 (x.I.1.getD 3 0).toNat) (au (((aL.O (j:=(f_ a3 t.ml.length)) (by rw[aH];exact bJ)).drop 1).at 3 (EB _)) ed) (by rw[hex])) ?_;refine o.v1 (Y.ux (b:=(UInt8.ofNat 1)) rfl rfl rfl) ?_;refine o.v1 (il aL ((f_ a3 t.ml.length)) c9 dp (by rw[aH];exact bJ)) ?_;refine o.v1 (Y.fieldAddr (aL.O (j:=(f_ a3 t.ml.length)) (by rw[aH];exact bJ)) rfl cv rfl rfl bd (by decide) rfl) ?_;refine o.v1 (eH ((aL.O (j:=(f_ a3 t.ml.length)) (by rw[aH];exact bJ)).drop 1) (3) j2 cK) ?_;refine o.nil (kC _ ?_);refine o.s1 (S.xL aL (f_ a3 t.ml.length) (1+3) ({x with I:=iw x.I}:bn) rfl rfl rfl rfl cK (by rw[aH];exact bJ) (by decide) (by rw[←hex];exact EC _)) fun cC hk=>?_;obtain⟨aL,aQ⟩:=hk;have aQ:=aQ.md;have aI:=aI.ae aQ (ay.I ds);have K:=K.ae aQ (ag.I fJ);have E:=E.ae aQ (dr.cons fK dr.nil);have L:=L.ae aQ (ag.I fL);have aj:=fun u=>(aj u).ae aQ (ay.I im);have R:=fun u=>(R u).ae aQ (ay.I iq);have Z:=Z.ae aQ (ag.I ir);have C:=C.ae aQ (ag.I iu);have A:=fun u=>(A u).ae aQ (ay.I iv);have N:=N.ae aQ (ag.I ix);have bO:=fun u=>(bO u).ae aQ (ay.I hl);have bW:=bW.ae aQ (ag.I fg.symm);have B:=B.bx aQ (ah.I (ao.q iy));have lK:=aQ.size;refine o.nil (fn (G.t1 (fun jR=>G.t1 (fun jS=>?_))));refine dg (fun F=>W (aB (Q++[((O+1)),((M+1))])) cC F) [] ?_;have ac:W (aB (Q++[((O+1)),((M+1))])) cC cC:=W.refl _ _;have fi:=aT.refl Q cC.size;have fk:=U.refl ((O+1)) cC.size;have fm:=U.refl ((M+1)) cC.size;have gA:k3 {t with cN:=c2,ml:=((eb (bh P.aY) (eK t.ml) t.ml).set (f_ a3 t.ml.length) ({x with I:=iw x.I}:bn)),q:={t.q with cf:=c3},b9:=c0,el:=cH} {({t with cN:=ba,ml:=eb (bh P.aY) (eK t.ml) t.ml,q:={t.q with cf:=bq},b9:=bp,el:=bm}:bP)with ml:=((eb (bh P.aY) (eK t.ml) t.ml).set (f_ a3 t.ml.length) ({x with I:=iw x.I}:bn))}:=⟨rfl,rfl,rfl,rfl,rfl,kN⟩;have ek:dD s.m {t with cN:=ba,ml:=eb (bh P.aY) (eK t.ml) t.ml,q:={t.q with cf:=bq},b9:=bp,el:=bm}=0:=by rw[←e3];exact kK
     have gD:((eb (bh P.aY) (eK t.ml) t.ml).set (f_ a3 t.ml.length) ({x with I:=iw x.I}:bn))=(eb (bh P.aY) (eK t.ml) t.ml).set (f_ a3 t.ml.length) {(eb (bh P.aY) (eK t.ml) t.ml)[(f_ a3 t.ml.length)]'(by rw[aH];exact bJ)with I:=iw x.I}:=by rw[←hex]
     have gE:dD s.m {t with cN:=c2,ml:=((eb (bh P.aY) (eK t.ml) t.ml).set (f_ a3 t.ml.length) ({x with I:=iw x.I}:bn)),q:={t.q with cf:=c3},b9:=c0,el:=cH}=21:=by rw[B5 gA,gD];exact B6 (by rw[aH];exact bJ) ek (by rw[←hex];exact Ao _)
     have kR:hc {t with cN:=c2,ml:=((eb (bh P.aY) (eK t.ml) t.ml).set (f_ a3 t.ml.length) ({x with I:=iw x.I}:bn)),q:={t.q with cf:=c3},b9:=c0,el:=cH}:=sh (k3.symm gA) (by rw[gD];exact CT (t:={t with cN:=ba,ml:=eb (bh P.aY) (eK t.ml) t.ml,q:={t.q with cf:=bq},b9:=bp,el:=bm}) (by rw[aH];exact bJ) cq);refine T.aa 0 rfl ac ?_;refine T.t1 1 rfl (fun F A=>Y.kH (bW.ae A (ag.app fN (ag.cons fc.symm (ag.I fM.symm)))).O rfl gz fj (dX _) rfl) ac ?_;refine T.aX 2 ?_;refine b7 oE (oJ bb Q cJ cZ bx _ O M n false s {t with cN:=c2,ml:=((eb (bh P.aY) (eK t.ml) t.ml).set (f_ a3 t.ml.length) ({x with I:=iw x.I}:bn)),q:={t.q with cf:=c3},b9:=c0,el:=cH} bK (fun b=>dz b∨b+1=b6) w0 _ E aI (aM.mono (by omega)) (dY) L (eI) (dZ) K (ce) (dx) (ea) aj (b5.mono (by omega)) (aO) (bU) (e6) (⟨aL.rd.imp (fun b _ e=>Or.inr e),(bO ()).q.imp (fun b _ e=>Or.inl e),(bO ()).e.imp (fun b _ e=>Or.inl e),(fun y hy=>((bO ()).d y hy).imp (fun b _ e=>Or.inl e))⟩:eU (fun b=>dz b∨b+1=b6) _ {t with cN:=c2,ml:=((eb (bh P.aY) (eK t.ml) t.ml).set (f_ a3 t.ml.length) ({x with I:=iw x.I}:bn)),q:={t.q with cf:=c3},b9:=c0,el:=cH}) (eL.bk.dx (fx.mono (by omega)) aL.le) (fun k X=>eL.ax.dx ((hn) k X) (((fK) k X).symm)) (eL.ax.dx (ho) (fL)) (eL.ax.dx (hp) (fJ)) ok (qj kR) aA.b.1 (by omega) (by have:=aA.b.2;omega)) (fun mm c8 jT=>?_);have hJ:=Z.lt;have hK:=C.le;have hL:=N.lt;obtain⟨aZ,oQ,eV,fs,rfl,E,cD,L,h8,K,ib,dm,fa,k5,k7,k9,cS,b8⟩:=jT;have hM:=ay.ee (dY) (aM.mono B.size) cD;have hN:ag (aP.size+1) aZ:=ag.ee (ez) hJ cD;have fp:ag an aZ:=ag.ee (fH) hK cD;have fq:=ay.ee (fE) (cl.mono (by omega)) cD;have fr:ag (a5.size+1) aZ:=ag.ee (eD) hL cD;have hO:aT [] J.size aZ:=aT.L (gg) cD B.size;have hP:aT Q cC.size aZ:=aT.L (fi) cD ac.size;have aI:=aI.ae b8 (ay.app dY (ay.cons dZ (ay.I ea)));have R:=fun u=>(R u).ae b8 (ay.app gX (ay.cons gV (ay.I du)));have Z:=Z.ae b8 (ag.app ez (ag.cons eA.symm (ag.I ey.symm)));have C:=C.ae b8 (ag.app fH (ag.cons bv.symm (ag.I eE.symm)));have A:=fun u=>(A u).ae b8 (ay.app fE (ay.cons eB (ay.I eC)));have N:=N.ae b8 (ag.app eD (ag.cons ee.symm (ag.I ec.symm)));have B:=B.bx b8 (ah.app (ah.mK (gg)) (ah.cons (ao.q gi) (ah.I (ao.q gj))));have ac:=ac.aL b8 (ah.app (ah.ca (fi) (by intro k X;simp[X])) (ah.cons (ao.r fk) (ah.I (ao.r fm))));have av:=b8.size;have cg:=E.aD;have hQ:=k5;have hR:=k7;have hT:=k9;have gF:=do_1 (D:=bx) (n:=n) (br:=false) (m:=s.m) (t:={t with cN:=c2,ml:=((eb (bh P.aY) (eK t.ml) t.ml).set (f_ a3 t.ml.length) ({x with I:=iw x.I}:bn)),q:={t.q with cf:=c3},b9:=c0,el:=cH}) (by rw[gE];decide);rw[gF]at E L cS;refine⟨.inr ac,T.narrow (SH2:=fun F=>W (aB (aZ++[((O+1)),((M+1))])) c8 F) (fun F A=>ac.aL A (ah.app (ah.ca (hP) (by intro k X;simp[X])) (ah.cons (ao.r fk) (ah.I (ao.r fm))))) ?_⟩;have ac:W (aB (aZ++[((O+1)),((M+1))])) c8 c8:=W.refl _ _;have hV:=aT.refl aZ c8.size;have hW:=U.refl ((O+1)) c8.size;have d0:=U.refl ((M+1)) c8.size;refine T.t1 3 rfl (fun F A=>(da).fC ((fun h=>h (by rw[gF];exact gE)))) ac ?_;refine T.aa 4 rfl ac ?_;refine T.b0 5 rfl (fun F A=>fl) bo ac ?_;refine T.b0 7 rfl (fun F A=>Y.kH (Z.ae A (ag.app hN (ag.cons eA.symm (ag.I ey.symm)))).O rfl gY ev (cO _) rfl) bo ac ?_;refine T.aX 6 ?_;refine dM.call rfl rfl oF rfl bo rfl rfl (q_ O M eV _ w0 _ K (dm ()) (fa.mono (by omega)) (by rw[cS];exact ok)) (fun ak bi sl=>?_);obtain⟨jU,he,rfl,dq,d1,f2,kU,bF⟩:=sl;have aI:=aI.N bF;have K:=K.N bF;have E:=E.N bF;have L:=L.N bF;have R:=fun u=>(R u).N bF;have C:=C.N bF;have A:=fun u=>(A u).N bF;have N:=N.N bF;have dm:=fun u=>(dm u).N bF;have B:=B.L bF;have ac:=ac.a8 bF;have mq:=bF.size;refine⟨.inr ac,T.narrow (SH2:=fun F=>W (aB (aZ++[((O+1)),((M+1))])) bi F) (fun F A=>ac.aL A (ah.app (ah.ca (hV) (by intro k X;simp[X])) (ah.cons (ao.r hW) (ah.I (ao.r d0))))) ?_⟩;have ac:W (aB (aZ++[((O+1)),((M+1))])) bi bi:=W.refl _ _;have d2:=aT.refl aZ bi.size;have d3:=U.refl ((O+1)) bi.size;have d4:=U.refl ((M+1)) bi.size;refine T.aX 8 ?_;refine dM.call rfl rfl Bg rfl bo rfl rfl (Cv jU P w0 _ (kU.trans (cS.trans e3.symm)) (dq ()).r.any (dq ()).g.any (fun y hy=>((dq ()).n y hy).any) (dq ()).q.any (dq ()).e.any (fun y hy=>((dq ()).d y hy).any) (R ()).r.any (R ()).g.any (fun y hy=>((R ()).n y hy).any) (R ()).q.any (R ()).e.any (fun y hy=>((R ()).d y hy).any)) (fun bz cA fv=>?_);obtain⟨rfl,ap⟩:=fv;have aI:=aI.N ap;have K:=K.N ap;have E:=E.N ap;have L:=L.N ap;have C:=C.N ap;have A:=fun u=>(A u).N ap;have N:=N.N ap;have dm:=fun u=>(dm u).N ap;have B:=B.L ap;have ac:=ac.a8 ap;have hm:=ap.size;refine⟨.inr ac,T.narrow (SH2:=fun F=>W (aB (aZ++[((O+1)),((M+1))])) cA F) (fun F A=>ac.aL A (ah.app (ah.ca (d2) (by intro k X;simp[X])) (ah.cons (ao.r d3) (ah.I (ao.r d4))))) ?_⟩;have ac:W (aB (aZ++[((O+1)),((M+1))])) cA cA:=W.refl _ _;have fu:=aT.refl aZ cA.size;have fw:=U.refl ((O+1)) cA.size;have fO:=U.refl ((M+1)) cA.size;refine T.b0 9 rfl (fun F A=>eG) bo ac ?_;refine T.t1 10 rfl (fun F A=>er) ac ?_;refine T.aa 11 rfl ac ?_;refine T.b0 12 rfl (fun F A=>fl) bo ac ?_;refine T.b0 13 rfl (fun F A=>Y.kH (N.ae A (ag.app fr (ag.cons ee.symm (ag.I ec.symm)))).O rfl gz fj (dX _) rfl) bo ac ?_;refine T.aX 14 ?_;refine dM.call rfl rfl oE rfl bo rfl rfl (oJ bb aZ oQ cZ bx _ O M n false eV {t with cN:=ba,ml:=eb (bh P.aY) (eK t.ml) t.ml,q:={t.q with cf:=bq},b9:=bp,el:=bm} fs (fun b=>ck b∨b+1=an) w0 _ E aI (aM.mono (by omega)) (hM) L (h8) (dZ) K (ib) (dx) (ea) dm (fa.mono (by omega)) (hQ) (hR) (hT) (⟨C.rd.imp (fun b _ e=>Or.inr e),(A ()).q.imp (fun b _ e=>Or.inl e),(A ()).e.imp (fun b _ e=>Or.inl e),(fun y hy=>((A ()).d y hy).imp (fun b _ e=>Or.inl e))⟩:eU (fun b=>ck b∨b+1=an) _ {t with cN:=ba,ml:=eb (bh P.aY) (eK t.ml) t.ml,q:={t.q with cf:=bq},b9:=bp,el:=bm}) (eL.bk.dx (cl.mono (by omega)) C.le) (fun k X=>eL.ax.dx ((fq) k X) (((fp) k X).symm)) (eL.ax.dx (eB) (bv)) (eL.ax.dx (eC) (eE)) (by rw[cS];exact ok) (qj cq) aA.b.1 (by omega) (by have:=aA.b.2;omega)) (fun aC cs jV=>?_);obtain⟨eW,mB,jW,mC,rfl,E,bw,L,ln,K,lo,lf,gM,mS,mT,mU,gI,c6⟩:=jV;have d5:aT aZ cA.size eW:=aT.L (fu) bw ac.size;have C:=C.ae c6 (ag.app fp (ag.cons bv.symm (ag.I eE.symm)));have A:=fun u=>(A u).ae c6 (ay.app fq (ay.cons eB (ay.I eC)));have N:=N.ae c6 (ag.app fr (ag.cons ee.symm (ag.I ec.symm)));have B:=B.bx c6 (ah.app (ah.mK (hO)) (ah.cons (ao.q gi) (ah.I (ao.q gj))));have ac:=ac.aL c6 (ah.app (ah.ca (fu) (by intro k X;simp[X])) (ah.cons (ao.r fw) (ah.I (ao.r fO))));have mD:=c6.size;have cg:=E.aD;obtain⟨mn,kJ,kO,kY,k2⟩:=aA.gZ (m:=eV.m) (by omega) cq (by rw[cS];exact ok);rw[kJ]at L;refine⟨.inr ac,T.narrow (SH2:=fun F=>W (aB (eW++[((O+1)),((M+1))])) cs F) (fun F A=>ac.aL A (ah.app (ah.ca (d5) (by intro k X;simp[X])) (ah.cons (ao.r fw) (ah.I (ao.r fO))))) ?_⟩;have ac:W (aB (eW++[((O+1)),((M+1))])) cs cs:=W.refl _ _;refine T.b0 15 rfl (fun F A=>(da).fC ((fun h=>h (by rw[kO,cS];exact ek)))) bo ac ?_;refine T.t1 16 rfl (fun F A=>er) ac ?_;refine cI ?_;refine jS ?_;refine dK ?_;refine G.skip (jR (G.L (fun jY=>?_)));refine o.aa ?_;refine aV oF (q_ O M jW _ w0 _ K (lf ()) (gM.mono (by omega)) (by rw[gI];exact k2)) (fun mE cE jZ=>?_);obtain⟨c_,lX,rfl,cW,gN,f3,kV,dt⟩:=jZ;have C:=C.N dt;have A:=fun u=>(A u).N dt;have N:=N.N dt;have B:=B.L dt;have lY:=dt.size;refine o.aS (dk kW) fun ii kx ky=>?_;obtain⟨rfl,dG,dc,lZ,a6⟩:=ky;have f4:kx.size=cE.size+1:=by rw[a6];simp
     have d6:af an (cE.size+1):=af.new C.le;have d7:=(ax.new (cl.mono (by omega)):ax _ (cE.size+1));have d8:af (a5.size+1) (cE.size+1):=af.new N.lt;have d9:=(ax.new (gN.mono (by omega)):ax _ (cE.size+1));have hX:U 0 J.size (cE.size+1):=U.new B.size;have C:=C.N dc;have A:=fun u=>(A u).N dc;have N:=N.N dc;have cW:=fun u=>(cW u).N dc;have B:=B.L dc;have l0:=dc.size;refine o.s1 (eh dG (_) (b3 c_) (ke _) ev (cO _) ((dJ (cO _).symm))) fun jj jl=>?_;obtain⟨dG,cp⟩:=jl;have cp:=cp.bB;have C:=C.ae cp (ag.I d6);have A:=fun u=>(A u).ae cp (ay.I d7);have N:=N.ae cp (ag.I d8);have cW:=fun u=>(cW u).ae cp (ay.I d9);have B:=B.bx cp (ah.I (ao.q hX));have l1:=cp.size;refine o.nil (jY (G.t1 (fun hB=>G.L (fun jv=>?_))));refine o.al ?_;refine jv (G.aD (fun _ jw _=>?_))
     refine G.bc (fun(a8:(Nat))=>[(15,.pointer (some ⟨a5.size,0,none⟩)),(19,.pointer (some ⟨cE.size,0,none⟩)),(20,.int .i64 (a8:Int))])
      (fun(a8:(Nat)) (H:Heap)=>(a8≤t.ml.length)∧aq jj H)
      (fun(a8:(Nat))=>t.ml.length-a8) 0 ⟨rfl,rfl,rfl,trivial⟩ ?_ ?_
     ·
      exact⟨(by omega),W.refl _ _⟩
     intro a8 f5 kA mL jx jy;obtain⟨mv,b2⟩:=kA;have C:=C.N b2;have A:=fun u=>(A u).N b2;have N:=N.N b2;have cW:=fun u=>(cW u).N b2;have dG:=dG.N b2;have B:=B.L b2;have l2:=b2.size;refine G.t2 (fun jz nm=>G.L (fun jA=>?_));refine o.aa ?_;refine o.v1 (Y.an N.O rfl bt rfl dO) ?_;refine o.v1 (au (N.O.drop 2) dV) ?_;refine o.v1 (Y.cast (v2:= .int .i64 (t.ml.length:Int)) (bf C.rd c9) (fh (by rw[s5]))) ?_;refine o.v1 bH (o.nil (jA ?_));refine aW (fun jB=>?_) (fun jB=>?_)
     ·
      have cP:a8<t.ml.length:=by omega
      obtain⟨z3,e1⟩:∃q,q=(eb (bh P.aY) (eK t.ml) t.ml)[a8]'(by rw[aH];exact cP):=⟨_,rfl⟩;have fy:z3∈(eb (bh P.aY) (eK t.ml) t.ml):=by rw[e1];exact List.getElem_mem _
      have kF:gd (bh c_.aY) z3.n=z3.w:=by rw[show bh c_.aY=c_.m.bI from rfl,kV,gI,kY,cS,if_pos ek];exact Ad (t:={t with cN:=ba,ml:=eb (bh P.aY) (eK t.ml) t.ml,q:={t.q with cf:=bq},b9:=bp,el:=bm}) ok ek fy
      refine G.skip (jz (G.t1 (fun jC=>G.aD (fun jD _ _=>G.t1 (fun jE=>?_)))));refine dg (fun F=>aq f5 F) [] ?_;have ab:=aq.refl f5;refine T.t1 0 rfl (fun F A=>a_ (dG.O.N A) gY ev (cO _)) ab ?_;refine T.t1 1 rfl (fun F A=>Y.an (N.O.N A) rfl bt rfl dO) ab ?_;refine T.t1 2 rfl (fun F A=>au ((N.O.drop 2).N A) dV) ab ?_;refine T.aa 3 rfl ab ?_;refine T.t1 4 rfl (fun F A=>il (C.N A) (a8) c9 dp (by rw[aH];exact cP)) ab ?_;refine T.t1 5 rfl (fun F A=>Y.fieldAddr ((C.O (j:=a8) (by rw[aH];exact cP)).N A) rfl cv rfl rfl bV (by decide) rfl) ab ?_;refine T.t1 6 rfl (fun F A=>Y.cast (v2:=aK z3.n) (au (((C.O (j:=a8) (by rw[aH];exact cP)).drop 0).N A) bR) (by rw[e1])) ab ?_;refine T.t1 8 rfl (fun F A=>Y.an (N.O.N A) rfl bt rfl dO) ab ?_;refine T.t1 9 rfl (fun F A=>au ((N.O.drop 2).N A) dV) ab ?_;refine T.aa 10 rfl ab ?_;refine T.t1 11 rfl (fun F A=>il (C.N A) (a8) c9 dp (by rw[aH];exact cP)) ab ?_;refine T.t1 12 rfl (fun F A=>Y.fieldAddr ((C.O (j:=a8) (by rw[aH];exact cP)).N A) rfl cv rfl rfl bd (by decide) rfl) ab ?_;refine T.t1 13 rfl (fun F A=>Y.cast (v2:=bs z3.w) (a_ ((((C.O (j:=a8) (by rw[aH];exact cP)).drop 33).N A).take 32) cj bd (by rw[fe];exact bC _)) (by rw[e1];exact cn (fe _))) ab ?_;refine T.aX 7 ?_;refine b7 p1 (pU c_ z3.n w0 _ (cW ()).r.any) (fun l3 jm jF=>?_);obtain⟨rfl,bT⟩:=jF;have A:=fun u=>(A u).N bT;have b2:=b2.L bT;have cV:=bT.size;have hi:=ab.L bT;refine T.cD hi ?_;have fz:=aq.refl jm;refine T.t1 14 rfl (fun F A=>Y.kt rfl Tryz.eqGuardType26 (fun w=>gR 9998 Tryz.underlying26 Tryz.underlying5 cK ed ((gd (bh c_.aY) z3.n).2) (z3.w.2) w) rfl rfl) fz ?_;refine cI ?_;have kZ:=fz;refine jE ?_;refine aW (fun gr=>?_) (fun gr=>?_)
      ·
       exact absurd (congrArg Subtype.val kF) gr
      ·
       refine G.skip (jD (jC (G.region ?_)));refine o.aa ?_;refine o.v1 bD ?_;refine o.al ?_;refine aR.sub (jx (a8+1) _ ?_ ?_) ⟨rfl,rfl,(aF (by omega)),trivial⟩
       ·exact⟨(by omega),b2⟩
       ·first|omega|(simp only;omega)|(simp;omega)
     ·
      refine G.exit (nm (jy (jw ?_)));refine hB (G.L (fun hU=>?_));refine o.al ?_;refine hU ?_;refine G.ret (e4 ?_);exact⟨rfl,B⟩
end ug
end Go.Proofs.YtfjmpninmdjcaaaGreatDoor
