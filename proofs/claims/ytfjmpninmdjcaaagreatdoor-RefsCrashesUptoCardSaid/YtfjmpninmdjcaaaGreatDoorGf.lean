/-
  Contracts of functions of the program, and plain laws: put together of several texts.
-/
import Derived.Test.YtfjmpninmdjcaaaGreatDoorGe
import Derived.SizedLaws
set_option linter.unusedVariables false
set_option linter.unusedSimpArgs false
set_option linter.unusedSectionVars false
set_option linter.defProp false
set_option maxHeartbeats 8000000
set_option maxRecDepth 100000
namespace Go.Proofs.YtfjmpninmdjcaaaGreatDoor
open E Go.RowKit

namespace uy
open gV e2 hn jH iN sH
theorem Bw:∀(k:Nat) (a b:List UInt8),a.take k=b.take k→k<a.length→k<b.length→a.getD k 0≠b.getD k 0→Op.bytesLess a b=decide ((a.getD k 0).toNat<(b.getD k 0).toNat)
 |0,x::a,y::b,_,_,_,h=>by
  have h:x≠y:=by simpa using h
  have ab:(x==y)=false:=by simpa using h
  simp[Op.bytesLess,ab,r4]
 |k+1,x::a,y::b,d,j,ab,h=>by
  simp only[pG,jC]at d;obtain⟨rfl,d⟩:=d;have:=Bw k a b d (by simpa using j) (by simpa using ab) (by simpa using h)
  simp[Op.bytesLess,this]
 |_,[],_,_,j,_,_=>by simp at j
 |_,_,[],_,_,ab,_=>by simp at ab
theorem yx{l:List UInt8}{j:Nat}(h:j<l.length):l[j]=l.getD j 0:=by simp[h]
theorem s6(i:dv)(k:Nat)(h:k<32):(b9 i)[k]?=some (.int .u8 (i.1.getD k 0).toNat):=by
 have ab:k<i.1.length:=by rw[i.2];exact h
 simp[b9,List.getD_eq_getElem?_getD,List.getElem?_eq_getElem ab]
theorem Hr(a:List UInt8):Op.bytesLess a a=false:=by
 cases h:Op.bytesLess a a with
 |false=>rfl
 |true=>exact absurd h (nG a)
theorem Nu{l:List bU}{x:bU}{p:Nat}(n:∀j (h:j<l.length),j<p→blt l[j].k.1 x.k.1)(C:p≤l.length)(q:∀h:p<l.length,¬blt l[p].k.1 x.k.1∧¬l[p].k=x.k):da (l.take p++[x]++l.drop p)=fm (da l) x.k.1 x.d:=by
 rw[yy (k:=p) (by simpa[da]using C) (fun j h B=>by have:=n j (by simpa[da]using h) B;simpa[da]using this) (fun h=>by
  have r:p<l.length:=by simpa[da]using h
  have d:=q r;simp only[da,oV];exact mb (fun A=>d.2 (hr (oH d.1 A))))]
 simp[da,tk,vH]
theorem KK{F aQ:Nat→Prop}{H:Heap}{l:List bU}{x:bU}(p:Nat)(h:∀y∈l,Rd F H bd 1 y.v.v y.d)(d:∀b,F b→aQ b)(j:Rd aQ H bd 1 x.v.v x.d):∀y∈l.take p++[x]++l.drop p,Rd aQ H bd 1 y.v.v y.d:=by
 intro y hy;rcases gG.1 hy with hy|hy
 ·rcases gG.1 hy with hy|hy
  ·exact(h y (kQ hy)).imp (fun b _ e=>d b e)
  ·rw[eU.1 hy];exact j
 ·exact(h y (y2 hy)).imp (fun b _ e=>d b e)
theorem xV{l:List bU}{k:aD}{j:Nat}(h:∀q (h:q<l.length),q<j→blt l[q].k.1 k)(x:j<l.length)(d:blt l[j].k.1 k):∀q (h:q<l.length),q<j+1→blt l[q].k.1 k:=fun q r ab=>by
 rcases vR.1 ab with n|rfl
 ·exact h q r n
 ·exact d
theorem NK(a b:dv)(w0:World)(N:Heap)
 :
 aE Tryz.prog w0 117 #[bM a,bM b] N (fun r q=>r= .bool (Op.bytesLess a.1 b.1)∧al N q):=by
 refine aE.aP [bM a,bM b] Tryz.func117 ?_;intro ag F;have j:al N N:=aa.refl _ _;have ak:=a.2;have ao:=b.2;refine I.O (fun L=>?_);refine G.aU Z.bv ?_;rintro v2 q ⟨rfl,d,M,_⟩;obtain⟨j,_⟩:=b6 M j;have d:Var 26 q N.size (b9 a):=d;refine G.aU Z.bv ?_;rintro v3 A ⟨rfl,n,O,_⟩;obtain⟨d,j,_⟩:=bO O d j;have n:Var 26 A q.size (b9 b):=n;refine G.aj ?_;refine L (I.t2 (fun P Q=>I.O (fun az=>?_)));refine G.aj ?_;refine az (I.aC (fun _ am R=>?_))
 refine I.bb (fun(k:Nat)=>[(2,.pointer (some ⟨N.size,0,none⟩)),(3,.pointer (some ⟨q.size,0,none⟩)),(5,.int .i64 (k:Int))])
  (fun(k:Nat) (H:Heap)=>(k≤32)∧a.1.take k=b.1.take k∧al A H)
  (fun(k:Nat)=>32-k) 0 ⟨o,o,o,trivial⟩ ?_ ?_
 ·
  exact⟨J,by simp,aa.refl _ _⟩
 intro k ai ap af S C;obtain⟨an,x,B⟩:=ap;obtain⟨d,n,j,_⟩:=cf B d n j;refine I.t2 (fun U V=>I.O (fun a7=>?_));refine G.af ?_;refine G.v1 bZ (G.nil (a7 ?_));refine a8 (fun c5=>?_) (fun c5=>?_)
 ·
  refine I.skip (U (I.t2 (fun W X=>I.aC (fun Y _ ae=>I.t1 (fun K=>?_)))));refine jk ?_;refine G.af ?_;refine G.v1 (gA d.W k nv dK) ?_;refine G.v1 (bf (d.W.at k (s6 a k J)) fE) ?_;refine G.af ?_;refine G.v1 (gA n.W k nv dK) ?_;refine G.v1 (bf (n.W.at k (s6 b k J)) fE) ?_;refine G.v1 dX (G.nil (K ?_));refine a8 (fun E=>?_) (fun E=>?_)
  ·
   refine I.t1 (fun ac=>?_);refine jk ?_;refine G.af ?_;refine G.v1 (gA d.W k nv dK) ?_;refine G.v1 (bf (d.W.at k (s6 a k J)) fE) ?_;refine G.af ?_;refine G.v1 (gA n.W k nv dK) ?_;refine G.v1 (bf (n.W.at k (s6 b k J)) fE) ?_;refine G.v1 bZ ?_;refine G.aj ?_;refine ac ?_;refine I.ret (ae (X (C (R (Q (F ?_))))));exact⟨by rw[Bw k a.1 b.1 x J J (fun e=>E (by rw[e]))];exact aI Value.bool (decide_eq_decide.2 J),j⟩
  ·
   refine I.skip (Y (W (I.region ?_)));refine G.af ?_;refine G.v1 bN ?_;refine G.aj ?_;refine aT.sub (S (k+1) _ ?_ ?_) ⟨o,o,(aF J),trivial⟩
   ·exact⟨J,by rw[eP J,eP J,x,yx,yx,vC.1 (show(a.1.getD k 0).toNat=(b.1.getD k 0).toNat by omega)],B⟩
   ·first|omega|(simp only;omega)|(simp;omega)
 ·
  refine I.exit (V (C (am ?_)));refine P (I.O (fun ad=>?_));refine G.aj ?_;refine ad ?_;refine I.ret (F ?_);obtain rfl:k=32:=by omega
  rw[eY J,eY J]at x;exact⟨by rw[x,Hr],j⟩
set_option maxHeartbeats 1600000 in
theorem Fg(v1 v2:Value)(l m:List bU)(F:Nat→Prop)(w0:World)(N:Heap)
 (bH:Rd F N cb 33 v1 l)(e7:bp F N.size)(W:b7 N cb 33 v2 m)(bg:∀x∈l,Rd F N bd 1 x.v.v x.d)(bF:bp F N.size)(hy:∀x∈m,b7 N bd 1 x.v.v x.d)(fG:l.length≤1000)(fH:m.length≤100000)(eP:∀x∈m,x.d.length≤140737488355328)(eR:∀x∈m,¬x.k=bJ):
 aE Tryz.prog w0 43 #[v1,v2] N (fun r aU=>∃s2:aO,∃bS:List bU,∃aS:Nat→Prop,r=s2.v∧(∀u:Unit,Rd aS aU cb 33 s2.v bS)∧bp aS aU.size∧(∀x∈bS,Rd aS aU bd 1 x.v.v x.d)∧bp aS aU.size∧(∀b,aS b→F b∨N.size≤b)∧da bS=iu (da l) m∧al N aU):=by
 refine aE.aP [v1,v2] Tryz.func43 ?_;intro e1 eS;have M:al N N:=aa.refl _ _;have W:=W.ch;have bY:=W.cD;have hy:=fun x eT=>(hy x eT).ch;have b0:bp (fun b=>True∧b<N.size) N.size:=fun b h=>h.2;refine I.O (fun cs=>?_);refine G.aj ?_;refine cs (I.O (fun eG=>?_));refine G.aU (Z.c2 (dE _ (([]:List bU)) k7 eb iQ)) ?_;rintro fk fm ⟨C,df,_⟩;have ce:=ax.new (bY.mono M.size);have cA:=ax.new (bF.mono M.size);have cB:=ax.new (b0.mono M.size);have eF:=ae.new M.size;obtain⟨bH,W,bg,hy,M,_⟩:=dH df bH W bg hy M;refine G.af ?_;refine G.aU (eO C bH k7 b2 b2) ?_;rintro ci cC ⟨bE,C,bm,bo⟩;have bo:=bo.md;have bQ:=ax.app ce (bY.mono M.size) bm;have fl:=ax.app cA (bF.mono M.size) bm;have eH:=ax.app cB (b0.mono M.size) bm;have bW:=ae.O eF bm M.size;obtain⟨W,bg,hy,M,_⟩:=dT bo W ce bg cA hy cB M eF;have cX:=C.le;rw[hq]at C;obtain⟨eI,rfl⟩:∃s:aO,ci=s.v:=⟨cF ci,C.bA.symm⟩;refine G.aj ?_;refine eG (I.t1 (fun eM=>I.O (fun eN=>?_)));refine G.aj ?_;refine eN (I.aC (fun _ eg _=>?_))
 refine I.bb (fun(bT:Nat×aO×Nat×(List bU)×(Nat→Prop))=>match bT with|(i,so,aJ,B,aQ)=>[(1,v2),(5,so.v),(6,.int .i64 (i:Int))])
  (fun(i,so,aJ,B,aQ) (H:Heap)=>(i≤m.length)∧aY aJ 68 H cb 33 so.v B∧(∀x∈B,Rd aQ H bd 1 x.v.v x.d)∧bp aQ H.size∧ax aQ aJ∧(∀b,aQ b→F b∨N.size≤b)∧da B=iu (da l) (m.take i)∧ae bE cC.size aJ∧aa (ay [bE]) cC H)
  (fun(i,so,aJ,B,aQ)=>m.length-i) (0,eI,bE,l,F) ⟨o,o,o,trivial⟩ ?_ ?_
 ·
  exact⟨J,C,bg,(bF.mono M.size),fl,(fun b e=>Or.inl e),o,ae.refl _ _,aa.refl _ _⟩
 rintro⟨i,so,aJ,B,aQ⟩ K eh e0 cD ei;obtain⟨fF,C,P,aW,cK,bG,bb,cn,L⟩:=eh;have dh:=ae.O bW cn M.size;obtain⟨W,hy,M,_⟩:=dQ L W bQ hy eH M bW;have cX:=C.le;have bX:=cn;refine I.t2 (fun ej ek=>I.O (fun eo=>?_));refine G.av 2 ?_;refine G.v1 (bu W dy) ?_;refine G.v1 bZ (G.nil (eo ?_));refine a8 (fun ep=>?_) (fun ep=>?_)
 ·
  refine I.skip (ej (I.t1 (fun dG=>I.aC (fun di dj _=>I.t1 (fun dk=>I.O (fun dp=>?_))))));refine G.av 2 ?_;have a_:i<m.length:=by omega
  obtain⟨y,aL⟩:∃q,q=m[i]:=⟨_,o⟩;have bj:y∈m:=by rw[aL];exact cU a_
  have fD:=eP y bj;have eU:=eR y bj
  have fI:B.length≤l.length+i:=by
   have cN:=xF (m.take i) (da l);rw[←bb]at cN;simp only[da,dg,eJ]at cN;omega
  refine G.cn (Y.cg W i o dy db o o) fun fg dq=>?_;refine G.aV gU bx ?_;refine G.v1 (Y.cast (v2:=bM y.k) (ba ((dq.W.drop 0).take 32) cZ bx (by rw[gS];exact bI _)) ((by rw[aL];exact c4 (gS _)))) ?_;refine G.v1 (Y.build (v:=bM bJ) o o fy) ?_;refine G.v1 (Y.mA o Tryz.eqGuardType26 (fun w=>i_ 9998 Tryz.underlying26 Tryz.underlying5 dK fE y.k.2 bJ.2 w) o o) (G.nil (dp ?_));refine a8 (fun cG=>?_) (fun cG=>?_)
  ·
   exact absurd (hr cG) eU
  ·
   refine I.skip (dk ?_)
   refine I.cut (fun(bT:Nat×aO×Nat)=>match bT with|(aG,V,aH)=>[(1,v2),(5,so.v),(6,.int .i64 (i:Int)),(7,.pointer (some ⟨aG,0,none⟩))])
    (fun(aG,V,aH) (H:Heap)=>(Var 68 H aG (cb (⟨y.k,V,y.d⟩:bU)))∧aY aH 5 H bd 1 V.v y.d∧ae 0 K.size ((aG+1))∧ae 0 K.size aH∧ak ((aG+1)) aH∧al K H) (fun _ bq _=>?_) ?_
   ·
    have E:al K K:=aa.refl _ _;refine eA (fun X=>al K X) [14] ?_;have n:al K K:=aa.refl _ _;refine U.af 0 o n ?_;refine U.af 1 o n ?_;refine U.e (g:=fun ad=> .pointer (some ad)) 2 bD o bD bD bD (Y.cg W i o dy db o o) cS o o n (fun fh du=>?_);refine U.aV 3 gU bx n ?_;refine U.t1 4 o (fun X av=>Y.cast (v2:=bM y.k) (ba (((du.W.drop 0).aR av).take 32) cZ bx (by rw[gS];exact bI _)) ((by rw[aL];exact c4 (gS _)))) n ?_;refine U.af 6 o n ?_;refine U.af 7 o n ?_;refine U.e (g:=fun ad=> .pointer (some ad)) 8 bD o bD bD bD (Y.cg W i o dy db o o) cS o o n (fun fi dx=>?_);refine U.aV 9 gU dt n ?_;refine U.t1 10 o (fun X av=>Y.cast (v2:=y.v.v) (bf ((dx.W.mP).aR av) fe) (by rw[aL])) n ?_;refine U.two (i:=5) (j:=13) bD ?_ ?_
    ·
     refine fC o (dE _ (([]:List UInt8)) fw fM hh) ?_;rintro er R ⟨A,bt,dz,bw⟩;have a9:R.size=K.size+1:=by rw[bw];simp
     have bn:=ae.new E.size;have dC:=ae.new n.size;obtain⟨hy,E,n,_⟩:=cf bt hy E n;refine⟨.inr n,U.narrow (SH2:=fun X=>aa (ay [(K.size+1)]) R X) (fun X av=>(aa.bt (ks:=[]) (n.nm []) av (ar.T (an.q dC))).nil) ?_⟩;have n:aa (ay [(K.size+1)]) R R:=aa.refl _ _;have bz:=ae.refl (K.size+1) R.size;refine U.two (i:=11) (j:=13) bD ?_ ?_
     ·
      refine fC o (Z.uM A (hy y bj).any o fw o o b2 b2) ?_;rintro aD ap ⟨aB,A,ag,af⟩;have af:=af.md;have dF:=ae.O bn ag E.size;have dI:=ae.O bz ag n.size;obtain⟨E,n,_⟩:=dW af E bn n (an.r bz);have az:=A.le;obtain⟨O,rfl⟩:∃s:aO,aD=s.v:=⟨cF aD,A.bA.symm⟩;rw[hq]at A;refine U.b5 n (ar.T (an.r dI)) ?_;have n:aa (ay [aB]) ap ap:=aa.refl _ _;have dJ:=ae.refl aB ap.size;refine U.t1 (v:= .agg (cb (⟨y.k,O,y.d⟩:bU)).toArray) 12 o (fun X av=>?_) n ?_
      ·exact Y.build (v:= .agg (cb (⟨y.k,O,y.d⟩:bU)).toArray) o o (by intro w;exact sS _ _ _)
      refine U.bg 13 ?_;refine fC o (Z.nE o oo) ?_;rintro cQ Q ⟨rfl,ah,aV,cH,aZ⟩;have cq:Q.size=ap.size+1:=by rw[aZ];simp
      have cr:=ak.new A.le;have cR:=ae.new E.size;have dL:=ae.new n.size;obtain⟨A,E,n,_⟩:=cf aV A E n;refine U.b5 n (ar.cons (an.r dJ) (ar.T (an.q dL))) ?_;refine U.bg 14 ?_;refine iK o (et ah _ (cb (⟨y.k,O,y.d⟩:bU)) (iQ (⟨y.k,O,y.d⟩:bU)) db (eb _) ((dD (eb _).symm))) ?_;rintro b1 ⟨ah,ac⟩;have ac:=ac.e3;obtain⟨A,E,_⟩:=dW ac A cr E cR;refine⟨.inl o,?_⟩;refine dB ?_;refine aT.sub (bq (ap.size,O,aB) _ ?_) ⟨o,o,(aF J),o,trivial⟩;exact⟨ah,A,cR,dF,cr.symm,E⟩
     ·
      refine fC o (Z.nE o oo) ?_;rintro cQ Q ⟨rfl,ah,aV,cH,aZ⟩;have cq:Q.size=R.size+1:=by rw[aZ];simp
      have be:=ak.new A.le;have ct:=ae.new E.size;have dM:=ae.new n.size;obtain⟨hy,A,E,n,co⟩:=ed aV hy A E n;refine U.b5 n (ar.cons (an.r bz) (ar.T (an.q dM))) ?_;have n:aa (ay [(K.size+1),(R.size+1)]) Q Q:=aa.refl _ _;have cv:=ae.refl (K.size+1) Q.size;have dN:=ae.refl (R.size+1) Q.size;refine U.bg 11 ?_;refine fC o (Z.uM A (hy y bj).any o fw o o b2 b2) ?_;rintro aD ap ⟨aB,A,ag,af⟩;have af:=af.md;have bi:=ak.app be.symm ah.lt ag;have dP:=ae.O bn ag E.size;have dR:=ae.O cv ag n.size;obtain⟨ah,E,n,cI⟩:=dQ af ah be.symm E bn n (an.r cv);have az:=A.le;obtain⟨O,rfl⟩:∃s:aO,aD=s.v:=⟨cF aD,A.bA.symm⟩;rw[hq]at A;refine U.b5 n (ar.cons (an.r dR) (ar.T (an.r dN))) ?_;have n:aa (ay [aB,(R.size+1)]) ap ap:=aa.refl _ _;refine U.t1 (v:= .agg (cb (⟨y.k,O,y.d⟩:bU)).toArray) 12 o (fun X av=>?_) n ?_
      ·exact Y.build (v:= .agg (cb (⟨y.k,O,y.d⟩:bU)).toArray) o o (by intro w;exact sS _ _ _)
      refine U.bg 14 ?_;refine iK o (et ah _ (cb (⟨y.k,O,y.d⟩:bU)) (iQ (⟨y.k,O,y.d⟩:bU)) db (eb _) ((dD (eb _).symm))) ?_;rintro b1 ⟨ah,ac⟩;have ac:=ac.e3;obtain⟨A,E,_⟩:=dW ac A bi.symm E ct;refine⟨.inl o,?_⟩;refine dB ?_;refine aT.sub (bq (R.size,O,aB) _ ?_) ⟨o,o,(aF J),o,trivial⟩;exact⟨ah,A,ct,dP,bi,E⟩
    ·
     refine fC o (Z.nE o oo) ?_;rintro cQ Q ⟨rfl,ah,aV,cH,aZ⟩;have cq:Q.size=K.size+1:=by rw[aZ];simp
     have cw:=ae.new E.size;have dS:=ae.new n.size;obtain⟨hy,E,n,_⟩:=cf aV hy E n;refine⟨.inr n,U.narrow (SH2:=fun X=>aa (ay [(K.size+1)]) Q X) (fun X av=>(aa.bt (ks:=[]) (n.nm []) av (ar.T (an.q dS))).nil) ?_⟩;have n:aa (ay [(K.size+1)]) Q Q:=aa.refl _ _;have aC:=ae.refl (K.size+1) Q.size;refine U.bg 5 ?_;refine fC o (dE _ (([]:List UInt8)) fw fM hh) ?_;rintro er R ⟨A,bt,dz,bw⟩;have a9:R.size=Q.size+1:=by rw[bw];simp
     have b3:=ak.new ah.lt;have b4:=ae.new E.size;have dX:=ae.new n.size;obtain⟨hy,ah,E,n,_⟩:=ed bt hy ah E n;refine U.b5 n (ar.cons (an.r aC) (ar.T (an.q dX))) ?_;have n:aa (ay [(K.size+1),(Q.size+1)]) R R:=aa.refl _ _;have dY:=ae.refl (K.size+1) R.size;have b5:=ae.refl (Q.size+1) R.size;refine U.bg 11 ?_;refine fC o (Z.uM A (hy y bj).any o fw o o b2 b2) ?_;rintro aD ap ⟨aB,A,ag,af⟩;have af:=af.md;have b6:=ak.app b3 ah.lt ag;have d_:=ae.O b4 ag E.size;have ec:=ae.O b5 ag n.size;obtain⟨ah,E,n,_⟩:=dQ af ah b3 E b4 n (an.r b5);have az:=A.le;obtain⟨O,rfl⟩:∃s:aO,aD=s.v:=⟨cF aD,A.bA.symm⟩;rw[hq]at A;refine U.b5 n (ar.cons (an.r dY) (ar.T (an.r ec))) ?_;have n:aa (ay [(K.size+1),aB]) ap ap:=aa.refl _ _;refine U.t1 (v:= .agg (cb (⟨y.k,O,y.d⟩:bU)).toArray) 12 o (fun X av=>?_) n ?_
     ·exact Y.build (v:= .agg (cb (⟨y.k,O,y.d⟩:bU)).toArray) o o (by intro w;exact sS _ _ _)
     refine U.bg 14 ?_;refine iK o (et ah _ (cb (⟨y.k,O,y.d⟩:bU)) (iQ (⟨y.k,O,y.d⟩:bU)) db (eb _) ((dD (eb _).symm))) ?_;rintro b1 ⟨ah,ac⟩;have ac:=ac.e3;obtain⟨A,E,_⟩:=dW ac A b6.symm E cw;refine⟨.inl o,?_⟩;refine dB ?_;refine aT.sub (bq (K.size,O,aB) _ ?_) ⟨o,o,(aF J),o,trivial⟩;exact⟨ah,A,cw,d_,b6,E⟩
   ·
    rintro⟨aG,V,aH⟩ am cV;obtain⟨ah,A,e4,cm,e3,a7⟩:=cV;have b8:=ak.app ak.z C.le cm;have ca:=ae.O (ae.refl 0 _) cm M.size;obtain⟨C,P,L,_⟩:=cf a7 C P L;have e6:=ah.le;have az:=A.le;refine I.O (fun dU=>?_);refine G.aj ?_;refine dU ?_
    refine I.cut (fun(j:Nat)=>[(1,v2),(5,so.v),(6,.int .i64 (i:Int)),(7,.pointer (some ⟨aG,0,none⟩)),(8,.int .i64 (j:Int))])
     (fun(j:Nat) (H:Heap)=>(j≤B.length)∧(∀q (h:q<B.length),q<j→blt B[q].k.1 y.k.1)∧(∀h:j<B.length,¬blt B[j].k.1 y.k.1)∧al am H) (fun _ cx _=>?_) ?_
    ·
     have aK:al am am:=aa.refl _ _;refine I.aC (fun _ br _=>?_)
     refine I.bb (fun(j:Nat)=>[(1,v2),(5,so.v),(6,.int .i64 (i:Int)),(7,.pointer (some ⟨aG,0,none⟩)),(8,.int .i64 (j:Int))])
      (fun(j:Nat) (H:Heap)=>(j≤B.length)∧(∀q (h:q<B.length),q<j→blt B[q].k.1 y.k.1)∧al am H)
      (fun(j:Nat)=>B.length-j) 0 ⟨o,o,o,o,o,trivial⟩ ?_ ?_
     ·
      exact⟨J,(fun q h ab=>absurd ab (rY _)),aa.refl _ _⟩
     intro j fo eu fp cY bK;obtain⟨cP,aR,bk⟩:=eu;obtain⟨C,ah,aK,_⟩:=cf bk C ah aK;refine I.t2 (fun c0 cy=>I.t1 (fun cz=>?_));refine ka 12 (fun e2 cO=>?_);refine G.av 2 ?_;refine G.v1 (bu C.rd dy) ?_;refine G.v1 bZ ?_;refine G.af ?_;refine G.bL (d:=43) o (fun ev=>?_) (fun ev=>?_)
     ·
      refine G.av 2 ?_;have aP:j<B.length:=by omega
      obtain⟨z,aN⟩:∃q,q=B[j]:=⟨_,o⟩;refine G.aG (mo C j dy db) ?_;refine G.aG (Y.fieldAddr (C.W (j:=j) ic) o gU o o bx bc o) ?_;refine G.aG (Y.cast (v2:=bM z.k) (ba (((C.W (j:=j) ic).drop 0).take 32) cZ bx (by rw[gS];exact bI _)) ((by rw[aN];exact c4 (gS _)))) ?_;refine G.hl gU bx ?_;refine G.aG (Y.cast (v2:=bM y.k) (ba (ah.W.take 32) cZ bx (by rw[show(cb (⟨y.k,V,y.d⟩:bU)).take 32=b9 y.k from gS _];exact bI _)) ((c4 (show(cb (⟨y.k,V,y.d⟩:bU)).take 32=b9 y.k from gS _)))) ?_;refine G.nil (cO _ ?_);refine G.call o HN o bR o o (NK z.k y.k w0 _) ?_;rintro fq fr ⟨rfl,c2⟩;obtain⟨aK,bk,_⟩:=bO c2 aK bk;refine G.W ?_;refine G.nil (cz ?_);refine dm (fun bA=>?_) (fun bA=>?_)
      ·
       refine I.skip (c0 (I.aC (fun c3 _ _=>I.region ?_)));refine G.af ?_;refine G.v1 bN ?_;refine G.aj ?_;refine c3 ?_;refine aT.sub (cY (j+1) _ ?_ ?_) ⟨o,o,(aF J),o,(aF J),trivial⟩
       ·exact⟨J,xV aR aP (by rw[←aN];exact bA),bk⟩
       ·first|omega|(simp only;omega)|(simp;omega)
      ·
       refine I.exit (cy (bK (br ?_)));refine aT.sub (cx j _ ?_) ⟨o,o,(aF J),o,(aF J),trivial⟩;exact⟨J,aR,(fun _=>by rw[←aN];unfold blt;simpa using bA),aK⟩
     ·
      refine G.av 7 ?_;refine G.nil (cO _ ?_);refine G.av 2 ?_;refine G.nil (cz ?_);refine dZ ?_;refine I.exit (cy (bK (br ?_)));refine aT.sub (cx j _ ?_) ⟨o,o,(aF J),o,(aF J),trivial⟩;exact⟨J,aR,(fun h=>absurd h J),aK⟩
    ·
     intro j bv a0;obtain⟨cP,aR,bP,cW⟩:=a0;obtain⟨C,P,ah,A,L,_⟩:=dH cW C P ah A L;refine I.t2 (fun c5 c6=>I.t1 (fun c8=>?_));refine jk ?_;refine G.av 2 ?_;refine G.v1 (bu C.rd dy) ?_;refine G.v1 bZ ?_;refine G.af ?_;refine G.join (d:=68) (v:= .bool (decide ((B[j]?.map (·.k))=some y.k))) 9 (fun bV=>?_) ?_
     ·
      refine G.bL (d:=59) o (fun bC=>?_) (fun bC=>?_)
      ·
       refine G.av 2 ?_;have aP:j<B.length:=by omega
       obtain⟨z,aN⟩:∃q,q=B[j]:=⟨_,o⟩;refine G.aG (mo C j dy db) ?_;refine G.aG (Y.fieldAddr (C.W (j:=j) ic) o gU o o bx bc o) ?_;refine G.aG (Y.cast (v2:=bM z.k) (ba (((C.W (j:=j) ic).drop 0).take 32) cZ bx (by rw[gS];exact bI _)) ((by rw[aN];exact c4 (gS _)))) ?_;refine G.hl gU bx ?_;refine G.aG (Y.cast (v2:=bM y.k) (ba (ah.W.take 32) cZ bx (by rw[show(cb (⟨y.k,V,y.d⟩:bU)).take 32=b9 y.k from gS _];exact bI _)) ((c4 (show(cb (⟨y.k,V,y.d⟩:bU)).take 32=b9 y.k from gS _)))) ?_;refine G.aG (Y.mA o Tryz.eqGuardType26 (fun w=>i_ 9998 Tryz.underlying26 Tryz.underlying5 dK fE z.k.2 y.k.2 w) o o) ?_;refine G.W ?_;exact bV _ (aI (fun b=>some (Value.bool b)) (decide_eq_decide.2 (by rw[List.getElem?_eq_getElem aP,qA,Option.some_inj,←aN];exact⟨fun e=>hr e,fun e=>aI Subtype.val e⟩))) (ai (ai (ai (ai (ai (ai (ai (ai (ai (b_ (aI Value.bool (cT bC).symm)))))))))))
      ·
       refine G.av 9 ?_;exact bV _ (aI (fun b=>some (Value.bool b)) (by rw[List.getElem?_eq_none J];simp)) (ai (ai (ai (ai (ai (ai (ai (ai (ai (b_ (aI Value.bool (cL bC).symm)))))))))))
     refine G.nil (c8 ?_);refine a8 (fun a6=>?_) (fun a6=>?_)
     ·
      obtain⟨z9,cI,co⟩:=Option.map_eq_some_iff.1 a6;obtain⟨aP,rfl⟩:=List.getElem?_eq_some_iff.1 cI;have eQ:B[j].k=y.k:=co;refine I.O (fun c9=>?_);refine G.av 2 ?_;refine G.v1 (ba ah.W kH db (eb _)) ?_;refine G.v1 (mo C j dy db) ?_;refine G.s1 (S.zC C j 0 (⟨y.k,V,y.d⟩:bU) (cb (⟨y.k,V,y.d⟩:bU)) o o o o (iQ _) db (eb _) aP bc (dD (by rw[eb,eb])).symm) ?_;rintro fB ⟨C,bB⟩;obtain⟨P,A,L,_⟩:=dQ bB P cK A b8.symm L (an.r bX);refine G.nil (c9 ?_);refine I.exit (c6 (dj ?_));refine dG (I.region ?_);refine G.af ?_;refine G.v1 bN ?_;refine G.aj ?_;refine aT.sub (cD (i+1,so,aJ,B.set j (⟨y.k,V,y.d⟩:bU),fun b=>aQ b∨b+1=aH) _ ?_ ?_) ⟨o,o,(aF J),trivial⟩
      ·exact⟨J,C,FD j P (fun b e=> .inl e) (A.rd.imp (fun b _ e=> .inr e)),bp.e8 (aW.mono J) A.le,ax.e8 cK b8,(fun b e=>e.elim (bG b) (fun e=>Or.inr (by have bh:=ca;unfold ae at bh;omega))),by rw[uJ a_,←aL,←bb];exact CG (x:=(⟨y.k,V,y.d⟩:bU)) aR aP eQ,bX,L⟩
      ·first|omega|(simp only;omega)|(simp;omega)
     ·
      refine I.skip (c5 (I.O (fun dV=>?_)));have bL:∀h:j<B.length,¬blt B[j].k.1 y.k.1∧¬B[j].k=y.k:=fun h=>⟨bP h,fun e=>a6 (by rw[List.getElem?_eq_getElem h,qA,e])⟩;refine G.aj ?_;refine dV (I.O (fun ez=>?_));refine G.av 3 ?_;refine G.aP (g:=fun v=>v) (Y.slice C.rd (0) j o dy db o (.inl ⟨o,o⟩) (.inr ⟨_,_,_,o,o,by first|rfl|omega⟩) J J) fun ft eY=>?_;have eV:aY 0 68 bv cb 33 (.slice none 0 0) []:=aY.nil eb iQ;refine G.aU (eO eV eY k7 b2 b2) ?_;rintro fx fz ⟨fA,on,bl,aX⟩;have aX:=aX.md;have ee:=ak.app ak.z C.le bl;have cc:=ax.app ax.z (aW.mono J) bl;have cd:=ak.app ak.z A.le bl;have cg:=ae.O (ae.refl 0 _) bl L.size;obtain⟨C,P,ah,A,_⟩:=dT aX C ak.z P ax.z ah ak.z A ak.z;have L:=L.bt aX (ar.cons an.z ar.nil);have fj:=aX.size;have cp:=on.le;have bL:∀h:j<B.length,¬blt B[j].k.1 y.k.1∧¬B[j].k=y.k:=fun h=>⟨bP h,fun e=>a6 (by rw[List.getElem?_eq_getElem h,qA,e])⟩;refine G.aj ?_;refine ez (I.O (fun eB=>?_));refine G.af ?_;refine G.v1 (ba ah.W kH db (eb _)) ?_;refine G.aU (Z.c2 (dE _ ([(⟨y.k,V,y.d⟩:bU)]) k7 eb iQ)) ?_;rintro e8 e9 ⟨eW,eC,_⟩;obtain⟨C,P,A,on,L,_⟩:=dH eC C P A on L;refine G.aU (eO on eW.rd k7 b2 b2) ?_;rintro e_ eK ⟨fa,on,a2,a3⟩;have a3:=a3.md;have ch:=ax.app cc (aW.mono J) a2;have ck:=ak.app cd A.le a2;have cl:=ae.O cg a2 L.size;obtain⟨C,P,A,L,_⟩:=dT a3 C ee P cc A cd L (an.q cg);have cp:=on.le;have bL:∀h:j<B.length,¬blt B[j].k.1 y.k.1∧¬B[j].k=y.k:=fun h=>⟨bP h,fun e=>a6 (by rw[List.getElem?_eq_getElem h,qA,e])⟩;refine G.aj ?_;refine eB (I.region ?_);refine G.av 3 ?_;refine G.aP (g:=fun v=>v) (Y.slice C.rd j B.length o dy db o (.inr ⟨_,_,_,o,o,by first|rfl|omega⟩) (.inl ⟨o,o⟩) J J) fun fc eZ=>?_;refine G.aU (eO on eZ k7 b2 b2) ?_;rintro cJ ff ⟨ew,on,a4,a5⟩;have a5:=a5.md;have ef:=ax.app ch (aW.mono J) a4;have dc:=ak.app ck A.le a4;have de:=ae.O cl a4 L.size;obtain⟨P,A,L,_⟩:=dQ a5 P ch A ck L (an.q cl);have cp:=on.le;rw[hq,nh,eD]at on;obtain⟨ey,rfl⟩:∃s:aO,cJ=s.v:=⟨cF cJ,on.bA.symm⟩;refine G.aj ?_;refine di (dG (I.region ?_));refine G.af ?_;refine G.v1 bN ?_;refine G.aj ?_;refine aT.sub (cD (i+1,ey,ew,B.take j++[(⟨y.k,V,y.d⟩:bU)]++B.drop j,fun b=>aQ b∨b+1=aH) _ ?_ ?_) ⟨o,o,(aF J),trivial⟩
      ·exact⟨J,on,KK j P (fun b e=> .inl e) (A.rd.imp (fun b _ e=> .inr e)),bp.e8 (aW.mono J) A.le,ax.e8 ef dc.symm,(fun b e=>e.elim (bG b) (fun e=>Or.inr (by have bh:=ca;unfold ae at bh;omega))),by rw[uJ a_,←aL,←bb];exact Nu (x:=(⟨y.k,V,y.d⟩:bU)) aR cP bL,(ae.z de),L⟩
      ·first|omega|(simp only;omega)|(simp;omega)
 ·
  have a_:i=m.length:=by omega
  rw[a_,eD]at bb;refine I.exit (ek (ei (eg ?_)));refine eM (I.O (fun eE=>?_));refine G.aZ 2 ?_;refine eE ?_;refine I.ret (eS ?_);exact⟨so,B,_,o,(fun _=>((C.rd.imp (fun b _ e=>Or.inr (by have bh:=dh;unfold ae at bh;omega)):Rd (fun b=>F b∨N.size≤b) _ cb 33 so.v B)).ch),(fun b e=>e.2),(fun x h=>(((P x h).imp (fun b _ e=>bG b e):Rd (fun b=>F b∨N.size≤b) _ bd 1 x.v.v x.d)).ch),(fun b e=>e.2),(fun b e=>e.1),bb,M⟩
end uy
namespace AN
open gV e2 lu jH iN uy gK
theorem Mg:ck 1 1=[1]:=by decide+kernel
theorem Mf:ck 1 0=[0]:=by decide+kernel
theorem sn(k:Nat)(s:aO)(xs:List UInt8)(i:dv)(w0:World)(N:Heap)
 (d:aY k 5 N bd 1 s.v xs)(aS:xs.length≤1099511627776):
 aE Tryz.prog w0 121 #[s.v,bM i] N (fun r F=>∃s2:aO,∃a_:Nat,r=s2.v∧aY a_ 5 F bd 1 s2.v (xs++i.1)∧ae k N.size a_∧aa (ay [k]) N F):=by
 refine aE.aP [s.v,bM i] Tryz.func121 ?_;intro aJ aC;have q:aa (ay [k]) N N:=aa.refl _ _;have K:=ae.refl k N.size;have ac:=d.le;have aQ:=i.2;refine I.O (fun az=>?_);refine G.aU Z.bv ?_;rintro v3 C ⟨rfl,A,am,_⟩;have Y:=ak.new d.le;obtain⟨d,q,_⟩:=bO am d q;have A:Var 26 C N.size (b9 i):=A;refine G.aj ?_;refine az (I.t1 (fun ap=>I.O (fun af=>?_)));refine G.aj ?_;refine af (I.aC (fun _ ag _=>?_))
 refine I.bb (fun(aG:Nat×aO×Nat×(List UInt8))=>match aG with|(j,s1,x,ys)=>[(0,s1.v),(3,.pointer (some ⟨N.size,0,none⟩)),(5,.int .i64 (j:Int))])
  (fun(j,s1,x,ys) (H:Heap)=>(j≤32)∧aY x 5 H bd 1 s1.v ys∧ys=xs++i.1.take j∧ae k C.size x∧aa (ay [k]) C H)
  (fun(j,s1,x,ys)=>32-j) (0,s,k,xs) ⟨o,o,o,trivial⟩ ?_ ?_
 ·
  exact⟨J,d,bl,ae.refl _ _,aa.refl _ _⟩
 rintro⟨j,s1,x,ys⟩ aK ai aH a7 ar;obtain⟨aR,d,B,ad,n⟩:=ai;have av:=ae.O K ad q.size;obtain⟨A,q,_⟩:=dW n A Y.symm q (an.r K);have ac:=d.le;have L:=ad;have aU:ys.length≤xs.length+32:=by rw[B,bT,eJ];omega
 refine I.t2 (fun ax aB=>I.O (fun O=>?_));refine G.af ?_;refine G.v1 bZ (G.nil (O ?_));refine a8 (fun c5=>?_) (fun c5=>?_)
 ·
  refine I.skip (ax (I.t1 (fun P=>I.aC (fun Q _ _=>I.region ?_))));refine G.av 2 ?_;refine G.v1 (gA A.W j nv dK) ?_;refine G.v1 (bf (A.W.at j (s6 i j J)) fE) ?_;refine G.aU (Z.c2 (dE _ ([i.1.getD j 0]) fw fM hh)) ?_;rintro aL aN ⟨aD,U,_⟩;obtain⟨d,n,_⟩:=bO U d n;refine G.aU (eO d aD.rd fw b2 b2) ?_;rintro M aP ⟨R,d,V,E⟩;have E:=E.md;have W:=ae.O L V n.size;obtain⟨n,_⟩:=c0 E n (an.r L);have ac:=d.le;obtain⟨S,rfl⟩:∃s:aO,M=s.v:=⟨cF M,d.bA.symm⟩;refine G.aj ?_;refine Q (P (I.region ?_));refine G.af ?_;refine G.v1 bN ?_;refine G.aj ?_;refine aT.sub (a7 (j+1,S,R,ys++[i.1.getD j 0]) _ ?_ ?_) ⟨o,o,(aF J),trivial⟩
  ·exact⟨J,d,by rw[B,eP J,yx (l:=i.1) (j:=j) J,dA],W,n⟩
  ·first|omega|(simp only;omega)|(simp;omega)
 ·
  obtain rfl:j=32:=by omega
  rw[eY J]at B;subst B;refine I.exit (aB (ar (ag ?_)));refine ap (I.O (fun X=>?_));refine G.aZ 2 ?_;refine X ?_;refine I.ret (aC ?_);exact⟨s1,x,o,d,av,q⟩
theorem Ak(k:Nat)(s:aO)(xs t:List UInt8)(w0:World)(N:Heap)
 (d:aY k 5 N bd 1 s.v xs)(V:xs.length≤549755813888)(U:t.length≤255):
 aE Tryz.prog w0 119 #[s.v,.int .i64 1,aN t] N (fun r n=>∃s2:aO,∃a_:Nat,r= .tuple #[s2.v,.bool true]∧aY a_ 5 n bd 1 s2.v (xs++f_ 1 t)∧ae k N.size a_∧aa (ay [k]) N n):=by
 refine aE.aP [s.v,.int .i64 1,aN t] Tryz.func119 ?_;intro P O;have j:aa (ay [k]) N N:=aa.refl _ _;have q:=ae.refl k N.size;have B:=d.le;refine I.O (fun H=>?_);refine G.aZ 2 ?_;refine H (I.t1 (fun K=>I.O (fun az=>?_)));refine G.af ?_;refine G.v1 ((bZ).gW bc) ?_;refine G.av 2 ?_;refine G.aG (hb e0) ?_;refine G.b4 ?_;refine G.aG (Y.cast (v2:= .int .i64 8) (Y.lJ o o o bc) o) ?_;refine G.aG (Y.cast (v2:= .int .i64 256) (Y.od (8) o o o o bc bc) o) ?_;refine G.aG ((eT).gE J) ?_;refine G.W ?_;refine G.nil (az ?_);refine dZ ?_;refine I.skip (K (I.O (fun am=>?_)));refine G.av 3 ?_;refine G.v1 (hb e0) ?_;refine G.v1 (Y.jm o gZ hA o) ?_;refine aW pr (gK.pP _ _ _ 1 _ w0 _ d bc J) ?_;rintro ad Q ⟨ad,R,rfl,d,C,E⟩;have x:=ae.O q C j.size;obtain⟨j,_⟩:=c0 E j (an.r q);have B:=d.le;obtain⟨a7,rfl⟩:∃s:aO,ad=s.v:=⟨cF ad,d.bA.symm⟩;refine G.af ?_;refine G.aU (Z.uN d o fw Tryz.underlying9 o o (by simp[eQ];omega)) ?_;rintro A S ⟨L,d,F,ac⟩;have ac:=ac.md;have ap:=ae.O x F j.size;have j:=j.bt ac (ar.T (an.r x));obtain⟨M,rfl⟩:∃s:aO,A=s.v:=⟨cF A,d.bA.symm⟩;refine G.aZ 2 ?_;refine am ?_;refine I.ret (O ?_);exact⟨M,L,o,by rw[f_,←dA];exact d,ap,j⟩
theorem OZ(k:Nat)(s:aO)(xs t:List UInt8)(w0:World)(N:Heap)
 (d:aY k 5 N bd 1 s.v xs)(V:xs.length≤549755813888)(U:t.length≤65535):
 aE Tryz.prog w0 119 #[s.v,.int .i64 2,aN t] N (fun r n=>∃s2:aO,∃a_:Nat,r= .tuple #[s2.v,.bool true]∧aY a_ 5 n bd 1 s2.v (xs++f_ 2 t)∧ae k N.size a_∧aa (ay [k]) N n):=by
 refine aE.aP [s.v,.int .i64 2,aN t] Tryz.func119 ?_;intro P O;have j:aa (ay [k]) N N:=aa.refl _ _;have q:=ae.refl k N.size;have B:=d.le;refine I.O (fun H=>?_);refine G.aZ 2 ?_;refine H (I.t1 (fun K=>I.O (fun az=>?_)));refine G.af ?_;refine G.v1 ((bZ).gW bc) ?_;refine G.av 2 ?_;refine G.aG (hb e0) ?_;refine G.b4 ?_;refine G.aG (Y.cast (v2:= .int .i64 16) (Y.lJ o o o bc) o) ?_;refine G.aG (Y.cast (v2:= .int .i64 65536) (Y.od (16) o o o o bc bc) o) ?_;refine G.aG ((eT).gE J) ?_;refine G.W ?_;refine G.nil (az ?_);refine dZ ?_;refine I.skip (K (I.O (fun am=>?_)));refine G.av 3 ?_;refine G.v1 (hb e0) ?_;refine G.v1 (Y.jm o gZ hA o) ?_;refine aW pr (gK.pP _ _ _ 2 _ w0 _ d bc J) ?_;rintro ad Q ⟨ad,R,rfl,d,C,E⟩;have x:=ae.O q C j.size;obtain⟨j,_⟩:=c0 E j (an.r q);have B:=d.le;obtain⟨a7,rfl⟩:∃s:aO,ad=s.v:=⟨cF ad,d.bA.symm⟩;refine G.af ?_;refine G.aU (Z.uN d o fw Tryz.underlying9 o o (by simp[eQ];omega)) ?_;rintro A S ⟨L,d,F,ac⟩;have ac:=ac.md;have ap:=ae.O x F j.size;have j:=j.bt ac (ar.T (an.r x));obtain⟨M,rfl⟩:∃s:aO,A=s.v:=⟨cF A,d.bA.symm⟩;refine G.aZ 2 ?_;refine am ?_;refine I.ret (O ?_);exact⟨M,L,o,by rw[f_,←dA];exact d,ap,j⟩
theorem O0(k:Nat)(s:aO)(xs t:List UInt8)(w0:World)(N:Heap)
 (d:aY k 5 N bd 1 s.v xs)(V:xs.length≤549755813888)(U:t.length≤549755813888):
 aE Tryz.prog w0 119 #[s.v,.int .i64 4,aN t] N (fun r n=>∃s2:aO,∃a_:Nat,r= .tuple #[s2.v,.bool true]∧aY a_ 5 n bd 1 s2.v (xs++f_ 4 t)∧ae k N.size a_∧aa (ay [k]) N n):=by
 refine aE.aP [s.v,.int .i64 4,aN t] Tryz.func119 ?_;intro P O;have j:aa (ay [k]) N N:=aa.refl _ _;have q:=ae.refl k N.size;have B:=d.le;refine I.O (fun H=>?_);refine G.aZ 2 ?_;refine H (I.t1 (fun K=>I.O (fun az=>?_)));refine G.af ?_;refine G.v1 ((bZ).gE bc) ?_;refine G.av 8 ?_;refine G.nil (az ?_);refine dZ ?_;refine I.skip (K (I.O (fun am=>?_)));refine G.av 3 ?_;refine G.v1 (hb e0) ?_;refine G.v1 (Y.jm o gZ hA o) ?_;refine aW pr (gK.pP _ _ _ 4 _ w0 _ d bc J) ?_;rintro ad Q ⟨ad,R,rfl,d,C,E⟩;have x:=ae.O q C j.size;obtain⟨j,_⟩:=c0 E j (an.r q);have B:=d.le;obtain⟨a7,rfl⟩:∃s:aO,ad=s.v:=⟨cF ad,d.bA.symm⟩;refine G.af ?_;refine G.aU (Z.uN d o fw Tryz.underlying9 o o (by simp[eQ];omega)) ?_;rintro A S ⟨L,d,F,ac⟩;have ac:=ac.md;have ap:=ae.O x F j.size;have j:=j.bt ac (ar.T (an.r x));obtain⟨M,rfl⟩:∃s:aO,A=s.v:=⟨cF A,d.bA.symm⟩;refine G.aZ 2 ?_;refine am ?_;refine I.ret (O ?_);exact⟨M,L,o,by rw[f_,←dA];exact d,ap,j⟩
theorem EE(k:Nat)(s:aO)(xs:List UInt8)(x:Int)(w0:World)(N:Heap)
 (d:aY k 5 N bd 1 s.v xs)(Q:xs.length≤549755813888)(P:0≤x∧x≤255):
 aE Tryz.prog w0 189 #[s.v,.int .i64 1,.int .i64 x] N (fun r n=>∃s2:aO,∃a_:Nat,r= .tuple #[s2.v,.bool true]∧aY a_ 5 n bd 1 s2.v (xs++ck 1 (UInt64.ofNat x.toNat))∧ae k N.size a_∧aa (ay [k]) N n):=by
 refine aE.aP [s.v,.int .i64 1,.int .i64 x] Tryz.func189 ?_;intro M L;have j:aa (ay [k]) N N:=aa.refl _ _;have q:=ae.refl k N.size;have O:=d.le;refine I.O (fun B=>?_);refine G.aZ 2 ?_;refine B (I.t1 (fun C=>I.O (fun E=>?_)));refine G.af ?_;refine G.v1 ((bZ).gE J) ?_;refine G.av 3 ?_;refine G.aG (Y.cast (v2:= .int .i64 8) (Y.lJ o o o bc) o) ?_;refine G.aG (Y.cast (v2:= .int .i64 256) (Y.od (8) o o o o bc bc) o) ?_;refine G.aG ((eT).gE J) ?_;refine G.eh ?_;refine G.nil (E ?_);refine dZ ?_;refine I.skip (C (I.O (fun F=>?_)));refine G.av 2 ?_;refine G.v1 (Y.cast (v2:= .int .i64 ((x).toNat:Nat)) gj (eI J)) ?_;refine G.v1 (Y.jm o gZ hA o) ?_;refine aW pr (gK.pP _ _ _ 1 _ w0 _ d bc J) ?_;rintro ac am ⟨ac,H,rfl,d,ad,A⟩;have K:=ae.O q ad j.size;have j:=j.bt A (ar.T (an.r q));obtain⟨az,rfl⟩:∃s:aO,ac=s.v:=⟨cF ac,d.bA.symm⟩;refine G.aZ 2 ?_;refine F ?_;refine I.ret (L ?_);exact⟨az,H,o,d,K,j⟩
theorem EF(k:Nat)(s:aO)(xs:List UInt8)(x:Int)(w0:World)(N:Heap)
 (d:aY k 5 N bd 1 s.v xs)(Q:xs.length≤549755813888)(P:0≤x∧x≤65535):
 aE Tryz.prog w0 189 #[s.v,.int .i64 2,.int .i64 x] N (fun r n=>∃s2:aO,∃a_:Nat,r= .tuple #[s2.v,.bool true]∧aY a_ 5 n bd 1 s2.v (xs++ck 2 (UInt64.ofNat x.toNat))∧ae k N.size a_∧aa (ay [k]) N n):=by
 refine aE.aP [s.v,.int .i64 2,.int .i64 x] Tryz.func189 ?_;intro M L;have j:aa (ay [k]) N N:=aa.refl _ _;have q:=ae.refl k N.size;have O:=d.le;refine I.O (fun B=>?_);refine G.aZ 2 ?_;refine B (I.t1 (fun C=>I.O (fun E=>?_)));refine G.af ?_;refine G.v1 ((bZ).gE J) ?_;refine G.av 3 ?_;refine G.aG (Y.cast (v2:= .int .i64 16) (Y.lJ o o o bc) o) ?_;refine G.aG (Y.cast (v2:= .int .i64 65536) (Y.od (16) o o o o bc bc) o) ?_;refine G.aG ((eT).gE J) ?_;refine G.eh ?_;refine G.nil (E ?_);refine dZ ?_;refine I.skip (C (I.O (fun F=>?_)));refine G.av 2 ?_;refine G.v1 (Y.cast (v2:= .int .i64 ((x).toNat:Nat)) gj (eI J)) ?_;refine G.v1 (Y.jm o gZ hA o) ?_;refine aW pr (gK.pP _ _ _ 2 _ w0 _ d bc J) ?_;rintro ac am ⟨ac,H,rfl,d,ad,A⟩;have K:=ae.O q ad j.size;have j:=j.bt A (ar.T (an.r q));obtain⟨az,rfl⟩:∃s:aO,ac=s.v:=⟨cF ac,d.bA.symm⟩;refine G.aZ 2 ?_;refine F ?_;refine I.ret (L ?_);exact⟨az,H,o,d,K,j⟩
set_option maxHeartbeats 1600000 in
theorem N8(k:Nat)(s:aO)(xs:List UInt8)(x:dj)(F:Nat→Prop)(w0:World)(N:Heap)
 (d:aY k 5 N bd 1 s.v xs)(eE:xs.length≤274877906944)(A:Rd F N en 33 x.cx.v x.bj)(O:bp F N.size)(f2:ax F k)(aP:0≤x.k∧x.k≤255)(dy:x.k≠0→ra x):
 aE Tryz.prog w0 122 #[s.v,hx x] N (fun r aK=>∃s2:aO,∃a_:Nat,r= .tuple #[s2.v,.bool true]∧aY a_ 5 aK bd 1 s2.v (xs++kz x)∧ae k N.size a_∧aa (ay [k]) N aK):=by
 refine aE.aP [s.v,hx x] Tryz.func122 ?_;intro dH aJ;have j:aa (ay [k]) N N:=aa.refl _ _;have ac:=ae.refl k N.size;have C:=d.le;have eC:=A.len;refine I.O (fun cx=>?_);refine G.aU Z.bv ?_;rintro v3 bF ⟨rfl,q,cy,_⟩;have bw:=ak.new d.le;obtain⟨d,A,j,_⟩:=cf cy d A j;have q:Var 29 bF N.size (dC x):=q;refine G.aZ 2 ?_;refine cx (I.O (fun cz=>?_));refine G.af ?_;refine G.a6 q.W b1 b8 cX ?_;refine aW uX (EE _ _ _ x.k w0 _ d J aP) (fun ek eo cA=>?_);have cB:=q.lt;obtain⟨cG,cH,rfl,d,aD,bL⟩:=cA;have bz:=ax.app f2 (O.mono j.size) aD;have bA:=ak.app bw.symm cB aD;have av:=ae.O ac aD j.size;obtain⟨A,q,j,_⟩:=dQ bL A f2 q bw.symm j (an.r ac);have C:=d.le;refine G.af ?_;refine G.v1 c3 ?_;refine G.v1 c3 ?_;refine G.aZ 2 ?_;refine cz (I.t2 (fun bY b0=>I.O (fun b2=>?_)));refine G.af ?_;refine G.v1 fB ?_;refine G.af ?_;refine G.wl q.W b1 b8 cX ?_;refine G.aG cC ?_;refine G.eh ?_;refine G.nil (b2 ?_);refine a8 (fun b4=>?_) (fun b4=>?_)
 ·
  have P:x.k=0:=by omega
  refine I.O (fun b5=>?_);refine G.aZ 4 ?_;refine b5 ?_;refine I.ret (b0 (aJ ?_));exact⟨cG,cH,o,by rw[wS P];exact d,av,j⟩
 ·
  have P:x.k≠0:=by omega
  have he:=dy P;have ey:=he.br;have ez:=he.bj;have dt:=he.dn;have du:=he.md;refine I.skip (bY (I.O (fun b6=>?_)));refine G.af ?_;refine G.a6 q.W b1 b3 cd ?_;refine aW sV (Ak _ _ _ x.br w0 _ d (by simp only[bT,eQ,ji,x.cl.2,x.bQ.2];omega) J) (fun ep S b7=>?_);have bP:=q.lt;obtain⟨cs,aB,rfl,d,az,bQ⟩:=b7;have bm:=ax.app bz (O.mono j.size) az;have M:=ak.app bA bP az;have a7:=ae.O av az j.size;obtain⟨A,q,j,_⟩:=dQ bQ A bz q bA j (an.r av);have C:=d.le;refine G.af ?_;refine G.v1 c3 ?_;refine G.v1 c3 ?_;refine G.aj ?_;refine b6 (I.t1 (fun b9=>?_));refine eA (fun L=>aa (ay [aB]) S L) [] ?_;have B:aa (ay [aB]) S S:=aa.refl _ _;have bn:=ae.refl aB S.size;refine U.af 0 o B ?_;refine U.t1 1 o (fun L E=>Y.fieldAddr (q.aJ E (au.T M)).W o b1 o o bx bc o) B ?_;refine U.t1 2 o (fun L E=>Y.cast (v2:=bM x.cl) (ba (((q.aJ E (au.T M)).W.drop 2).take 32) cZ bx (by rw[mE];exact bI _)) (c4 (mE _))) B ?_;refine U.t1 4 o (fun L E=>Y.fieldAddr (q.aJ E (au.T M)).W o b1 o o bx bc o) B ?_;refine U.t1 5 o (fun L E=>Y.cast (v2:=bM x.bQ) (ba (((q.aJ E (au.T M)).W.drop 34).take 32) cZ bx (by rw[mD];exact bI _)) (c4 (mD _))) B ?_;refine U.bg 3 ?_;refine cP ru (sn _ _ _ x.cl w0 _ d (by simp only[bT,eQ,ji,x.cl.2,x.bQ.2];omega)) (fun er ai b_=>?_);have bR:=q.lt;obtain⟨fl,bj,rfl,d,W,bS⟩:=b_;have bo:=ax.app bm (O.mono j.size) W;have bq:=ak.app M bR W;have bt:=ae.O a7 W j.size;have bU:=ae.O bn W B.size;obtain⟨A,q,j,B,_⟩:=dT bS A bm q M j (an.r a7) B (an.r bn);have C:=d.le;refine U.b5 B (ar.T (an.r bU)) ?_;have B:aa (ay [bj]) ai ai:=aa.refl _ _;have aL:=ae.refl bj ai.size;refine U.bg 6 ?_;refine cP ru (sn _ _ _ x.bQ w0 _ d (by simp only[bT,eQ,ji,x.cl.2,x.bQ.2];omega)) (fun et bk ca=>?_);have bV:=q.lt;obtain⟨eu,cw,rfl,d,X,bW⟩:=ca;have aN:=ax.app bo (O.mono j.size) X;have aQ:=ak.app bq bV X;have aR:=ae.O bt X j.size;have a0:=ae.O aL X B.size;obtain⟨A,q,j,B,_⟩:=dT bW A bo q bq j (an.r bt) B (an.r aL);have C:=d.le;refine U.b5 B (ar.T (an.r a0)) ?_;have B:aa (ay [cw]) bk bk:=aa.refl _ _;refine U.t1 7 o (fun L E=>gp) B ?_;refine dB ?_;refine b9 (I.O (fun cI=>?_));refine G.af ?_;refine G.aX q.W.h3 b1 fR hp ?_;refine G.v1 (bu A hW) ?_;refine G.v1 (Y.jm o gZ hA o) ?_;refine aW pr (gK.pP _ _ _ 2 _ w0 _ d bc (by simp only[bT,eQ,ji,x.cl.2,x.bQ.2];omega)) (fun a2 bB de=>?_);have a3:=q.lt;obtain⟨a2,a4,rfl,d,am,a5⟩:=de;have aS:=ax.app aN (O.mono j.size) am;have aU:=ak.app aQ a3 am;have aV:=ae.O aR am j.size;obtain⟨A,q,j,_⟩:=dQ a5 A aN q aQ j (an.r aR);have C:=d.le;obtain⟨df,rfl⟩:∃s:aO,a2=s.v:=⟨cF a2,d.bA.symm⟩;refine G.aj ?_;refine cI (I.t1 (fun dg=>I.O (fun bG=>?_)));refine G.aj ?_;refine bG (I.aC (fun _ bH _=>?_))
  refine I.bb (fun(dF:Nat×aO×Nat×(List UInt8))=>match dF with|(i,s1,R,ys)=>[(0,s1.v),(3,.pointer (some ⟨N.size,0,none⟩)),(6,.bool true),(7,.int .i64 (i:Int))])
   (fun(i,s1,R,ys) (H:Heap)=>(i≤x.bj.length)∧aY R 5 H bd 1 s1.v ys∧ys=xs++ck 1 (UInt64.ofNat x.k.toNat)++f_ 1 x.br++x.cl.1++x.bQ.1++ck 2 (UInt64.ofNat x.bj.length)++(x.bj.take i).flatMap jF∧ae a4 bB.size R∧aa (ay [a4]) bB H)
   (fun(i,s1,R,ys)=>x.bj.length-i) (0,df,a4,xs++ck 1 (UInt64.ofNat x.k.toNat)++f_ 1 x.br++x.cl.1++x.bQ.1++ck 2 (UInt64.ofNat x.bj.length)) ⟨o,o,o,o,trivial⟩ ?_ ?_
  ·
   exact⟨J,d,bl,ae.refl _ _,aa.refl _ _⟩
  rintro⟨i,s1,R,ys⟩ ev dh ew bJ a9;obtain⟨eB,d,Q,V,K⟩:=dh;have bX:=ax.app aS (O.mono j.size) V;have aG:=ak.app aU q.lt V;have aX:=ae.O aV V j.size;obtain⟨A,q,j,_⟩:=dQ K A aS q aU j (an.r aV);have C:=d.le;have aZ:=V;have eG:ys.length≤xs.length+3000000:=by have E:=qw (f:=jF) (n:=33) (l:=x.bj.take i) (fun x _=>by rw[w2];omega);rw[eJ]at E;rw[Q];simp only[bT,eQ,ji,x.cl.2,x.bQ.2];omega
  refine I.t2 (fun cJ cK=>I.O (fun cL=>?_));refine G.af ?_;refine G.aX q.W.h3 b1 fR hp ?_;refine G.v1 (bu A hW) ?_;refine G.v1 bZ (G.nil (cL ?_));refine a8 (fun ce=>?_) (fun ce=>?_)
  ·
   refine I.skip (cJ (I.t1 (fun cR=>I.aC (fun be _ _=>I.O (fun cD=>?_)))));refine G.af ?_;refine G.aX q.W.h3 b1 fR hp ?_;refine G.af ?_;have bE:i<x.bj.length:=by omega
   obtain⟨t,ag⟩:∃t,t=x.bj[i]:=⟨_,o⟩;have dx:=he.dd t (by rw[ag];exact cU bE);refine G.cn (Y.cg A i o hW j8 o o) fun ei cN=>?_;refine G.aV mm b8 ?_;refine G.v1 (Y.cast (v2:= .int .i64 t.d) (bf (cN.W.drop 0) cX) (by rw[ag])) ?_;refine aW uX (EE _ _ _ t.d w0 _ d J dx) ?_;rintro dI dJ ⟨dK,dL,rfl,d,cO,bi⟩;have a6:=ae.O aZ cO K.size;obtain⟨A,q,K,_⟩:=dQ bi A bX q aG K (an.r aZ);have C:=d.le;refine G.af ?_;refine G.v1 c3 ?_;refine G.v1 c3 ?_;refine G.aZ 2 ?_;refine cD (I.t1 (fun cQ=>I.O (fun aC=>?_)));refine G.af ?_;refine G.v1 fB (G.nil (aC ?_));refine dZ ?_;refine I.skip (cQ (I.region ?_));refine G.af ?_;refine G.aX q.W.h3 b1 fR hp ?_;refine G.af ?_;refine G.cn (Y.cg A i o hW j8 o o) fun ej cT=>?_;refine G.aV mm bx ?_;refine G.v1 (Y.cast (v2:=bM t.i) (ba ((cT.W.drop 1).take 32) cZ bx (by rw[nQ];exact bI _)) ((by rw[ag];exact c4 (nQ _)))) ?_;refine aW ru (sn _ _ _ t.i w0 _ d (by rw[bT,eQ];omega)) ?_;rintro dM dN ⟨eF,ci,rfl,d,cV,cW⟩;have c2:=ae.O a6 cV K.size;obtain⟨K,_⟩:=c0 cW K (an.r a6);have C:=d.le;refine G.aj ?_;refine be (cR (I.region ?_));refine G.af ?_;refine G.v1 bN ?_;refine G.aj ?_;refine aT.sub (bJ (i+1,eF,ci,ys++ck 1 (UInt64.ofNat t.d.toNat)++t.i.1) _ ?_ ?_) ⟨o,o,o,(aF J),trivial⟩
   ·exact⟨J,d,(by rw[rP bE,←ag,Q,jF];simp only[dA]),c2,K⟩
   ·first|omega|(simp only;omega)|(simp;omega)
  ·
   obtain rfl:i=x.bj.length:=by omega
   rw[eD]at Q;refine I.exit (cK (a9 (bH ?_)));refine dg (I.O (fun c5=>?_));refine G.af ?_;refine G.aX q.W.mj b1 b8 cX ?_;refine aW uX (EF _ _ _ x.dn w0 _ d J dt) (fun dP dR di=>?_);have c6:=q.lt;obtain⟨dS,dU,rfl,d,bb,bK⟩:=di;have c8:=ak.app aG c6 bb;have bg:=ae.O aX bb j.size;obtain⟨q,j,_⟩:=dW bK q aG j (an.r aX);have C:=d.le;refine G.af ?_;refine G.v1 c3 ?_;refine G.v1 c3 ?_;refine G.aZ 2 ?_;refine c5 (I.t1 (fun c9=>I.O (fun da=>?_)));refine G.af ?_;refine G.v1 fB (G.nil (da ?_));refine dZ ?_;refine I.skip (c9 (I.O (fun db=>?_)));refine G.af ?_;refine G.aX q.W.o2 b1 b8 cX ?_;refine aW uX (EF _ _ _ x.md w0 _ d (by rw[bT,eQ];omega) du) ?_;rintro dV dX ⟨dY,d_,rfl,d,dc,cb⟩;have af:=ae.O bg dc j.size;obtain⟨q,j,_⟩:=dW cb q c8 j (an.r bg);have C:=d.le;refine G.af ?_;refine G.v1 c3 ?_;refine G.v1 c3 ?_;refine G.aZ 2 ?_;refine db (I.t2 (fun cc cg=>I.O (fun ch=>?_)));refine G.aX q.W.sw b1 ee fc ?_;refine G.nil (ch ?_);refine dm (fun dk=>?_) (fun dk=>?_)
   ·
    refine I.O (fun cl=>?_);refine G.af ?_;refine G.aU (Z.c2 (dE _ ([(1:UInt8)]) fw fM hh)) ?_;rintro eb ec ⟨dz,cm,_⟩;obtain⟨d,j,_⟩:=bO cm d j;refine G.aU (eO d dz.rd fw (by simp[eQ];omega) (by simp[eQ];omega)) ?_;rintro bC ed ⟨dG,d,cn,ap⟩;have ap:=ap.md;have cp:=ae.O af cn j.size;obtain⟨j,_⟩:=c0 ap j (an.r af);have C:=d.le;obtain⟨dp,rfl⟩:∃s:aO,bC=s.v:=⟨cF bC,d.bA.symm⟩;refine G.aZ 3 ?_;refine cl ?_;refine I.ret (cg (aJ ?_));exact⟨dp,dG,o,by rw[wT P,aM cY,Mg];rw[Q]at d;simpa only[dA]using d,cp,j⟩
   ·
    refine I.skip (cc (I.O (fun cq=>?_)));refine G.af ?_;refine G.aU (Z.c2 (dE _ ([(0:UInt8)]) fw fM hh)) ?_;rintro ef eg ⟨dD,cr,_⟩;obtain⟨d,j,_⟩:=bO cr d j;refine G.aU (eO d dD.rd fw (by simp[eQ];omega) (by simp[eQ];omega)) ?_;rintro bD eh ⟨dq,d,ct,aH⟩;have aH:=aH.md;have cv:=ae.O af ct j.size;obtain⟨j,_⟩:=c0 aH j (an.r af);have C:=d.le;obtain⟨co,rfl⟩:∃s:aO,bD=s.v:=⟨cF bD,d.bA.symm⟩;refine G.aZ 3 ?_;refine cq ?_;refine I.ret (aJ ?_);exact⟨co,dq,o,by rw[wT P,aA h1,Mf];rw[Q]at d;simpa only[dA]using d,cv,j⟩
end AN
namespace AO
open gV lq e2 hn lu rf jH iN AN gK
abbrev qv(x:bS):UInt8:=if x.bz=true then 1 else 0
abbrev rN(x:bS):UInt8:=if x.ag=true then 2 else 0
section
variable {H : Heap} {ad : Addr}
theorem _root_.Go.Proofs.YtfjmpninmdjcaaaGreatDoor.E.cz.w6{x:bS}(h:cz H ad (dM x)):cz H ((ad.add 4).add 66) (kf x.q++[x.cG.v]):=by
 have:=h.w5.drop 66;rwa[vz (by rw[eC];omega),ym]at this
end
theorem Db(a b:Bool):[((if a=true then 1 else 0)+(if b=true then 2 else 0):UInt8)]=ck 1 ((if a=true then 1 else 0)|||(if b=true then 2 else 0)):=by
 cases a<;>cases b<;>decide+kernel
theorem Lp(x:bS)(w0:World)(N:Heap)
 (hm:b7 N dL 66 x.dI.v x.ml)(F:nA x)(aX:x.ah.length≤140737488355328∧x.q.br.length≤140737488355328):
 aE Tryz.prog w0 118 #[fo x] N (fun r Q=>r= .bool false∧al N Q):=by
 refine aE.aP [fo x] Tryz.func118 ?_;intro aL aJ;have B:al N N:=aa.refl _ _;have hm:=hm.ch;have aU:=hm.len;obtain⟨P,E⟩:∃b,b=(x.ag&&decide (x.q.k≠0)):=⟨_,o⟩;have aD:P=true→x.ag=true∧x.q.k≠0:=fun h=>by rw[E,nW,km]at h;exact h
 refine I.O (fun af=>?_);refine G.aU Z.bv ?_;rintro v1 H1 ⟨rfl,j,az,_⟩;obtain⟨hm,B,_⟩:=bO az hm B;have j:Var 32 H1 N.size (dM x):=j;refine G.aj ?_;refine af (I.t1 (fun am=>I.O (fun ag=>?_)));refine G.a6 j.W bP ee fc ?_;refine G.af ?_;refine G.join (d:=11) (v:= .bool false) 5 (fun M=>?_) ?_
 ·
  refine G.split (d:=6) o (fun g6=>?_) (fun g6=>?_)
  ·
   have aR:=F.ah (by simpa using g6);refine G.wl j.W bP b3 cd ?_;refine G.aG (hb e0) ?_;refine G.aG ((fA).gE J) ?_;refine G.W ?_;exact M _ (aI (fun b=>some (Value.bool b)) (by simp[g6])) (ai (ai (ai (ai (ai (b_ (aI Value.bool g6.symm)))))))
  ·
   refine G.av 5 ?_;exact M _ (aI (fun b=>some (Value.bool b)) (by simp[g6])) (ai (ai (ai (ai (ai (b_ (aI Value.bool g6.symm)))))))
 refine G.af ?_;refine G.wl j.W bP ee fc ?_;refine G.b4 ?_;refine G.join (d:=20) (v:= .bool P) 5 (fun K=>?_) ?_
 ·
  refine G.split (d:=15) o (fun A=>?_) (fun A=>?_)
  ·
   refine G.hl bP dP ?_;refine G.gz j.W.sA b1 b8 cX ?_;refine G.aG dX ?_;refine G.aG ga ?_;exact K _ (aI (fun b=>some (Value.bool b)) (by rw[E];simp[A])) (ai (ai (ai (ai (ai (b_ (aI Value.bool A.symm)))))))
  ·
   refine G.av 4 ?_;refine G.aG fT ?_;exact K _ (aI (fun b=>some (Value.bool b)) (by rw[E];simp[A])) (ai (ai (ai (ai (ai (b_ (aI Value.bool A.symm)))))))
 refine G.b4 ?_;refine G.join (d:=27) (v:= .bool false) 6 (fun L=>?_) ?_
 ·
  refine G.split (d:=21) o (fun n=>?_) (fun n=>?_)
  ·
   have O:=aD (by simpa using n);have aH:=F.jN O.1 O.2;have aV:=aH.br;refine G.hl bP dP ?_;refine G.gz (j.W.w5.drop 1) b1 b3 cd ?_;refine G.aG (hb e0) ?_;refine G.aG ((fA).gE J) ?_;refine G.aG ga ?_;exact L _ (aI (fun b=>some (Value.bool b)) (by simp[n])) (ai (ai (ai (ai (ai (ai (b_ (aI Value.bool n.symm))))))))
  ·
   refine G.av 5 ?_;refine G.aG fT ?_;exact L _ (aI (fun b=>some (Value.bool b)) (by simp[n])) (ai (ai (ai (ai (ai (ai (b_ (aI Value.bool n.symm))))))))
 refine G.eh ?_;refine G.nil (ag ?_);refine dZ ?_;refine I.skip (am (I.t1 (fun ap=>I.O (fun ak=>?_))));refine G.aj ?_;refine ak (I.aC (fun _ an _=>?_))
 refine I.bb (fun(i:Nat)=>[(1,.pointer (some ⟨N.size,0,none⟩)),(3,.int .i64 (i:Int))])
  (fun(i:Nat) (H:Heap)=>(i≤x.ml.length)∧al H1 H)
  (fun(i:Nat)=>x.ml.length-i) 0 ⟨o,o,trivial⟩ ?_ ?_
 ·
  exact⟨J,aa.refl _ _⟩
 intro i aQ ar aK a7 av;obtain⟨aS,ac⟩:=ar;obtain⟨hm,j,B,_⟩:=cf ac hm j B;refine I.t2 (fun ax ay=>I.O (fun aB=>?_));refine G.af ?_;refine G.a6 j.W bP fz gd ?_;refine G.v1 (bu hm e7) ?_;refine G.v1 bZ (G.nil (aB ?_));refine a8 (fun R=>?_) (fun R=>?_)
 ·
  refine I.skip (ax (I.t1 (fun S=>I.aC (fun U _ _=>I.O (fun V=>?_)))));refine G.a6 j.W bP fz gd ?_;refine G.af ?_;have aC:i<x.ml.length:=by omega
  obtain⟨y,C⟩:∃q,q=x.ml[i]:=⟨_,o⟩;have aG:y∈x.ml:=by rw[C];exact cU aC
  have aW:=F.kT y aG;refine G.cn (Y.cg hm i o e7 eS o o) fun aO W=>?_;refine G.aV dc b3 ?_;refine G.v1 (Y.cast (v2:=aN y.n) (bf (W.W.drop 0) cd) (by rw[C])) ?_;refine G.v1 (hb e0) ?_;refine G.v1 ((fA).gE J) ?_;refine G.af ?_;refine G.wl j.W bP fz gd ?_;refine G.b4 ?_;refine G.e (g:=fun ad=> .pointer (some ad)) (Y.cg hm i o e7 eS o o) bR o o (fun aP X=>?_);refine G.hl dc b3 ?_;refine G.aG (Y.cast (v2:=aN y.y) (bf X.W.qO cd) (by rw[C])) ?_;refine G.aG (hb e0) ?_;refine G.aG ((fA).gE J) ?_;refine G.eh ?_;refine G.nil (V ?_);refine dZ ?_;refine I.skip (U (S (I.region ?_)));refine G.af ?_;refine G.v1 bN ?_;refine G.aj ?_;refine aT.sub (a7 (i+1) _ ?_ ?_) ⟨o,(aF J),trivial⟩
  ·exact⟨J,ac⟩
  ·first|omega|(simp only;omega)|(simp;omega)
 ·
  refine I.exit (ay (av (an ?_)));refine ap (I.O (fun ae=>?_));refine G.aj ?_;refine ae ?_;refine I.ret (aJ ?_);exact⟨o,B⟩
set_option maxHeartbeats 1600000 in
theorem JU(x:bS)(F:Nat→Prop)(w0:World)(N:Heap)
 (A:gk F N x)(Q:bp F N.size)(K:nA x)(ft:x.ah.length≤140737488355328∧x.q.br.length≤140737488355328):
 aE Tryz.prog w0 44 #[fo x] N (fun r bF=>∃s2:aO,∃a_:Nat,r= .tuple #[s2.v,.int .i64 0]∧aY a_ 5 bF bd 1 s2.v (cK x)∧ae 0 N.size a_∧al N bF):=by
 refine aE.aP [fo x] Tryz.func44 ?_;intro fx fq;have B:al N N:=aa.refl _ _;have gi:=A.m.len;have gf:=A.e.len;have aP:=K.ml;have gb:=K.el;have fm:=tO K;obtain⟨cy,bE⟩:∃b,b=(x.ag&&decide (x.q.k≠0)):=⟨_,o⟩;have fk:cy=true→x.ag=true∧x.q.k≠0:=fun h=>by rw[bE,nW,km]at h;exact h
 refine I.O (fun eB=>?_);refine G.aU Z.bv ?_;rintro v1 H1 ⟨rfl,j,eE,_⟩;obtain⟨A,B,_⟩:=bO eE A B;have j:Var 32 H1 N.size (dM x):=j;refine G.aZ 2 ?_;refine eB (I.t1 (fun eG=>I.O (fun eI=>?_)));refine G.a6 j.W bP fz gd ?_;refine G.v1 (bu A.m e7) ?_;refine G.v1 ((fA).gE J) ?_;refine G.af ?_;refine G.gz j.W.ig bP eN fD ?_;refine G.aG (bu A.e dy) ?_;refine G.aG ((fA).gE J) ?_;refine G.av 2 ?_;refine G.wl j.W bP ee fc ?_;refine G.b4 ?_;refine G.join (d:=27) (v:= .bool cy) 5 (fun bG=>?_) ?_
 ·
  refine G.split (d:=22) o (fun aB=>?_) (fun aB=>?_)
  ·
   refine G.hl bP dP ?_;refine G.gz j.W.sA b1 b8 cX ?_;refine G.aG dX ?_;refine G.aG ga ?_;exact bG _ (aI (fun b=>some (Value.bool b)) (by rw[bE];simp[aB])) (ai (ai (ai (ai (ai (b_ (aI Value.bool aB.symm)))))))
  ·
   refine G.av 4 ?_;refine G.aG fT ?_;exact bG _ (aI (fun b=>some (Value.bool b)) (by rw[bE];simp[aB])) (ai (ai (ai (ai (ai (b_ (aI Value.bool aB.symm)))))))
 refine G.b4 ?_;refine G.join (d:=34) (v:= .bool false) 6 (fun bH=>?_) ?_
 ·
  refine G.split (d:=28) o (fun V=>?_) (fun V=>?_)
  ·
   have C:=fk (by simpa using V);have fp:=K.jN C.1 C.2;have bh:=fp.bj;refine G.hl bP dP ?_;refine G.gz j.W.w6 b1 fR hp ?_;refine G.aG (bu A.q hW) ?_;refine G.aG ((fA).gE J) ?_;refine G.aG ga ?_;exact bH _ (aI (fun b=>some (Value.bool b)) (by simp[V])) (ai (ai (ai (ai (ai (ai (b_ (aI Value.bool V.symm))))))))
  ·
   refine G.av 5 ?_;refine G.aG fT ?_;exact bH _ (aI (fun b=>some (Value.bool b)) (by simp[V])) (ai (ai (ai (ai (ai (ai (b_ (aI Value.bool V.symm))))))))
 refine G.eh ?_;refine G.nil (eI ?_);refine dZ ?_;refine I.skip (eG (I.t1 (fun eJ=>I.O (fun eM=>?_))));refine G.v1 (ba j.W hR gh (eu _)) ?_;refine aW HO (Lp x w0 _ A.m.any K ft) ?_;rintro fS bC ⟨rfl,d_⟩;obtain⟨A,j,B,_⟩:=cf d_ A j B;refine G.nil (eM ?_);refine dZ ?_;refine I.skip (eJ (I.O (fun eO=>?_)));refine G.aj ?_;refine eO ?_
 refine I.cut (fun(_:Unit)=>[(1,.pointer (some ⟨N.size,0,none⟩)),(4,.int .u8 (qv x).toNat)])
  (fun(_:Unit) (H:Heap)=>True∧al bC H) (fun _ cn _=>?_) ?_
 ·
  have bL:al bC bC:=aa.refl _ _;refine I.O (fun eP=>?_);refine G.a6 j.W bP ee fc ?_;refine G.nil (eP ?_);refine dm (fun eb=>?_) (fun eb=>?_)
  ·
   refine I.region ?_;refine G.aj ?_;refine aT.sub (cn () _ ?_) ⟨o,(by first|(rw[qv,aM cY];rfl)|(rw[qv,aA h1];rfl)),trivial⟩;exact⟨trivial,bL⟩
  ·
   refine I.skip ?_;refine aT.sub (cn () _ ?_) ⟨o,(by first|(rw[qv,aM cY];rfl)|(rw[qv,aA h1];rfl)),trivial⟩;exact⟨trivial,bL⟩
 ·
  intro _ bt cH;obtain⟨fr,cC⟩:=cH;obtain⟨A,j,B,_⟩:=cf cC A j B
  refine I.cut (fun(_:Unit)=>[(1,.pointer (some ⟨N.size,0,none⟩)),(4,.int .u8 (qv x+rN x).toNat)])
   (fun(_:Unit) (H:Heap)=>True∧al bt H) (fun _ cp _=>?_) ?_
  ·
   have bR:al bt bt:=aa.refl _ _;refine I.O (fun c9=>?_);refine G.a6 j.W bP ee fc ?_;refine G.nil (c9 ?_);refine dm (fun ec=>?_) (fun ec=>?_)
   ·
    refine I.region ?_;refine G.af ?_;refine G.v1 (Y.GX (b:=(UInt8.ofNat 2)) o o o) ?_;refine G.aj ?_;refine aT.sub (cp () _ ?_) ⟨o,(by first|(rw[rN,aM cY];rfl)|(rw[rN,aA h1,UInt8.add_zero];rfl)),trivial⟩;exact⟨trivial,bR⟩
   ·
    refine I.skip ?_;refine aT.sub (cp () _ ?_) ⟨o,(by first|(rw[rN,aM cY];rfl)|(rw[rN,aA h1,UInt8.add_zero];rfl)),trivial⟩;exact⟨trivial,bR⟩
  ·
   intro _ aH cI;obtain⟨fr,ap⟩:=cI;obtain⟨A,j,B,_⟩:=cf ap A j B;refine I.O (fun da=>?_);refine G.af ?_;refine G.aU (Z.c2 (dE _ ([qv x+rN x]) fw fM hh)) ?_;rintro cq aD ⟨n,de,_⟩;have cr:=ax.new (Q.mono B.size);have ct:=ak.new j.lt;have cv:=ae.new B.size;obtain⟨A,j,B,_⟩:=cf de A j B;obtain⟨ed,rfl⟩:∃s:aO,cq=s.v:=⟨cF cq,n.bA.symm⟩;refine G.aj ?_;refine da ?_
   refine I.cut (fun(S:aO×Nat)=>match S with|(s1,aZ)=>[(1,.pointer (some ⟨N.size,0,none⟩)),(5,s1.v)])
    (fun(s1,aZ) (H:Heap)=>(aY aZ 5 H bd 1 s1.v (lL x))∧ae (aH.size+1) aD.size aZ∧aa (ay [(aH.size+1)]) aD H) (fun _ bU _=>?_) ?_
   ·
    have aJ:aa (ay [(aH.size+1)]) aD aD:=aa.refl _ _;have bn:=ae.refl (aH.size+1) aD.size;refine I.O (fun df=>?_);refine G.a6 j.W bP ee fc ?_;refine G.nil (df ?_);refine dm (fun bK=>?_) (fun bK=>?_)
    ·
     refine I.region ?_;refine G.af ?_;refine G.a6 j.W bP b3 cd ?_;refine aW sV (Ak _ _ _ x.ah w0 _ n bl (by have:=K.ah bK;omega)) ?_;rintro hg ds ⟨eK,ef,rfl,n,dg,dh⟩;have di:=ae.O bn dg aJ.size;obtain⟨aJ,_⟩:=c0 dh aJ (an.r bn);have M:=n.le;refine G.af ?_;refine G.v1 c3 ?_;refine G.v1 c3 ?_;refine G.aj ?_;refine aT.sub (bU (eK,ef) _ ?_) ⟨o,o,trivial⟩;exact⟨(by rw[lL,aM bK,k6,←Db];exact n),di,aJ⟩
    ·
     refine I.skip ?_;refine aT.sub (bU (ed,(aH.size+1)) _ ?_) ⟨o,o,trivial⟩;exact⟨(by rw[lL,aA (by simp[bK]),hi,k6,←Db];exact n),bn,aJ⟩
   ·
    rintro⟨s1,aZ⟩ fC cL;obtain⟨n,E,cG⟩:=cL;have bV:=ax.app cr (Q.mono B.size) E;have bW:=ak.app ct j.lt E;have bX:=ae.O cv E B.size;obtain⟨A,j,B,_⟩:=dQ cG A cr j ct B cv;have M:=n.le;refine I.O (fun dj=>?_);refine G.af ?_;refine G.a6 j.W bP fz gd ?_;refine G.v1 (bu A.m e7) ?_;refine G.v1 (Y.jm o gZ hA o) ?_;refine aW pr (gK.pP _ _ _ 2 _ w0 _ n bc J) (fun bw cw eg=>?_);have dk:=j.lt;obtain⟨bw,bz,rfl,n,bb,dp⟩:=eg;have bY:=ax.app bV (Q.mono B.size) bb;have b0:=ak.app bW dk bb;have b2:=ae.O bX bb B.size;obtain⟨A,j,B,_⟩:=dQ dp A bV j bW B bX;have M:=n.le;obtain⟨eh,rfl⟩:∃s:aO,bw=s.v:=⟨cF bw,n.bA.symm⟩;refine G.aj ?_;refine dj (I.t1 (fun dq=>I.O (fun du=>?_)));refine G.aj ?_;refine du (I.aC (fun _ dx _=>?_))
    refine I.bb (fun(S:Nat×aO×Nat)=>match S with|(i,ey,R)=>[(1,.pointer (some ⟨N.size,0,none⟩)),(5,ey.v),(6,.int .i64 (i:Int))])
     (fun(i,ey,R) (H:Heap)=>(i≤x.ml.length)∧aY R 5 H bd 1 ey.v ((lL x++ck 2 (UInt64.ofNat x.ml.length)++(x.ml.take i).flatMap iX))∧ae bz cw.size R∧aa (ay [bz]) cw H)
     (fun(i,ey,R)=>x.ml.length-i) (0,eh,bz) ⟨o,o,o,trivial⟩ ?_ ?_
    ·
     exact⟨J,(by simpa using n),ae.refl _ _,aa.refl _ _⟩
    rintro⟨i,ey,R⟩ aG c5 fU dz dC;obtain⟨fi,n,E,L⟩:=c5;have aL:=ax.app bY (Q.mono B.size) E;have aR:=ak.app b0 j.lt E;have bg:=ae.O b2 E B.size;obtain⟨A,j,B,_⟩:=dQ L A bY j b0 B b2;have M:=n.le;have b4:=E;have fj:=zk K i;have cx:(lL x++ck 2 (UInt64.ofNat x.ml.length)++(x.ml.take i).flatMap iX).length≤4400000000:=by simp only[bT,eQ];omega
    refine I.t2 (fun dD dF=>I.O (fun dH=>?_));refine G.af ?_;refine G.a6 j.W bP fz gd ?_;refine G.v1 (bu A.m e7) ?_;refine G.v1 bZ (G.nil (dH ?_));refine a8 (fun ei=>?_) (fun ei=>?_)
    ·
     refine I.skip (dD (I.t1 (fun dI=>I.aC (fun dJ _ _=>I.O (fun dK=>?_)))));refine G.af ?_;refine G.a6 j.W bP fz gd ?_;refine G.af ?_;have aQ:i<x.ml.length:=by omega
     obtain⟨y,O⟩:∃q,q=x.ml[i]:=⟨_,o⟩;have aX:y∈x.ml:=by rw[O];exact cU aQ
     have gm:=K.kT y aX;refine G.cn (Y.cg A.m i o e7 eS o o) fun fE dL=>?_;refine G.aV dc b3 ?_;refine G.v1 (Y.cast (v2:=aN y.n) (bf (dL.W.drop 0) cd) (by rw[O])) ?_;refine aW sV (Ak _ _ _ y.n w0 _ n J J) (fun fV aV eR=>?_);have dN:=j.lt;obtain⟨fW,bA,rfl,n,bj,cN⟩:=eR;have W:=ax.app aL (Q.mono B.size) bj;have X:=ak.app aR dN bj;have b5:=ae.O b4 bj L.size;obtain⟨A,j,B,L,_⟩:=dT cN A aL j aR B bg L (an.r b4);have M:=n.le;refine G.af ?_;refine G.v1 c3 ?_;refine G.v1 c3 ?_;refine G.aj ?_;refine dK (I.t1 (fun cO=>?_));refine eA (fun P=>aa (ay [bA]) aV P) [] ?_;have ac:aa (ay [bA]) aV aV:=aa.refl _ _;have b6:=ae.refl bA aV.size;refine U.af 0 o ac ?_;refine U.t1 1 o (fun P C=>Y.fieldAddr (j.aJ C (au.T X)).W o bP o o fz bc o) ac ?_;refine U.t1 2 o (fun P C=>bf ((j.aJ C (au.T X)).W.drop 2) gd) ac ?_;refine U.af 3 o ac ?_;refine U.e (g:=fun ad=> .pointer (some ad)) 4 bD o bD bD bD (Y.cg A.m i o e7 eS o o) cS o o ac (fun fJ b7=>?_);refine U.t1 5 o (fun P C=>Y.fieldAddr (b7.aJ C (aS.T W)).W o dc o o bx bc o) ac ?_;refine U.t1 6 o (fun P C=>Y.cast (v2:=bM y.T) (ba (((b7.aJ C (aS.T W)).W.drop 1).take 32) cZ bx (by rw[jd];exact bI _)) ((by rw[O];exact c4 (jd _)))) ac ?_;refine U.t1 8 o (fun P C=>Y.fieldAddr (j.aJ C (au.T X)).W o bP o o fz bc o) ac ?_;refine U.t1 9 o (fun P C=>bf ((j.aJ C (au.T X)).W.drop 2) gd) ac ?_;refine U.af 10 o ac ?_;refine U.e (g:=fun ad=> .pointer (some ad)) 11 bD o bD bD bD (Y.cg A.m i o e7 eS o o) cS o o ac (fun bo a0=>?_);refine U.t1 12 o (fun P C=>Y.fieldAddr (a0.aJ C (aS.T W)).W o dc o o bx bc o) ac ?_;refine U.t1 13 o (fun P C=>Y.cast (v2:=bM y.w) (ba (((a0.aJ C (aS.T W)).W.drop 33).take 32) cZ bx (by rw[gB];exact bI _)) ((by rw[O];exact c4 (gB _)))) ac ?_;refine U.bg 7 ?_;refine cP ru (sn _ _ _ y.T w0 _ n (by rw[bT,ji];omega)) (fun fX bB eH=>?_);have cQ:=j.lt;obtain⟨fY,b9,rfl,n,aU,cT⟩:=eH;have cV:=ax.app W (Q.mono B.size) aU;have cW:=ak.app X cQ aU;have a2:=ae.O b5 aU L.size;have c6:=ae.O b6 aU ac.size;obtain⟨A,j,L,ac,_⟩:=dT cT A W j X L (an.r b5) ac (an.r b6);have M:=n.le;refine U.b5 ac (ar.T (an.r c6)) ?_;have ac:aa (ay [b9]) bB bB:=aa.refl _ _;have a3:=ae.refl b9 bB.size;refine U.bg 14 ?_;refine cP ru (sn _ _ _ y.w w0 _ n (by rw[bT,bT,ji,y.T.2];omega)) ?_;rintro fZ ca ⟨f_,ez,rfl,n,a4,c8⟩;have a5:=ae.O a2 a4 L.size;have dR:=ae.O a3 a4 ac.size;obtain⟨A,j,L,ac,_⟩:=dT c8 A cV j cW L (an.r a2) ac (an.r a3);have M:=n.le;refine U.b5 ac (ar.T (an.r dR)) ?_;have ac:aa (ay [ez]) ca ca:=aa.refl _ _;refine U.t1 15 o (fun P C=>gp) ac ?_;refine dB ?_;refine cO (I.region ?_);refine G.af ?_;refine G.a6 j.W bP fz gd ?_;refine G.af ?_;refine G.cn (Y.cg A.m i o e7 eS o o) fun dd eT=>?_;refine G.aV dc b3 ?_;refine G.v1 (Y.cast (v2:=aN y.y) (bf eT.W.qO cd) (by rw[O])) ?_;refine aW sV (OZ _ _ _ y.y w0 _ n (by rw[bT,bT,bT,ji,y.T.2,y.w.2];omega) J) ?_;rintro fK h9 ⟨eU,eV,rfl,n,cz,cA⟩;have eW:=ae.O a5 cz L.size;obtain⟨L,_⟩:=c0 cA L (an.r a5);have M:=n.le;refine G.af ?_;refine G.v1 c3 ?_;refine G.v1 c3 ?_;refine G.aj ?_;refine dJ (dI (I.region ?_));refine G.af ?_;refine G.v1 bN ?_;refine G.aj ?_;refine aT.sub (dz (i+1,eU,eV) _ ?_ ?_) ⟨o,o,(aF J),trivial⟩
     ·exact⟨J,(by rw[rP aQ,←O,iX];simpa only[dA]using n),eW,L⟩
     ·first|omega|(simp only;omega)|(simp;omega)
    ·
     obtain rfl:i=x.ml.length:=by omega
     rw[eD]at n cx;have fm:=tO K;refine I.exit (dF (dC (dx ?_)));refine dq ?_
     refine I.cut (fun(S:aO×Nat)=>match S with|(c2,iR)=>[(1,.pointer (some ⟨N.size,0,none⟩)),(5,c2.v)])
      (fun(c2,iR) (H:Heap)=>(aY iR 5 H bd 1 c2.v (lI x))∧ae R aG.size iR∧aa (ay [R]) aG H) (fun _ bJ _=>?_) ?_
     ·
      have aK:aa (ay [R]) aG aG:=aa.refl _ _;have bq:=ae.refl R aG.size;refine I.O (fun ce=>?_);refine G.a6 j.W bP ee fc ?_;refine G.nil (ce ?_);refine dm (fun av=>?_) (fun av=>?_)
      ·
       refine I.O (fun eY=>?_);refine G.aj ?_;refine eY (I.O (fun eZ=>?_));refine G.af ?_;refine G.aV bP dP ?_;refine G.v1 (Y.cast (v2:=hx x.q) (ba ((j.W.drop 4).take 70) kF dP (by rw[lA];exact eC _)) (c4 (lA x))) ?_;refine aW HP (N8 _ _ _ x.q F w0 _ n J A.q (Q.mono B.size) aL (K.kg av) (K.jN av)) ?_;rintro fL fN ⟨eF,ci,rfl,n,a9,cB⟩;have e0:=ae.O bq a9 aK.size;obtain⟨aK,_⟩:=c0 cB aK (an.r bq);have M:=n.le;refine G.af ?_;refine G.v1 c3 ?_;refine G.v1 c3 ?_;refine G.aZ 2 ?_;refine eZ (I.O (fun e1=>?_));refine G.af ?_;refine G.v1 fB (G.nil (e1 ?_));refine dZ ?_;refine I.skip ?_;refine aT.sub (bJ (eF,ci) _ ?_) ⟨o,o,trivial⟩;exact⟨(by rw[lI,aM av];exact n),e0,aK⟩
      ·
       refine I.skip ?_;refine aT.sub (bJ (ey,R) _ ?_) ⟨o,o,trivial⟩;exact⟨(by rw[lI,aA (by simp[av]),hi];exact n),bq,aK⟩
     ·
      rintro⟨c2,iR⟩ fy a7;obtain⟨n,E,am⟩:=a7;have cb:=ax.app aL (Q.mono B.size) E;have cc:=ak.app aR j.lt E;have cR:=ae.O bg E B.size;obtain⟨A,j,B,_⟩:=dQ am A aL j aR B bg;have M:=n.le;refine I.O (fun dG=>?_);refine G.af ?_;refine G.aX j.W.ig bP eN fD ?_;refine G.v1 (bu A.e dy) ?_;refine G.v1 (Y.jm o gZ hA o) ?_;refine aW pr (gK.pP _ _ _ 2 _ w0 _ n bc (by have:=wb K;omega)) (fun bk be e2=>?_);have e3:=j.lt;obtain⟨bk,bm,rfl,n,a6,cD⟩:=e2;have cg:=ax.app cb (Q.mono B.size) a6;have ch:=ak.app cc e3 a6;have bi:=ae.O cR a6 B.size;obtain⟨A,j,B,_⟩:=dQ cD A cb j cc B cR;have M:=n.le;obtain⟨co,rfl⟩:∃s:aO,bk=s.v:=⟨cF bk,n.bA.symm⟩;refine G.aj ?_;refine dG (I.t1 (fun e4=>I.O (fun e6=>?_)));refine G.aj ?_;refine e6 (I.aC (fun _ e8 _=>?_))
      refine I.bb (fun(S:Nat×aO×Nat)=>match S with|(i,ag,af)=>[(1,.pointer (some ⟨N.size,0,none⟩)),(5,ag.v),(8,.int .i64 (i:Int))])
       (fun(i,ag,af) (H:Heap)=>(i≤x.el.length)∧aY af 5 H bd 1 ag.v (lI x++ck 2 (UInt64.ofNat x.el.length)++(x.el.take i).flatMap iV)∧ae bm be.size af∧aa (ay [bm]) be H)
       (fun(i,ag,af)=>x.el.length-i) (0,co,bm) ⟨o,o,o,trivial⟩ ?_ ?_
      ·
       exact⟨J,(by simpa using n),ae.refl _ _,aa.refl _ _⟩
      rintro⟨i,ag,af⟩ fH fh fI cs e9;obtain⟨fi,n,E,az⟩:=fh;have bQ:=ax.app cg (Q.mono B.size) E;have fl:=ak.app ch j.lt E;have e_:=ae.O bi E B.size;obtain⟨A,j,B,_⟩:=dQ az A cg j ch B bi;have M:=n.le;have cl:=E;have fj:=CI K i;have gj:=wb K;have gg:=K.el;have cx:(lI x++ck 2 (UInt64.ofNat x.el.length)++(x.el.take i).flatMap iV).length≤8800000000:=by simp only[bT,eQ];omega
      refine I.t2 (fun fa ff=>I.O (fun fg=>?_));refine G.af ?_;refine G.aX j.W.ig bP eN fD ?_;refine G.v1 (bu A.e dy) ?_;refine G.v1 bZ (G.nil (fg ?_));refine a8 (fun ej=>?_) (fun ej=>?_)
      ·
       refine I.skip (fa (I.t1 (fun ek=>I.aC (fun eo _ _=>I.O (fun ep=>?_)))));refine G.af ?_;refine G.aX j.W.ig bP eN fD ?_;refine G.af ?_;have aQ:i<x.el.length:=by omega
       obtain⟨y,O⟩:∃q,q=x.el[i]:=⟨_,o⟩;have aX:y∈x.el:=by rw[O];exact cU aQ
       have gl:=K.md y aX;refine G.cn (Y.cg A.e i o dy db o o) fun fF aC=>?_;refine G.aV gU bx ?_;refine G.v1 (Y.cast (v2:=bM y.k) (ba ((aC.W.drop 0).take 32) cZ bx (by rw[gS];exact bI _)) ((by rw[O];exact c4 (gS _)))) ?_;refine aW ru (sn _ _ _ y.k w0 _ n J) ?_;rintro fO fP ⟨dl,cJ,rfl,n,dS,dU⟩;have cm:=ae.O cl dS az.size;obtain⟨A,j,az,_⟩:=dQ dU A bQ j fl az (an.r cl);have M:=n.le;refine G.aj ?_;refine ep (I.region ?_);refine G.af ?_;refine G.aX j.W.ig bP eN fD ?_;refine G.af ?_;refine G.cn (Y.cg A.e i o dy db o o) fun fG dV=>?_;refine G.aV gU dt ?_;refine G.v1 (Y.cast (v2:=y.v.v) (bf dV.W.mP fe) (by rw[O])) ?_;refine G.v1 (Y.qn (A.d y aX) o Tryz.underlying57 Tryz.underlying9 Tryz.underlying5 o) ?_;refine aW sV (O0 _ _ _ y.d w0 _ n (by rw[bT,y.k.2];omega) J) ?_;rintro dn fQ ⟨er,et,rfl,n,dW,dY⟩;have ev:=ae.O cm dW az.size;obtain⟨az,_⟩:=c0 dY az (an.r cm);have M:=n.le;refine G.af ?_;refine G.v1 c3 ?_;refine G.v1 c3 ?_;refine G.aj ?_;refine eo (ek (I.region ?_));refine G.af ?_;refine G.v1 bN ?_;refine G.aj ?_;refine aT.sub (cs (i+1,er,et) _ ?_ ?_) ⟨o,o,(aF J),trivial⟩
       ·exact⟨J,(by rw[rP aQ,←O,iV];simpa only[dA]using n),ev,az⟩
       ·first|omega|(simp only;omega)|(simp;omega)
      ·
       obtain rfl:i=x.el.length:=by omega
       rw[eD]at n;refine I.exit (ff (e9 (e8 ?_)));refine e4 (I.O (fun ew=>?_));refine G.aZ 3 ?_;refine ew ?_;refine I.ret (fq ?_);exact⟨ag,af,o,by rw[CM];exact n,e_,B⟩
end AO
namespace qc
open gV e2 lu pd iN gK
def iz(l:List bY):Nat:=(l.map (fun m=>m.n.length+m.y.length)).sum
def j4(l:List bU):Nat:=(l.map (fun x=>x.d.length)).sum
theorem L8{l:List bY}{i:Nat}(h:i<l.length):iz (l.take (i+1))=iz (l.take i)+(l[i].n.length+l[i].y.length):=by
 unfold iz;rw[eP h,gg,r3];simp only[dk,lG,ib,vF,mI]
theorem L6{l:List bU}{i:Nat}(h:i<l.length):j4 (l.take (i+1))=j4 (l.take i)+l[i].d.length:=by
 unfold j4;rw[eP h,gg,r3];simp only[dk,lG,ib,vF,mI]
structure uD (t:bS):Prop where
 ah:t.ah.length≤140737488355328
 br:t.q.br.length≤140737488355328
 dI:∀m∈t.ml,m.n.length≤140737488355328∧m.y.length≤140737488355328
 md:∀x∈t.el,x.d.length≤140737488355328
def qP(t:bS):Nat:=t.ah.length+t.q.br.length+iz t.ml+j4 t.el
def hB(t:bS):Prop:=qP t<20000∧t.ml.length<40∧t.el.length<40∧t.q.bj.length<200
instance (t:bS):Decidable (hB t):=by unfold hB;exact inferInstance
theorem L9{l:List bY}(h:∀m∈l,m.n.length≤140737488355328∧m.y.length≤140737488355328):iz l≤281474976710656*l.length:=by
 induction l with
 |nil=>simp[iz]
 |cons x l ih=>
  have d:=h x gw;have ab:=ih (fun m hm=>h m (hj _ hm));unfold iz at ab⊢;simp only[dk,ib,fx];omega
theorem L7{l:List bU}(h:∀x∈l,x.d.length≤140737488355328):j4 l≤140737488355328*l.length:=by
 induction l with
 |nil=>simp[j4]
 |cons x l ih=>
  have d:=h x gw;have ab:=ih (fun m hm=>h m (hj _ hm));unfold j4 at ab⊢;simp only[dk,ib,fx];omega
theorem zr:∀{l:List bY} {m:bY},m∈l→m.n.length+m.y.length≤iz l
 |x::l,m,h=>by
  unfold iz;simp only[dk,ib];rcases dU.1 h with rfl|h
  ·omega
  ·have:=zr h;unfold iz at this;omega
theorem Ev:∀(l:List bY),(l.flatMap iX).length=67*l.length+iz l
 |[]=>rfl
 |x::l=>by
  have:=Ev l;rw[lD,bT,sg,this];unfold iz;simp only[dk,ib,fx];omega
theorem Eh:∀(l:List bU),(l.flatMap iV).length=36*l.length+j4 l
 |[]=>rfl
 |x::l=>by
  have:=Eh l;rw[lD,bT,Ef,this];unfold j4;simp only[dk,ib,fx];omega
theorem Oz(q:dj):(kz q).length≤100+q.br.length+33*q.bj.length:=by
 have d:=qw (f:=jF) (n:=33) (l:=q.bj) (fun x _=>by rw[w2];omega);unfold kz;split<;>simp only[bT,eQ,ji,q.cl.2,q.bQ.2,je]<;>omega
theorem vj{t:bS}(h:hB t):(cK t).length≤31000:=by
 obtain⟨j,ab,q,r⟩:=h;have aP:=Ev t.ml;have d:=Eh t.el;have n:=Oz t.q;unfold qP at j;unfold cK;simp only[bT,eQ,aP,d];split<;>split<;>simp only[bT,eQ,ji,je]<;>omega
theorem qu{t:bS}(h:hB t):oy t:=by
 have q:=vj h;obtain⟨d,ab,j,n⟩:=h;unfold qP at d;exact⟨by omega,by omega,fun m hm=>by have:=zr hm;omega,fun m hm=>by have:=zr hm;omega,by omega,by omega,by omega,by omega⟩
set_option maxHeartbeats 1600000 in
theorem C3(x:bS)(w0:World)(N:Heap)
 (hm:b7 N dL 66 x.dI.v x.ml)(n:b7 N en 33 x.q.cx.v x.q.bj)(he:b7 N cb 33 x.cG.v x.el)(ah:∀y∈x.el,b7 N bd 1 y.v.v y.d)(hw:uD x):
 aE Tryz.prog w0 13 #[fo x] N (fun r ak=>r= .bool (decide (hB x))∧al N ak):=by
 refine aE.aP [fo x] Tryz.func13 ?_;intro bw bo;have B:al N N:=aa.refl _ _;have hm:=hm.ch;have n:=n.ch;have he:=he.ch;have ah:=fun y bp=>(ah y bp).ch;have bH:=hm.len;have bG:=n.len;have bD:=he.len;have aG:=hw.ah;have bJ:=hw.br;refine I.O (fun an=>?_);refine G.aU Z.bv ?_;rintro v1 H1 ⟨rfl,j,ar,_⟩;obtain⟨hm,n,he,ah,B,_⟩:=dH ar hm n he ah B;have j:Var 32 H1 N.size (dM x):=j;refine G.aj ?_;refine an (I.O (fun av=>?_));refine G.a6 j.W bP b3 cd ?_;refine G.v1 (hb e0) ?_;refine G.aV bP dP ?_;refine G.aX (j.W.w5.drop 1) b1 b3 cd ?_;refine G.v1 (hb e0) ?_;refine G.v1 (Y.cast (v2:= .int .i64 (x.ah.length+x.q.br.length:Nat)) bN (eI J)) ?_;refine G.aj ?_;refine av (I.t1 (fun ax=>I.O (fun ay=>?_)));refine G.aj ?_;refine ay (I.aC (fun _ aB _=>?_))
 refine I.bb (fun(i1:Nat)=>[(1,.pointer (some ⟨N.size,0,none⟩)),(3,.int .i64 ((x.ah.length+x.q.br.length+iz (x.ml.take i1)):Nat)),(4,.int .i64 (i1:Int))])
  (fun(i1:Nat) (H:Heap)=>(i1≤x.ml.length∧i1≤40)∧al H1 H)
  (fun(i1:Nat)=>x.ml.length-i1) 0 ⟨o,(by simp[iz,c6]),o,trivial⟩ ?_ ?_
 ·
  exact⟨J,aa.refl _ _⟩
 intro i1 aC aD bt aH aJ;obtain⟨bE,W⟩:=aD;obtain⟨hm,n,he,ah,j,B,_⟩:=fY W hm n he ah j B;have bm:=L9 (l:=x.ml.take i1) (fun m hm=>hw.dI m (kQ hm));rw[eJ]at bm;refine I.t2 (fun aK aL=>I.O (fun aO=>?_));refine G.af ?_;refine G.a6 j.W bP fz gd ?_;refine G.v1 (bu hm e7) ?_;refine G.v1 bZ ?_;refine G.af ?_;refine G.join (d:=22) (v:= .bool (decide ((i1:Int)<x.ml.length∧(i1:Int)<40))) 3 (fun Q=>?_) ?_
 ·
  refine G.bL (d:=19) o (fun C=>?_) (fun C=>?_)
  ·
   refine G.b4 ?_;refine G.aG bZ ?_;refine G.W ?_;exact Q _ (aI (fun b=>some (Value.bool b)) (by simp[C])) (ai (ai (ai (b_ (aI Value.bool (cT C).symm)))))
  ·
   refine G.av 3 ?_;exact Q _ (aI (fun b=>some (Value.bool b)) (by simp[C])) (ai (ai (ai (b_ (aI Value.bool (cL C).symm)))))
 refine G.nil (aO ?_);refine a8 (fun aQ=>?_) (fun aQ=>?_)
 ·
  refine I.skip (aK (I.t1 (fun aR=>I.aC (fun aV _ _=>?_))));refine jk ?_;refine G.af ?_;refine G.a6 j.W bP fz gd ?_;refine G.af ?_;have M:i1<x.ml.length:=by omega
  obtain⟨y,A⟩:∃q,q=x.ml[i1]:=⟨_,o⟩;have O:y∈x.ml:=by rw[A];exact cU M
  have bq:=hw.dI y O;refine G.cn (Y.cg hm i1 o e7 eS o o) fun bx aW=>?_;refine G.aV dc b3 ?_;refine G.v1 (Y.cast (v2:=aN y.n) (bf (aW.W.drop 0) cd) (by rw[A])) ?_;refine G.v1 (hb e0) ?_;refine G.v1 (Y.cast (v2:= .int .i64 ((x.ah.length+x.q.br.length+iz (x.ml.take i1))+y.n.length:Nat)) bN (eI J)) ?_;refine G.a6 j.W bP fz gd ?_;refine G.af ?_;refine G.cn (Y.cg hm i1 o e7 eS o o) fun bz aX=>?_;refine G.aV dc b3 ?_;refine G.v1 (Y.cast (v2:=aN y.y) (bf aX.W.qO cd) (by rw[A])) ?_;refine G.v1 (hb e0) ?_;refine G.v1 (Y.cast (v2:= .int .i64 ((x.ah.length+x.q.br.length+iz (x.ml.take (i1+1))):Nat)) bN (eI (by rw[L8 M,←A];omega))) ?_;refine G.aj ?_;refine aV (aR (I.region ?_));refine G.af ?_;refine G.v1 bN ?_;refine G.aj ?_;refine aT.sub (aH (i1+1) _ ?_ ?_) ⟨o,(aF J),(aF J),trivial⟩
  ·exact⟨J,W⟩
  ·first|omega|(simp only;omega)|(simp;omega)
 ·
  have af:x.ml.length<40→i1=x.ml.length:=fun bl=>by omega
  refine I.exit (aL (aJ (aB ?_)));refine ax (I.t1 (fun az=>I.O (fun am=>?_)));refine G.aj ?_;refine am (I.aC (fun _ aZ _=>?_))
  refine I.bb (fun(i2:Nat)=>[(1,.pointer (some ⟨N.size,0,none⟩)),(3,.int .i64 (((x.ah.length+x.q.br.length+iz (x.ml.take i1))+j4 (x.el.take i2)):Nat)),(5,.int .i64 (i2:Int))])
   (fun(i2:Nat) (H:Heap)=>(i2≤x.el.length∧i2≤40)∧al aC H)
   (fun(i2:Nat)=>x.el.length-i2) 0 ⟨o,(by simp[j4,c6]),o,trivial⟩ ?_ ?_
  ·
   exact⟨J,aa.refl _ _⟩
  intro i2 bB aS bC ap a6;obtain⟨bF,ac⟩:=aS;obtain⟨hm,n,he,ah,j,B,_⟩:=fY ac hm n he ah j B;have bn:=L7 (l:=x.el.take i2) (fun m hm=>hw.md m (kQ hm));rw[eJ]at bn;refine I.t2 (fun a_ ba=>I.O (fun a7=>?_));refine G.af ?_;refine G.aX j.W.ig bP eN fD ?_;refine G.v1 (bu he dy) ?_;refine G.v1 bZ ?_;refine G.af ?_;refine G.join (d:=50) (v:= .bool (decide ((i2:Int)<x.el.length∧(i2:Int)<40))) 3 (fun R=>?_) ?_
  ·
   refine G.bL (d:=47) o (fun E=>?_) (fun E=>?_)
   ·
    refine G.b4 ?_;refine G.aG bZ ?_;refine G.W ?_;exact R _ (aI (fun b=>some (Value.bool b)) (by simp[E])) (ai (ai (ai (b_ (aI Value.bool (cT E).symm)))))
   ·
    refine G.av 3 ?_;exact R _ (aI (fun b=>some (Value.bool b)) (by simp[E])) (ai (ai (ai (b_ (aI Value.bool (cL E).symm)))))
  refine G.nil (a7 ?_);refine a8 (fun aU=>?_) (fun aU=>?_)
  ·
   refine I.skip (a_ (I.t1 (fun bb=>I.aC (fun bc _ _=>I.region ?_))));refine G.af ?_;refine G.aX j.W.ig bP eN fD ?_;refine G.af ?_;have M:i2<x.el.length:=by omega
   obtain⟨y,A⟩:∃q,q=x.el[i2]:=⟨_,o⟩;have O:y∈x.el:=by rw[A];exact cU M
   have bq:=hw.md y O;refine G.cn (Y.cg he i2 o dy db o o) fun bA bg=>?_;refine G.aV gU dt ?_;refine G.v1 (Y.cast (v2:=y.v.v) (bf bg.W.mP fe) (by rw[A])) ?_;refine G.v1 (bu (ah y O) dV) ?_;refine G.v1 (Y.cast (v2:= .int .i64 (((x.ah.length+x.q.br.length+iz (x.ml.take i1))+j4 (x.el.take (i2+1))):Nat)) bN (eI (by rw[L6 M,←A];omega))) ?_;refine G.aj ?_;refine bc (bb (I.region ?_));refine G.af ?_;refine G.v1 bN ?_;refine G.aj ?_;refine aT.sub (ap (i2+1) _ ?_ ?_) ⟨o,(aF J),(aF J),trivial⟩
   ·exact⟨J,ac⟩
   ·first|omega|(simp only;omega)|(simp;omega)
  ·
   have ag:x.el.length<40→i2=x.el.length:=fun bl=>by omega
   refine I.exit (ba (a6 (aZ ?_)));refine az (I.O (fun bj=>?_));refine G.af ?_;refine G.v1 bZ ?_;refine G.af ?_;refine G.join (d:=69) (v:= .bool (decide (((((x.ah.length+x.q.br.length+iz (x.ml.take i1))+j4 (x.el.take i2)):Nat):Int)<20000∧(x.ml.length:Int)<40))) 5 (fun S=>?_) ?_
   ·
    refine G.bL (d:=64) o (fun F=>?_) (fun F=>?_)
    ·
     refine G.wl j.W bP fz gd ?_;refine G.aG (bu hm e7) ?_;refine G.aG bZ ?_;refine G.W ?_;exact S _ (aI (fun b=>some (Value.bool b)) (decide_eq_decide.2 ⟨fun h=>⟨F,h⟩,fun h=>h.2⟩)) (ai (ai (ai (ai (ai (b_ (aI Value.bool (cT F).symm)))))))
    ·
     refine G.av 5 ?_;exact S _ (aI (fun b=>some (Value.bool b)) ((cL (fun h=>F h.1)).symm)) (ai (ai (ai (ai (ai (b_ (aI Value.bool (cL F).symm)))))))
   refine G.af ?_;refine G.join (d:=75) (v:= .bool (decide ((((((x.ah.length+x.q.br.length+iz (x.ml.take i1))+j4 (x.el.take i2)):Nat):Int)<20000∧(x.ml.length:Int)<40)∧(x.el.length:Int)<40))) 5 (fun U=>?_) ?_
   ·
    refine G.bL (d:=70) o (fun K=>?_) (fun K=>?_)
    ·
     refine G.gz j.W.ig bP eN fD ?_;refine G.aG (bu he dy) ?_;refine G.aG bZ ?_;refine G.W ?_;exact U _ (aI (fun b=>some (Value.bool b)) (decide_eq_decide.2 ⟨fun h=>⟨K,h⟩,fun h=>h.2⟩)) (ai (ai (ai (ai (ai (b_ (aI Value.bool (cT K).symm)))))))
    ·
     refine G.av 5 ?_;exact U _ (aI (fun b=>some (Value.bool b)) ((cL (fun h=>K h.1)).symm)) (ai (ai (ai (ai (ai (b_ (aI Value.bool (cL K).symm)))))))
   refine G.af ?_;refine G.join (d:=82) (v:= .bool (decide (((((((x.ah.length+x.q.br.length+iz (x.ml.take i1))+j4 (x.el.take i2)):Nat):Int)<20000∧(x.ml.length:Int)<40)∧(x.el.length:Int)<40)∧(x.q.bj.length:Int)<200))) 6 (fun V=>?_) ?_
   ·
    refine G.bL (d:=76) o (fun L=>?_) (fun L=>?_)
    ·
     refine G.hl bP dP ?_;refine G.gz j.W.w6 b1 fR hp ?_;refine G.aG (bu n hW) ?_;refine G.aG bZ ?_;refine G.W ?_;exact V _ (aI (fun b=>some (Value.bool b)) (decide_eq_decide.2 ⟨fun h=>⟨L,h⟩,fun h=>h.2⟩)) (ai (ai (ai (ai (ai (ai (b_ (aI Value.bool (cT L).symm))))))))
    ·
     refine G.av 6 ?_;exact V _ (aI (fun b=>some (Value.bool b)) ((cL (fun h=>L h.1)).symm)) (ai (ai (ai (ai (ai (ai (b_ (aI Value.bool (cL L).symm))))))))
   refine G.aj ?_;refine bj ?_;refine I.ret (bo ?_)
   exact⟨aI Value.bool (decide_eq_decide.2 (by
    unfold hB qP;constructor
    ·rintro⟨⟨⟨X,ab⟩,ae⟩,bk⟩
     have aP:=af J;have P:=ag J;rw[aP,P,eD,eD]at X;omega
    ·rintro⟨X,ab,ae,bk⟩
     have aP:=af ab;have P:=ag ae;rw[aP,P,eD,eD];omega)),B⟩
end qc
namespace rh
open gV e2 hn jH iN xj
section
variable {x : bS}
theorem FN{q:dj}(s:aO)(l:List hf):(dC q).set 66 s.v=dC {q with cx:=s,bj:=l}:=by
 show Value.int .i64 q.k::aN q.br::((b9 q.cl++(b9 q.bQ++kf q)).set 64 s.v)=_;rw[mJ _ _ (by rw[bI];omega),mJ _ _ (by rw[bI,bI];omega),bI,bI];rfl
theorem Ge(s:aO)(l:List bY):(dM x).set 2 s.v=dM {x with dI:=s,ml:=l}:=rfl
theorem O7(s:aO)(l:List hf):(dM x).set 70 s.v=dM {x with q:={x.q with cx:=s,bj:=l}}:=by
 show Value.bool x.bz::aN x.ah::x.dI.v:: .bool x.ag::((dC x.q++[x.cG.v]).set 66 s.v)=_;rw[yF _ _ (by rw[eC];omega),FN (l:=l)];rfl
theorem Gd(s:aO)(l:List bU):(dM x).set 74 s.v=dM {x with cG:=s,el:=l}:=by
 show Value.bool x.bz::aN x.ah::x.dI.v:: .bool x.ag::((dC x.q++[x.cG.v]).set 70 s.v)=_;rw[mJ _ _ (by rw[eC];omega),eC];rfl
end
structure m5 (F:Nat→Prop) (H:Heap) (t:bS):Prop where
 q:Rd F H en 33 t.q.cx.v t.q.bj
 e:Rd F H cb 33 t.cG.v t.el
 d:∀y∈t.el,Rd F H bd 1 y.v.v y.d
section
variable {F aQ : Nat → Prop} {H V : Heap} {t : bS} {ks : List Nat}
theorem m5.aR(x:m5 F H t)(w:al H V):m5 F V t:=⟨x.q.aR w,x.e.aR w,fun y hy=>(x.d y hy).aR w⟩
theorem m5.aJ(x:m5 F H t)(w:aa (ay ks) H V)(d:aS F ks):m5 F V t:=⟨x.q.aJ w d,x.e.aJ w d,fun y hy=>(x.d y hy).aJ w d⟩
instance:cr (m5 F H t) H V (m5 F V t):=⟨fun s h=>h.aR s⟩
instance:ct (m5 F H t) H V (m5 F V t) (ax F):=⟨fun s h d=>h.aJ s (aS.T d)⟩
end
def nD(a b:bS):Prop:=a.bz=b.bz∧a.ah=b.ah∧a.ml=b.ml∧a.ag=b.ag∧a.q.p=b.q.p∧a.el.map (fun x=>(x.k,x.d))=b.el.map (fun x=>(x.k,x.d))
set_option maxHeartbeats 1600000 in
theorem O4(t:bS)(F:Nat→Prop)(w0:World)(N:Heap)
 (C:gk F N t)(aN:bp F N.size)(dZ:t.ml.length≤1000000)(d_:t.q.bj.length≤1000000)(dW:t.el.length≤1000000)(dg:∀y∈t.el,y.d.length≤140737488355328):
 aE Tryz.prog w0 18 #[fo t] N (fun r ag=>∃fJ:aO,∃st:aO,∃S:aO,∃M:List bU,∃nZ:Nat,∃aQ:Nat→Prop,r=fo {t with dI:=fJ,q:={t.q with cx:=st},cG:=S,el:=M}∧aY nZ 52 ag dL 66 fJ.v t.ml∧ae 0 N.size nZ∧(∀u:Unit,m5 aQ ag {t with dI:=fJ,q:={t.q with cx:=st},cG:=S,el:=M})∧bp aQ ag.size∧(∀b,aQ b→N.size≤b)∧ax aQ nZ∧M.map (fun x=>(x.k,x.d))=t.el.map (fun x=>(x.k,x.d))∧al N ag):=by
 refine aE.enter (args:=[fo t]) Tryz.func18 o o o ?_;intro dq dh;have d:al N N:=aa.refl _ _;refine I.O (fun cB=>?_);refine G.aU Z.bv ?_;rintro v1 H1 ⟨rfl,j,cC,_⟩;have bE:=ax.new (aN.mono d.size);have aU:=ae.new d.size;obtain⟨C,d,_⟩:=bO cC C d;have j:Var 32 H1 N.size (dM t):=j;refine G.aU (Z.a7 q9) ?_;rintro v2 ag ⟨rfl,A,cH,_⟩;have aV:=ak.new j.lt;have cI:=ae.new d.size;obtain⟨C,j,d,_⟩:=cf cH C j d;refine G.nil (cB (I.O (fun cJ=>?_)));refine G.aU (Z.c2 (dE _ (([]:List bY)) tc fq l2)) ?_;rintro v5 dk ⟨B,cK,_⟩;have cL:=ax.new (aN.mono d.size);have bF:=ak.new j.lt;have bG:=ak.new A.lt;have bH:=ae.new d.size;obtain⟨C,j,A,d,_⟩:=ed cK C j A d;refine G.a6 j.W bP fz gd ?_;refine G.aU (eO B C.m tc b2 b2) ?_;rintro b0 dm ⟨bX,B,aW,aX⟩;have aX:=aX.md;have ap:=ak.app bF j.lt aW;have b_:=ak.app bG A.lt aW;have ca:=ae.O bH aW d.size;obtain⟨C,j,A,d,_⟩:=dT aX C cL j bF A bG d bH;have dx:=B.le;rw[hq]at B;obtain⟨aB,rfl⟩:∃s:aO,b0=s.v:=⟨cF b0,B.bA.symm⟩;refine G.aV bP fz ?_;refine G.s1 (du j 2 (dM {t with dI:=aB}) fz (by rw[eu];omega) ((Ge _ _))) ?_;rintro dF ⟨j,cg⟩;obtain⟨C,A,B,d,_⟩:=dT cg C bE A aV.symm B ap.symm d aU;refine G.nil (cJ (I.O (fun cN=>?_)));refine G.aU (Z.c2 (dE _ (([]:List hf)) pD jB nb)) ?_;rintro dQ dR ⟨O,a0,_⟩;have bB:=ax.new (aN.mono d.size);have bC:=ak.new j.lt;have a_:=ak.new A.lt;have bb:=ak.new B.le;have bg:=ae.new d.size;obtain⟨C,j,A,B,d,_⟩:=dH a0 C j A B d;refine G.aV bP dP ?_;refine G.aX j.W.w6 b1 fR hp ?_;refine G.aU (eO O C.q pD b2 b2) ?_;rintro bJ dS ⟨cO,O,aK,aZ⟩;have aZ:=aZ.md;have bj:=ak.app bC j.lt aK;have a2:=ak.app a_ A.lt aK;have a3:=ak.app bb B.le aK;have a4:=ae.O bg aK d.size;obtain⟨C,j,A,B,d,_⟩:=g_ aZ C bB j bC A a_ B bb d bg;have a5:=O.le;rw[hq]at O;obtain⟨aG,rfl⟩:∃s:aO,bJ=s.v:=⟨cF bJ,O.bA.symm⟩;refine G.aV bP dP ?_;refine G.aV b1 fR ?_;refine G.s1 (du j 70 (dM {t with dI:=aB,q:={t.q with cx:=aG}}) fR (by rw[eu];omega) ((O7 _ _))) ?_;rintro bk ⟨j,b7⟩;obtain⟨C,A,B,O,d,_⟩:=g_ b7 C bE A aV.symm B ap.symm O bj.symm d aU;refine G.nil (cN (I.O (fun cP=>?_)));refine G.aj ?_;refine cP (I.t1 (fun cQ=>I.O (fun cT=>?_)));refine G.aj ?_;refine cT (I.aC (fun _ ch _=>?_))
 refine I.bb (fun(dj:Nat×aO×Nat×(List bU)×(Nat→Prop))=>match dj with|(i,S,L,M,aQ)=>[(1,.pointer (some ⟨N.size,0,none⟩)),(2,.pointer (some ⟨H1.size,0,none⟩)),(3,S.v),(4,.int .i64 (i:Int))])
  (fun(i,S,L,M,aQ) (H:Heap)=>(i≤t.el.length)∧aY L 68 H cb 33 S.v M∧(∀y∈M,Rd aQ H bd 1 y.v.v y.d)∧bp aQ H.size∧ax aQ L∧ax aQ (N.size+1)∧ax aQ (H1.size+1)∧ax aQ bX∧(∀b,aQ b→N.size≤b)∧M.map (fun x=>(x.k,x.d))=(t.el.take i).map (fun x=>(x.k,x.d))∧ae 0 bk.size L∧al bk H)
  (fun(i,S,L,M,aQ)=>t.el.length-i) (0,dN,0,[],fun _=>False) ⟨o,o,o,o,trivial⟩ ?_ ?_
 ·
  exact⟨J,aY.nil eb iQ,(fun x h=>by cases h),(fun b e=>e.elim),(fun b e=>e.elim),(fun b e=>e.elim),(fun b e=>e.elim),(fun b e=>e.elim),(fun b e=>e.elim),rfl,ae.refl _ _,aa.refl _ _⟩
 rintro⟨i,S,L,M,aQ⟩ W ck dp cl cm;obtain⟨dX,E,P,aJ,f1,f2,f3,f4,bA,aP,X,ac⟩:=ck;have aL:=ax.app ax.z (aN.mono d.size) X;have ai:=ak.app ak.z j.lt X;have b3:=ak.app ak.z A.lt X;have b4:=ak.app ak.z B.le X;have b5:=ae.O (ae.refl 0 _) X d.size;obtain⟨C,j,A,B,O,d,_⟩:=fY ac C j A B O d;have cd:=E.le;have bl:=X;have dY:M.length=i:=by have df:=aI List.length aP;simp at df;omega
 refine I.t2 (fun cn cp=>I.O (fun a9=>?_));refine G.af ?_;refine G.aX j.W.ig bP eN fD ?_;refine G.v1 (bu C.e dy) ?_;refine G.v1 bZ (G.nil (a9 ?_));refine a8 (fun cq=>?_) (fun cq=>?_)
 ·
  refine I.skip (cn (I.t1 (fun cc=>I.aC (fun cV _ _=>?_))));refine eA (fun R=>aa (ay [L]) W R) [] ?_;have n:aa (ay [L]) W W:=aa.refl _ _;have cW:=ae.refl L W.size;refine U.af 0 o n ?_;refine U.t1 1 o (fun R K=>Y.fieldAddr (j.aJ K (au.T ai)).W o bP o o eN bc o) n ?_;refine U.t1 2 o (fun R K=>Y.gO (j.aJ K (au.T ai)).W.ig o fD o) n ?_;refine U.af 3 o n ?_;have bV:i<t.el.length:=by omega
  obtain⟨y,aR⟩:∃q,q=t.el[i]:=⟨_,o⟩;have bW:y∈t.el:=by rw[aR];exact cU bV
  have dV:=dg y bW;refine U.e (g:=fun ad=> .pointer (some ad)) 4 bD o bD bD bD (Y.cg C.e i o dy db o o) cS o o n (fun dz bm=>?_);refine U.t1 5 o (fun R K=>Y.fieldAddr (bm.aJ K (aS.T aL)).W o gU o o bx bc o) n ?_;refine U.t1 6 o (fun R K=>Y.cast (v2:=bM y.k) (ba (((bm.aJ K (aS.T aL)).W.drop 0).take 32) cZ bx (by rw[gS];exact bI _)) ((by rw[aR];exact c4 (gS _)))) n ?_;refine U.t1 8 o (fun R K=>Y.fieldAddr (j.aJ K (au.T ai)).W o bP o o eN bc o) n ?_;refine U.t1 9 o (fun R K=>Y.gO (j.aJ K (au.T ai)).W.ig o fD o) n ?_;refine U.af 10 o n ?_;refine U.e (g:=fun ad=> .pointer (some ad)) 11 bD o bD bD bD (Y.cg C.e i o dy db o o) cS o o n (fun dC bn=>?_);refine U.t1 12 o (fun R K=>Y.fieldAddr (bn.aJ K (aS.T aL)).W o gU o o dt bc o) n ?_;refine U.t1 13 o (fun R K=>Y.cast (v2:=y.v.v) (bf ((bn.aJ K (aS.T aL)).W.mP) fe) (by rw[aR])) n ?_;refine U.bg 7 ?_;refine fC o (Z.c2 (dE _ (([]:List UInt8)) fw fM hh)) ?_;rintro ce aD ⟨Q,bo,_⟩;have cX:=ak.new j.lt;have cR:=ak.new A.lt;have be:=ak.new B.le;have bq:=ak.new E.le;have cD:=(ax.new (aJ.mono J):ax _ (W.size+1));have cY:=ae.new d.size;have c0:=ae.new ac.size;have bi:=ae.new n.size;obtain⟨C,j,A,B,E,P,d,ac,_⟩:=fP bo C j A B E P d ac;obtain⟨n,_⟩:=b6 bo n;refine U.b5 n (ar.cons (an.r cW) (ar.T (an.q bi))) ?_;have n:aa (ay [L,(W.size+1)]) aD aD:=aa.refl _ _;have c2:=ae.refl L aD.size;have bt:=ae.refl (W.size+1) aD.size;refine U.bg 14 ?_;refine fC o (eO Q (C.d y bW) fw b2 b2) ?_;rintro bL V ⟨az,Q,af,a6⟩;have a6:=a6.md;have aC:=ak.app cX j.lt af;have c3:=ak.app cR A.lt af;have c5:=ak.app be B.le af;have bw:=ak.app bq E.le af;have c6:=ae.O cY af d.size;have c8:=ae.O bt af n.size;obtain⟨E,P,ac,n,_⟩:=dT a6 E bq P cD ac c0 n (an.r bt);have dJ:=Q.le;obtain⟨aH,rfl⟩:∃s:aO,bL=s.v:=⟨cF bL,Q.bA.symm⟩;rw[hq]at Q;refine U.b5 n (ar.cons (an.r c2) (ar.T (an.r c8))) ?_;have n:aa (ay [L,az]) V V:=aa.refl _ _;have c9:=ae.refl L V.size;have br:=ae.refl az V.size;refine U.t1 (v:= .agg (cb (⟨y.k,aH,y.d⟩:bU)).toArray) 15 o (fun R K=>?_) n ?_
  ·exact Y.build (v:= .agg (cb (⟨y.k,aH,y.d⟩:bU)).toArray) o o (by intro w;exact sS _ _ _)
  refine U.bg 16 ?_;refine fC o (Z.c2 (dE _ ([(⟨y.k,aH,y.d⟩:bU)]) k7 eb iQ)) ?_;rintro dU av ⟨di,bK,_⟩;have da:=ae.new n.size;obtain⟨E,P,Q,ac,n,_⟩:=dH bK E P Q ac n;refine U.b5 n (ar.cons (an.r c9) (ar.cons (an.r br) (ar.T (an.q da)))) ?_;have n:aa (ay [L,az,(V.size+1)]) av av:=aa.refl _ _;have bz:=ae.refl L av.size;have dc:=ae.refl az av.size;have de:=ae.refl (V.size+1) av.size;refine U.bg 17 ?_;refine fC o (eO E di.rd k7 b2 b2) ?_;rintro bQ bR ⟨bT,E,am,a7⟩;have a7:=a7.md;have ct:=ax.app f1 (aJ.mono J) am;have cv:=ak.app bw.symm Q.le am;have cw:=ae.O bl am ac.size;have cy:=ae.O bz am n.size;obtain⟨P,Q,ac,n,_⟩:=dT a7 P f1 Q bw.symm ac bl n (an.r bz);have cd:=E.le;obtain⟨cr,rfl⟩:∃s:aO,bQ=s.v:=⟨cF bQ,E.bA.symm⟩;refine U.b5 n (ar.cons (an.r cy) (ar.cons (an.r dc) (ar.T (an.r de)))) ?_;have n:aa (ay [bT,az,(V.size+1)]) bR bR:=aa.refl _ _;refine U.t1 18 o (fun R K=>gp) n ?_;refine dB ?_;refine cV (cc (I.region ?_));refine G.af ?_;refine G.v1 bN ?_;refine G.aj ?_;refine aT.sub (cl (i+1,cr,bT,M++[(⟨y.k,aH,y.d⟩:bU)],fun b=>aQ b∨b+1=az) _ ?_ ?_) ⟨o,o,o,(aF J),trivial⟩
  ·exact⟨J,E,wQ P (fun b e=> .inl e) (Q.rd.imp (fun b _ e=> .inr e)),bp.e8 (aJ.mono J) Q.le,ax.e8 ct cv.symm,ax.e8 f2 aC,ax.e8 f3 c3,ax.e8 f4 c5,oD bA c6,by rw[gg,aP,eP bV,gg,←aR];rfl,cw,ac⟩
  ·first|omega|(simp only;omega)|(simp;omega)
 ·
  obtain rfl:i=t.el.length:=by omega
  rw[eD]at aP;refine I.exit (cp (cm (ch ?_)));refine cQ (I.O (fun cz=>?_));refine G.af ?_;refine G.aV bP eN ?_;refine G.s1 (du j 74 (dM {t with dI:=aB,q:={t.q with cx:=aG},cG:=S,el:=M}) eN (by rw[eu];omega) ((Gd _ _))) ?_;rintro dG ⟨j,b8⟩;obtain⟨A,B,O,E,P,d,_⟩:=mn b8 A aV.symm B ap.symm O bj.symm E ai.symm P f2 d aU;refine G.nil (cz (I.O (fun cA=>?_)));refine G.v1 (ba j.W hR gh (eu _)) ?_;refine G.s1 (et A _ (dM {t with dI:=aB,q:={t.q with cx:=aG},cG:=S,el:=M}) (pz _) gh (eu _) ((dD (eu _).symm))) ?_;rintro dK ⟨A,b9⟩;obtain⟨B,O,E,P,d,_⟩:=g_ b9 B b_.symm O a2.symm E b3.symm P f3 d cI;refine G.nil (cA ?_);refine I.ret (dh .ret (.inr o) _ _ _ (lg o o A.W hR gh (eu _)) ?_);exact⟨aB,aG,S,M,bX,fun b=>aQ b∨b+1=L∨b+1=cO,o,B,ca,(fun _=>⟨O.rd.imp (fun b _ e=> .inr (.inr e)),E.rd.imp (fun b _ e=> .inr (.inl e)),fun y hy=>(P y hy).imp (fun b _ e=> .inl e)⟩),(fun b e=>e.elim (fun e=>by have bh:=aJ b e;omega) (fun e=>e.elim (fun e=>by have bh:=E.le;omega) (fun e=>by have bh:=O.le;omega))),(fun b e=>e.elim (bA b) (fun e=>e.elim (fun e=>by have bh:=b5;unfold ae at bh;omega) (fun e=>by have bh:=a4;unfold ae at bh;omega))),(fun b e h=>e.elim (fun e=>f4 b e h) (fun e=>e.elim (fun e=>b4.symm b e h) (fun e=>a3.symm b e h))),aP,d⟩
def n2(cv:e1)(on:List Bool)(i:Nat)(m:bY):bY:=if on.getD i false=true then{m with T:=jJ cv m.n}else m
def iY(cv:e1)(on:List Bool)(ml:List bY):List bY:=ml.mapIdx (n2 cv on)
def kq(cv:e1)(on:List Bool)(i:Nat)(ml:List bY):List bY:=ml.mapIdx (fun j m=>if j<i then n2 cv on j m else m)
theorem Mk(cv:e1)(on:List Bool)(ml:List bY):kq cv on 0 ml=ml:=by
 unfold kq;refine r7 bl (fun i d ab=>by simp)
theorem tJ(cv:e1)(on:List Bool)(i:Nat)(ml:List bY):(kq cv on i ml).length=ml.length:=by unfold kq;simp
theorem Ml(cv:e1)(on:List Bool)(ml:List bY):kq cv on ml.length ml=iY cv on ml:=by
 unfold kq iY;refine r7 bl (fun i d ab=>by simp at d;simp[d])
theorem zw{cv:e1}{on:List Bool}{i:Nat}{ml:List bY}(h:i<ml.length):(kq cv on i ml)[i]'(by rw[tJ];exact h)=ml[i]:=by unfold kq;simp
theorem EC{cv:e1}{on:List Bool}{i:Nat}{ml:List bY}(h:i<ml.length):kq cv on (i+1) ml=(kq cv on i ml).set i (n2 cv on i ml[i]):=by
 refine r7 (by simp[tJ]) (fun j n ab=>?_);rw[List.getElem_set];by_cases e:i=j
 ·subst e;simp[kq]
 ·rw[aA e]
  by_cases d:j<i
  ·simp[kq,d,show j<i+1 by omega]
  ·simp[kq,d,show ¬j<i+1 by omega]
theorem Mm{cv:e1}{on:List Bool}{i:Nat}{ml:List bY}(h:i<ml.length)(d:on.getD i false=false):kq cv on (i+1) ml=kq cv on i ml:=by
 rw[EC h,show n2 cv on i ml[i]=(kq cv on i ml)[i]'(by rw[tJ];exact h)by rw[zw h];unfold n2;rw[aA (by rw[d];decide)],List.set_getElem_self]
theorem Et(m:bY)(z:dv):dL {m with T:=z}=er (dL m) 1 (b9 z):=by
 unfold er;rw[bI,show 1+32=33 from o,yk];rfl
set_option maxHeartbeats 1600000 in
theorem Ex(s:dR)(t:bS)(v:Value)(on:List Bool)(F:Nat→Prop)(w0:World)(N:Heap)
 (K:b7 N eX 33 s.fI.v s.bm)(R:gk F N t)(b8:bp F N.size)(C:b7 N vh 1 v on)(ck:t.ml.length≤1000000)(cp:t.q.bj.length≤1000000)(ch:t.el.length≤1000000)(ca:∀y∈t.el,y.d.length≤140737488355328):
 aE Tryz.prog w0 16 #[fZ s,fo t,v] N (fun r ar=>∃fJ:aO,∃st:aO,∃bd:aO,∃aJ:List bU,∃aQ:Nat→Prop,r=fo {t with dI:=fJ,ml:=iY (bX s.bm) on t.ml,q:={t.q with cx:=st},cG:=bd,el:=aJ}∧(∀u:Unit,gk aQ ar {t with dI:=fJ,ml:=iY (bX s.bm) on t.ml,q:={t.q with cx:=st},cG:=bd,el:=aJ})∧bp aQ ar.size∧(∀b,aQ b→N.size≤b)∧aJ.map (fun x=>(x.k,x.d))=t.el.map (fun x=>(x.k,x.d))∧al N ar):=by
 refine aE.enter (args:=[fZ s,fo t,v]) Tryz.func16 o o o ?_;intro cw cn;have A:al N N:=aa.refl _ _;have K:=K.ch;have a6:=K.cD;have C:=C.ch;have ac:=C.cD;have cF:=C.len;refine I.O (fun bF=>?_);refine G.aU Z.bv ?_;rintro v3 X ⟨rfl,L,bG,_⟩;obtain⟨K,R,C,A,_⟩:=ed bG K R C A;have L:Var 47 X N.size (cc s):=L;refine G.aU Z.bv ?_;rintro v4 av ⟨rfl,E,bH,_⟩;have bJ:=ax.new (a6.mono A.size);have bK:=ax.new (ac.mono A.size);have bL:=ak.new L.lt;have bM:=ae.new A.size;obtain⟨K,R,C,L,A,_⟩:=dH bH K R C L A;have E:Var 32 av X.size (dM t):=E;refine G.aU (Z.a7 q9) ?_;rintro v6 cr ⟨rfl,O,bO,_⟩;have b5:=ak.new E.lt;have b6:=ae.new A.size;obtain⟨K,R,C,L,E,A,_⟩:=fY bO K R C L E A;refine G.nil (bF (I.O (fun a0=>?_)));refine G.v1 (ba E.W hR gh (eu _)) ?_;refine aW Ic (O4 t F w0 _ R (b8.mono J) ck cp ch ca) ?_;rintro v9 ct ⟨ag,aR,aP,aK,af,aS,rfl,n,V,B,bW,aH,cb,cg,bB⟩;have bl:=ax.app ax.z (a6.mono A.size) V;have bm:=ax.app ax.z (ac.mono A.size) V;have bn:=ak.app ak.z L.lt V;have a7:=ak.app ak.z E.lt V;have a_:=ak.app ak.z O.lt V;have az:=ae.O (ae.refl 0 _) V A.size;obtain⟨K,C,L,E,O,A,_⟩:=fY bB K C L E O A;have bT:=n.le;have bo:=cb;have bq:=(fun b e h=>by have bh:=aH b e;omega:ax aS ((X.size+1)));have bt:=(fun b e h=>by have bh:=aH b e;omega:ax aS ((av.size+1)));rw[←Mk (bX s.bm) on t.ml]at n;refine G.s1 (S.var E _ (dM {t with dI:=ag,q:={t.q with cx:=aR},cG:=aP,el:=aK}) rfl rfl rfl rfl (pz _) gh (eu _) (by rw[eu];exact dz _) ((dD ((eu _).trans (eu _).symm)))) ?_;rintro am ⟨E,b0⟩;obtain⟨K,C,L,O,n,B,A,_⟩:=nw b0 K bJ C bK L bL O b5.symm n a7.symm B bq A bM;refine G.nil (a0 (I.t1 (fun a2=>I.O (fun a3=>?_))));refine G.aj ?_;refine a3 (I.aC (fun _ a4 _=>?_))
 refine I.bb (fun(i:Nat)=>[(2,v),(3,.pointer (some ⟨N.size,0,none⟩)),(4,.pointer (some ⟨X.size,0,none⟩)),(6,.pointer (some ⟨av.size,0,none⟩)),(7,.int .i64 (i:Int))])
  (fun(i:Nat) (H:Heap)=>(i≤t.ml.length)∧aY af 52 H dL 66 ag.v (kq (bX s.bm) on i t.ml)∧ae af am.size af∧aa (ay [af]) am H)
  (fun(i:Nat)=>t.ml.length-i) 0 ⟨o,o,o,o,o,trivial⟩ ?_ ?_
 ·
  exact⟨J,n,ae.refl _ _,aa.refl _ _⟩
 intro i aV a5 cv aX bg;obtain⟨cC,n,aD,Q⟩:=a5;have bw:=ak.app a_ O.lt aD;have bz:=ae.O az aD A.size;obtain⟨K,C,L,E,O,B,A,_⟩:=nw Q K bl C bm L bn E a7 O a_ B bo A az;have bT:=n.le;have aG:=aD;have cD:=tJ (bX s.bm) on i t.ml;refine I.t2 (fun bj bk=>I.O (fun a9=>?_));refine G.af ?_;refine G.a6 E.W bP fz gd ?_;refine G.v1 (Y.cast (v2:= .int .i64 (t.ml.length:Int)) (bu n.rd e7) (eI (by rw[tJ]))) ?_;refine G.v1 bZ (G.nil (a9 ?_));refine a8 (fun bQ=>?_) (fun bQ=>?_)
 ·
  refine I.skip (bj (I.t1 (fun aZ=>I.aC (fun ap _ _=>I.O (fun bA=>?_)))));refine G.av 2 ?_;refine G.v1 (bu C Gf) ?_;refine G.v1 bZ ?_;refine G.af ?_;refine G.join (d:=26) (v:= .bool (on.getD i false)) 5 (fun aU=>?_) ?_
  ·
   refine G.bL (d:=21) o (fun aB=>?_) (fun aB=>?_)
   ·
    refine G.av 2 ?_;refine G.e (g:=fun ad=> .pointer (some ad)) (Y.cg C i o Gf ee o o) bR o o (fun cz bC=>?_);refine G.aG (bf bC.W fc) ?_;refine G.W ?_;exact aU _ (aI (fun b=>some (Value.bool b)) (by rw[List.getD_eq_getElem?_getD,List.getElem?_eq_getElem J];rfl)) (ai (ai (ai (ai (ai (b_ (aI Value.bool (cT aB).symm)))))))
   ·
    refine G.av 5 ?_;exact aU _ (aI (fun b=>some (Value.bool b)) (by rw[List.getD_eq_getElem?_getD,List.getElem?_eq_none J];rfl)) (ai (ai (ai (ai (ai (b_ (aI Value.bool (cL aB).symm)))))))
  refine G.nil (bA ?_);refine dm (fun aC=>?_) (fun aC=>?_)
  ·
   have cl:=aC;have W:i<t.ml.length:=by omega
   obtain⟨y,aL⟩:∃q,q=t.ml[i]:=⟨_,o⟩;refine eA (fun P=>al aV P) [11,12,13] ?_;have M:=al.refl aV;refine U.aV 0 bP fz M ?_;refine U.t1 1 o (fun P B=>bf ((E.W.drop 2).aR B) gd) M ?_;refine U.af 2 o M ?_;refine U.t1 3 o (fun P B=>ba (L.W.aR B) fV dJ (cq _)) M ?_;refine U.aV 4 bP fz M ?_;refine U.t1 5 o (fun P B=>bf ((E.W.drop 2).aR B) gd) M ?_;refine U.af 6 o M ?_;refine U.t1 7 o (fun P B=>Y.wx (n.aR B) i o e7 eS o o gP J) M ?_;refine U.t1 8 o (fun P B=>Y.fieldAddr ((n.W (j:=i) J).aR B) o dc o o b3 bc o) M ?_;refine U.t1 9 o (fun P B=>Y.cast (v2:=aN y.n) (bf (((n.W (j:=i) J).drop 0).aR B) cd) (by rw[zw W,aL])) M ?_;refine U.bg 10 ?_;refine cP BW (Bo s y.n w0 _ K.any) ?_;rintro cB bE ⟨rfl,bb⟩;obtain⟨n,B,Q,_⟩:=cf bb n B Q;have b1:=M.O bb;refine U.dx b1 ?_;have b2:=al.refl bE;refine U.bg 11 ?_;refine iJ o (Y.wx n i o e7 eS o o gP J) (.inl o) ?_;refine U.bg 12 ?_;refine iJ o (Y.hc (n.W (j:=i) J) o dc o bx) (.inl o) ?_;refine U.bg 13 ?_;refine iK o (S.zC n i 1 ({y with T:=jJ (bX s.bm) y.n}:bY) (b9 (jJ (bX s.bm) y.n)) rfl rfl rfl rfl (ke _) bx (bI _) J bc (by rw[zw W,←aL];exact Et _ _)) ?_;rintro cy ⟨n,bV⟩;obtain⟨Q,_⟩:=c0 bV Q (an.r aG);refine⟨.inl o,?_⟩;refine dB ?_;have cH:=b2;refine ap (aZ (I.region ?_));refine G.af ?_;refine G.v1 bN ?_;refine G.aj ?_;refine aT.sub (aX (i+1) _ ?_ ?_) ⟨o,o,o,o,(aF J),trivial⟩
   ·exact⟨J,by rw[EC W,←aL];unfold n2;rw[aM cl];exact n,aG,Q⟩
   ·first|omega|(simp only;omega)|(simp;omega)
  ·
   have cm:=aC;have W:i<t.ml.length:=by omega
   refine I.skip (ap (aZ (I.region ?_)));refine G.af ?_;refine G.v1 bN ?_;refine G.aj ?_;refine aT.sub (aX (i+1) _ ?_ ?_) ⟨o,o,o,o,(aF J),trivial⟩
   ·exact⟨J,by rw[Mm W cm];exact n,aG,Q⟩
   ·first|omega|(simp only;omega)|(simp;omega)
 ·
  obtain rfl:i=t.ml.length:=by omega
  rw[Ml]at n;refine I.exit (bk (bg (a4 ?_)));refine a2 (I.O (fun bD=>?_));refine G.v1 (ba E.W hR gh (eu _)) ?_;refine G.s1 (et O _ (dM {t with dI:=ag,q:={t.q with cx:=aR},cG:=aP,el:=aK}) (pz _) gh (eu _) ((dD (eu _).symm))) ?_;rintro cA ⟨O,b4⟩;obtain⟨n,B,A,_⟩:=dQ b4 n bw.symm B bt A b6;refine G.nil (bD ?_);refine I.ret (cn .ret (.inr o) _ _ _ (lg o o O.W hR gh (eu _)) ?_);exact⟨ag,aR,aP,aK,_,o,(fun _=>⟨n.rd.imp (fun b _ e=>Or.inr e),(B ()).q.imp (fun b _ e=>Or.inl e),(B ()).e.imp (fun b _ e=>Or.inl e),(fun y hy=>((B ()).d y hy).imp (fun b _ e=>Or.inl e))⟩),(bp.e8 (bW.mono J) n.le),(oD (fun b e=>by have bh:=aH b e;omega) bz),cg,A⟩
end rh
namespace xm
open gV pc lq qb e2 hn uw jH iN xj xk
theorem Kc{ul:List dq}{m:bY}(aq:ea m.n=0)(d:m.T=bJ)(hw:¬m.w=bJ):k5 m.n ((ul.map (·.n)).filter (fun x=>decide (x≠m.n)))=if jK (bX ul) m=true then 13 else 0:=by
 rw[Da aq (fun h=>by have:=(jZ.1 h).2;simp at this)];unfold jK;rw[cT (show m.T=bJ∧m.w≠bJ from⟨d,hw⟩),vI,List.any_filter,show(bX ul).map (·.1)=ul.map (·.n)by simp[bX]]
theorem wh{l:e1}{ml:List bY}{j:Nat}{e:Int}(r:j<ml.length)(n:∀q (h:q<j),∀ab:q<ml.length,iW l (ml.take q) ml[q]=0)(he:iW l (ml.take j) ml[j]=e)(aB:e≠0):gY l ml=e:=by
 have d:=zo (ml:=ml) (l:=l) (pre:=[]) (j:=j) r (fun i h=>by rw[hq];exact n i h J) (by rw[hq,he];exact aB);rw[hq,he]at d;rw[gY,aM (by rw[d];exact aB),d]
theorem Ep(l:e1)(m:bY):(eV l m).length≤l.length+1:=by
 unfold eV;split
 ·have:(e4 l m.n).length≤l.length:=r9 _ _
  omega
 ·exact Dk _ _ _
theorem n9(l:List dq):(bX l).length=l.length:=dg ..
theorem KC{ml:List bY}{n:aD}{j k:Nat}(d:k<j)(q:k<ml.length)(h:ml[k].n=n):n∈(ml.take j).map (·.n):=
 cN.2 ⟨ml[k],DE.2 ⟨k,by omega,o⟩,h⟩
theorem zv{ml:List bY}{n:aD}{j:Nat}(h:∀q,q<j→∀ab:q<ml.length,¬ml[q].n=n):n∉(ml.take j).map (·.n):=by
 intro hm;obtain⟨x,d,e⟩:=cN.1 hm;obtain⟨q,r,rfl⟩:=DE.1 d;exact h q J J e
set_option maxHeartbeats 1600000 in
theorem NL(s:dR)(t:bS)(w0:World)(N:Heap)
 (B:b7 N eX 33 s.fI.v s.bm)(fu:ei (bX s.bm))(gl:s.bm.length≤200)(fr:∀x∈(bX s.bm),x.1.length≤60)(hm:b7 N dL 66 t.dI.v t.ml)(gi:t.ml.length≤65535)(b1:∀m∈t.ml,m.n.length≤140737488355328):
 aE Tryz.prog w0 41 #[fZ s,fo t] N (fun r P=>r= .int .i64 (gY (bX s.bm) t.ml)∧al N P):=by
 refine aE.aP [fZ s,fo t] Tryz.func41 ?_;intro fG W;have n:al N N:=aa.refl _ _;have B:=B.ch;have cz:=B.cD;have hm:=hm.ch;have cA:=hm.cD;refine I.O (fun fe=>?_);refine G.aU Z.bv ?_;rintro v2 P ⟨rfl,C,ff,_⟩;obtain⟨B,hm,n,_⟩:=cf ff B hm n;have C:Var 47 P N.size (cc s):=C;refine G.aU Z.bv ?_;rintro v3 bn ⟨rfl,A,fh,_⟩;obtain⟨B,hm,C,n,_⟩:=ed fh B hm C n;have A:Var 32 bn P.size (dM t):=A;refine G.aj ?_;refine fe (I.t2 (fun fi aR=>I.O (fun er=>?_)));refine G.aj ?_;refine er (I.aC (fun _ eu aS=>?_))
 refine I.bb (fun(j:Nat)=>[(2,.pointer (some ⟨N.size,0,none⟩)),(3,.pointer (some ⟨P.size,0,none⟩)),(5,.int .i64 (j:Int))])
  (fun(j:Nat) (H:Heap)=>(j≤t.ml.length)∧(∀q (h:q<j),∀ab:q<t.ml.length,iW (bX s.bm) (t.ml.take q) t.ml[q]=0)∧al bn H)
  (fun(j:Nat)=>t.ml.length-j) 0 ⟨o,o,o,trivial⟩ ?_ ?_
 ·
  exact⟨J,(fun q h=>absurd h (rY _)),aa.refl _ _⟩
 intro j bT ev fF ew aH;obtain⟨gf,ag,K⟩:=ev;obtain⟨B,hm,C,A,n,_⟩:=dH K B hm C A n;refine I.t2 (fun ey ez=>I.O (fun eB=>?_));refine G.af ?_;refine G.a6 A.W bP fz gd ?_;refine G.v1 (bu hm e7) ?_;refine G.v1 bZ (G.nil (eB ?_));refine a8 (fun eC=>?_) (fun eC=>?_)
 ·
  refine I.skip (ey (I.t2 (fun eE aU=>I.aC (fun eG _ aV=>I.O (fun cp=>?_)))));refine G.a6 A.W bP fz gd ?_;refine G.af ?_;have M:j<t.ml.length:=by omega
  obtain⟨y,E⟩:∃q,q=t.ml[j]:=⟨_,o⟩;have aK:y∈t.ml:=by rw[E];exact cU M
  have gm:=b1 y aK;refine G.cn (Y.cg hm j o e7 eS o o) fun fM cr=>?_;refine G.v1 (Y.cast (v2:= .agg (dL y).toArray) (ba cr.W kG eS (fq _)) (by rw[E])) ?_;refine G.aU (Z.a7 o8) ?_;rintro v6 fD ⟨rfl,F,eI,_⟩;have eJ:=ax.new (cz.mono n.size);have eM:=ax.new (cA.mono n.size);have ct:=ak.new C.lt;have cv:=ak.new A.lt;have a0:=ae.new n.size;have bB:=ae.new K.size;obtain⟨B,hm,C,A,n,K,_⟩:=fY eI B hm C A n K;refine G.s1 (et F _ (dL y) (l2 y) eS (fq _) ((dD (fq _).symm))) ?_;rintro fN ⟨F,cB⟩;obtain⟨B,hm,C,A,n,K,_⟩:=mn cB B eJ hm eM C ct A cv n a0 K bB;refine G.nil (cp (I.t2 (fun a2 a3=>I.O (fun a4=>?_))));refine G.a6 F.W dc b3 cd ?_;refine aW uY (wE y.n w0 _ J) ?_;rintro fR eN ⟨rfl,a5⟩;obtain⟨B,hm,C,A,F,n,K,_⟩:=kr a5 B hm C A F n K;refine G.v1 dX (G.nil (a4 ?_));refine a8 (fun af=>?_) (fun af=>?_)
  ·
   refine I.O (fun b8=>?_);refine G.aj ?_;refine b8 ?_;refine I.ret (a3 (aV (aU (aH (aS (aR (W ?_)))))));exact⟨by rw[wh (e:=7) M ag (by rw[←E];unfold iW;rw[aM af]) bc],n⟩
  ·
   refine I.skip (a2 (I.t2 (fun b9 ca=>I.O (fun a9=>?_))));refine G.aj ?_;refine a9 (I.aC (fun _ cw dP=>?_))
   refine I.bb (fun(k:Nat)=>[(2,.pointer (some ⟨N.size,0,none⟩)),(3,.pointer (some ⟨P.size,0,none⟩)),(5,.int .i64 (j:Int)),(6,.pointer (some ⟨bT.size,0,none⟩)),(7,.int .i64 (k:Int))])
    (fun(k:Nat) (H:Heap)=>(k≤j)∧(∀q,q<k→∀ab:q<t.ml.length,¬t.ml[q].n=y.n)∧al eN H)
    (fun(k:Nat)=>j-k) 0 ⟨o,o,o,o,o,trivial⟩ ?_ ?_
   ·
    exact⟨J,(fun q h=>absurd h (rY _)),aa.refl _ _⟩
   intro k bU eQ fS dS bL;obtain⟨fm,aL,bR⟩:=eQ;obtain⟨B,hm,C,A,F,n,K,_⟩:=kr bR B hm C A F n K;refine I.t2 (fun dT cR=>I.O (fun be=>?_));refine G.av 2 ?_;refine G.v1 bZ (G.nil (be ?_));refine a8 (fun eR=>?_) (fun eR=>?_)
   ·
    refine I.skip (dT (I.t2 (fun dU dV=>I.aC (fun bi _ dW=>I.t1 (fun aC=>?_)))));refine jk ?_;refine G.a6 A.W bP fz gd ?_;refine G.af ?_;have a6:k<t.ml.length:=by omega
    obtain⟨z,R⟩:∃q,q=t.ml[k]:=⟨_,o⟩;refine G.cn (Y.cg hm k o e7 eS o o) fun fO dY=>?_;refine G.aV dc b3 ?_;refine G.v1 (Y.cast (v2:=aN z.n) (bf (dY.W.drop 0) cd) (by rw[R])) ?_;refine G.a6 F.W dc b3 cd ?_;refine G.v1 (Y.oc o o o) (G.nil (aC ?_));refine a8 (fun bj=>?_) (fun bj=>?_)
    ·
     refine I.O (fun dZ=>?_);refine G.aj ?_;refine dZ ?_;refine I.ret (dW (dV (bL (dP (ca (aV (aU (aH (aS (aR (W ?_)))))))))));exact⟨by rw[wh (e:=18) M ag (by rw[←E];unfold iW;rw[aA af,aM (KC (k:=k) J a6 (by rw[←R];exact bj))]) bc],n⟩
    ·
     refine I.skip (bi (dU (I.region ?_)));refine G.af ?_;refine G.v1 bN ?_;refine G.aj ?_;refine aT.sub (dS (k+1) _ ?_ ?_) ⟨o,o,(aF J),o,(aF J),trivial⟩
     ·exact⟨J,(fun q h ab=>by rcases vR.1 h with Q|rfl;exact aL q Q ab;rw[←R];exact bj),bR⟩
     ·first|omega|(simp only;omega)|(simp;omega)
   ·
    have fp:k=j:=by omega
    rw[fp]at aL;refine I.exit (cR (bL (cw ?_)));refine b9 (I.t2 (fun d_ eb=>I.t1 (fun ec=>?_)));refine eA (fun aB=>al bU aB) [] ?_;have ar:=al.refl bU;refine U.t1 0 o (fun aB an=>ba (C.W.aR an) fV dJ (cq _)) ar ?_;refine U.aV 1 dc b3 ar ?_;refine U.t1 2 o (fun aB an=>bf (F.W.aR an) cd) ar ?_;refine U.aV 4 dc bx ar ?_;refine U.t1 5 o (fun aB an=>Y.cast (v2:=bM y.T) (ba (((F.W.drop 1).aR an).take 32) cZ bx (by rw[jd];exact bI _)) (c4 (jd _))) ar ?_;refine U.bg 3 ?_;refine cP BW (Bo s y.n w0 _ B.any) ?_;rintro bo fc ⟨rfl,bt⟩;obtain⟨F,n,K,_⟩:=cf bt F n K;have cb:=ar.O bt;refine U.dx cb ?_;have bG:=al.refl fc;refine U.t1 6 o (fun aB an=>Y.oE o Tryz.eqGuardType26 (fun w=>i_ 9998 Tryz.underlying26 Tryz.underlying5 dK fE ((jJ (bX s.bm) y.n).2) y.T.2 w) o o) bG ?_;refine dB ?_;have gk:=bG;refine ec ?_;refine a8 (fun aX=>?_) (fun aX=>?_)
    ·
     refine I.O (fun br=>?_);refine G.aj ?_;refine br ?_;refine I.ret (eb (aV (aU (aH (aS (aR (W ?_)))))));exact⟨by rw[wh (e:=21) M ag (by rw[←E];unfold iW;rw[aA af,aA (zv aL),aM (fun e=>aX (aI Subtype.val e))]) bc],n⟩
    ·
     refine I.skip (d_ (I.O (fun bK=>?_)));refine G.aV dc bx ?_;refine G.v1 (Y.cast (v2:=bM y.w) (ba ((F.W.drop 33).take 32) cZ bx (by rw[gB];exact bI _)) (c4 (gB _))) ?_;refine G.aV dc bx ?_;refine G.v1 (Y.cast (v2:=bM y.T) (ba ((F.W.drop 1).take 32) cZ bx (by rw[jd];exact bI _)) (c4 (jd _))) ?_;refine G.v1 (Y.mA o Tryz.eqGuardType26 (fun w=>i_ 9998 Tryz.underlying26 Tryz.underlying5 dK fE y.w.2 y.T.2 w) o o) (G.nil (bK ?_));refine a8 (fun bk=>?_) (fun bk=>?_)
     ·
      refine I.O (fun ee=>?_);refine G.aj ?_;refine ee ?_;refine I.ret (aV (aU (aH (aS (aR (W ?_))))));exact⟨by rw[wh (e:=26) M ag (by rw[←E];unfold iW;rw[aA af,aA (zv aL),aA (fun e=>e (hr (pH.1 aX))),aM (hr bk)]) bc],n⟩
     ·
      refine I.skip (eG (eE (I.region ?_)));refine G.af ?_;refine G.v1 bN ?_;refine G.aj ?_;refine aT.sub (ew (j+1) _ ?_ ?_) ⟨o,o,(aF J),trivial⟩
      ·exact⟨J,(fun q h ab=>by rcases rW q j with Q|Q;exact ag q Q ab;obtain rfl:q=j:=J;rw[←E];unfold iW;rw[aA af,aA (zv aL),aA (fun e=>e (hr (pH.1 aX))),aA (fun e=>bk (aI Subtype.val e))]),K⟩
      ·first|omega|(simp only;omega)|(simp;omega)
 ·
  obtain rfl:j=t.ml.length:=by omega
  have aQ:j3 (bX s.bm) [] t.ml=0:=zp (fun i b0=>by rw[hq];exact ag i b0 b0);have fx:=Gk fr aQ;refine I.exit (ez (aH (eu ?_)));refine fi (I.O (fun ef=>?_));refine G.a6 C.W c8 jE lx ?_;refine G.aj ?_;refine ef (I.t1 (fun eg=>I.O (fun eh=>?_)));refine G.aj ?_;refine eh (I.aC (fun _ cV _=>?_))
  refine I.bb (fun(bm:Nat×aO×(List dq)×(Nat→Prop))=>match bm with|(i2,X,ul,ay)=>[(3,.pointer (some ⟨P.size,0,none⟩)),(8,X.v),(9,.int .i64 (i2:Int))])
   (fun(i2,X,ul,ay) (H:Heap)=>(i2≤t.ml.length)∧(∀u:Unit,Rd ay H eX 33 X.v ul)∧bp ay H.size∧bX ul=(t.ml.take i2).foldl eV (bX s.bm)∧ul.length≤200+i2∧al bT H)
   (fun(i2,X,ul,ay)=>t.ml.length-i2) (0,s.fI,s.bm,fun b=>True∧b<N.size) ⟨o,o,o,trivial⟩ ?_ ?_
  ·
   exact⟨J,(fun _=>B),(fun b e=>l7 e.2 n.size),o,J,aa.refl _ _⟩
  rintro⟨i2,X,ul,ay⟩ eT eU eH cW cX;obtain⟨ga,hu,cg,S,gh,aZ⟩:=eU;obtain⟨hm,A,n,cs⟩:=cf aZ hm A n;refine I.t2 (fun cY c2=>I.O (fun c3=>?_));refine G.af ?_;refine G.a6 A.W bP fz gd ?_;refine G.v1 (bu hm e7) ?_;refine G.v1 bZ (G.nil (c3 ?_));refine a8 (fun eW=>?_) (fun eW=>?_)
  ·
   refine I.skip (cY (I.t1 (fun c6=>I.aC (fun c9 _ _=>I.region ?_))));refine G.af ?_;refine G.a6 A.W bP fz gd ?_;refine G.af ?_;have M:i2<t.ml.length:=by omega
   obtain⟨y,E⟩:∃q,q=t.ml[i2]:=⟨_,o⟩;refine G.cn (Y.cg hm i2 o e7 eS o o) fun fP da=>?_;refine G.v1 (Y.cast (v2:= .agg (dL y).toArray) (ba da.W kG eS (fq _)) (by rw[E])) ?_;refine aW B9 (El _ ul y w0 _ (hu ()).any J) ?_;rintro dd fT ⟨eY,eZ,rfl,bb,fQ,db⟩;obtain⟨aZ,_⟩:=b6 db aZ;have fH:=bb.le;have b4:bX (np y ul)=(t.ml.take (i2+1)).foldl eV (bX s.bm):=by rw[nc M,←E,←S];exact En y ul (by rw[S];exact nd fu)
   refine G.aj ?_;refine c9 (c6 (I.region ?_));refine G.af ?_;refine G.v1 bN ?_;refine G.aj ?_;refine aT.sub (cW (i2+1,eY,np y ul,fun b=>b+1=eZ) _ ?_ ?_) ⟨o,o,(aF J),trivial⟩
   ·exact⟨J,(fun _=>bb.rd),(bp.of bb.le),b4,(by rw[←n9,b4,nc M];refine fg (Ep _ _) ?_;rw[←S,n9];omega),aZ⟩
   ·first|omega|(simp only;omega)|(simp;omega)
  ·
   obtain rfl:i2=t.ml.length:=by omega
   rw[eD]at S;refine I.exit (c2 (cX (cV ?_)));refine eg (I.t2 (fun de df=>I.O (fun dg=>?_)));refine G.af ?_;refine G.v1 (bu (hu ()) jQ) ?_;refine G.v1 fA (G.nil (dg ?_));refine a8 (fun ej=>?_) (fun ej=>?_)
   ·
    refine I.O (fun dh=>?_);refine G.aj ?_;refine dh ?_;refine I.ret (df (W ?_));exact⟨by rw[gY,aA (by rw[aQ];decide),aM (by rw[←S,n9];omega)],n⟩
   ·
    have bW:¬200<(t.ml.foldl eV (bX s.bm)).length:=by rw[←S,n9];omega
    refine I.skip (de (I.t2 (fun di dj=>I.O (fun dk=>?_))));refine G.aj ?_;refine dk (I.aC (fun _ dm dp=>?_))
    refine I.bb (fun(i3:Nat)=>[(3,.pointer (some ⟨P.size,0,none⟩)),(8,X.v),(10,.int .i64 (i3:Int))])
     (fun(i3:Nat) (H:Heap)=>(i3≤t.ml.length)∧(∀m∈t.ml.take i3,jK (t.ml.foldl eV (bX s.bm)) m=false)∧al eT H)
     (fun(i3:Nat)=>t.ml.length-i3) 0 ⟨o,o,o,trivial⟩ ?_ ?_
    ·
     exact⟨J,(fun m h=>by simp at h),aa.refl _ _⟩
    intro i3 bV ek h9 bw bz;obtain⟨gb,Q,L⟩:=ek;obtain⟨hm,A,hu,n,_⟩:=ed L hm A hu n;refine I.t2 (fun dt du=>I.O (fun dx=>?_));refine G.af ?_;refine G.a6 A.W bP fz gd ?_;refine G.v1 (bu hm e7) ?_;refine G.v1 bZ (G.nil (dx ?_));refine a8 (fun eo=>?_) (fun eo=>?_)
    ·
     refine I.skip (dt (I.t2 (fun bA dy=>I.aC (fun dz dC dF=>I.O (fun cC=>?_)))));refine G.a6 A.W bP fz gd ?_;refine G.af ?_;have M:i3<t.ml.length:=by omega
     obtain⟨y,E⟩:∃q,q=t.ml[i3]:=⟨_,o⟩;have aK:y∈t.ml:=by rw[E];exact cU M
     refine G.cn (Y.cg hm i3 o e7 eS o o) fun eK cD=>?_;refine G.v1 (Y.cast (v2:= .agg (dL y).toArray) (ba cD.W kG eS (fq _)) (by rw[E])) ?_;refine G.aU (Z.a7 o8) ?_;rintro fU fW ⟨rfl,V,cG,_⟩;have cH:=(ax.new (cg.mono J):ax _ (bV.size+1));have cI:=ae.new n.size;have cJ:=ae.new L.size;obtain⟨hu,n,L,_⟩:=cf cG hu n L;refine G.s1 (et V _ (dL y) (l2 y) eS (fq _) ((dD (fq _).symm))) ?_;rintro bH ⟨V,cx⟩;obtain⟨hu,n,L,_⟩:=dQ cx hu cH n cI L cJ;refine G.nil (cC (I.t2 (fun cK cO=>I.O (fun cQ=>?_))));refine G.aV dc bx ?_;refine G.v1 (Y.cast (v2:=bM y.T) (ba ((V.W.drop 1).take 32) cZ bx (by rw[jd];exact bI _)) (c4 (jd _))) ?_;refine G.v1 (Y.build (v:=bM bJ) o o fy) ?_;refine G.v1 (Y.cast (v2:= .bool (decide (¬y.T=bJ))) (Y.oE o Tryz.eqGuardType26 (fun w=>i_ 9998 Tryz.underlying26 Tryz.underlying5 dK fE y.T.2 bJ.2 w) o o) ((aI Value.bool (decide_eq_decide.2 ⟨fun h e=>h (aI Subtype.val e),fun h e=>h (hr e)⟩)))) ?_;refine G.af ?_;refine G.join (d:=96) (v:= .bool (decide (¬(y.T=bJ∧y.w≠bJ)))) 5 (fun bq=>?_) ?_
     ·
      refine G.bL (d:=91) o (fun aG=>?_) (fun aG=>?_)
      ·
       refine G.av 5 ?_;exact bq _ (aI (fun b=>some (Value.bool b)) (by simp[aG])) (ai (ai (ai (ai (ai (b_ (aI Value.bool (cT aG).symm)))))))
      ·
       refine G.hl dc bx ?_;refine G.aG (Y.cast (v2:=bM y.w) (ba ((V.W.drop 33).take 32) cZ bx (by rw[gB];exact bI _)) (c4 (gB _))) ?_;refine G.aG (Y.build (v:=bM bJ) o o fy) ?_;refine G.aG (Y.cast (v2:= .bool (decide (y.w=bJ))) (Y.mA o Tryz.eqGuardType26 (fun w=>i_ 9998 Tryz.underlying26 Tryz.underlying5 dK fE y.w.2 bJ.2 w) o o) ((aI Value.bool (decide_eq_decide.2 ⟨fun e=>hr e,fun e=>aI Subtype.val e⟩)))) ?_;refine G.eh ?_;exact bq _ (aI (fun b=>some (Value.bool b)) (by simp[aG])) (ai (ai (ai (ai (ai (b_ (aI Value.bool (cL aG).symm)))))))
     refine G.nil (cQ ?_);refine a8 (fun bg=>?_) (fun bg=>?_)
     ·
      have a7:=bg;refine I.exit (cO (dC ?_));refine bA (I.region ?_);refine G.af ?_;refine G.v1 bN ?_;refine G.aj ?_;refine aT.sub (bw (i3+1) _ ?_ ?_) ⟨o,o,(aF J),trivial⟩
      ·exact⟨J,qf Q M (by rw[←E];unfold jK;rw[cL a7];rfl),L⟩
      ·first|omega|(simp only;omega)|(simp;omega)
     ·
      have a7:y.T=bJ∧¬y.w=bJ:=pH.1 bg;refine I.skip (cK (I.O (fun dI=>?_)));refine G.aj ?_;refine dI (I.t1 (fun e0=>I.O (fun e1=>?_)));refine G.aj ?_;refine e1 (I.aC (fun _ e2 _=>?_))
      refine I.bb (fun(bm:Nat×aO×Nat×(List aD))=>match bm with|(k,so,av,out)=>[(3,.pointer (some ⟨P.size,0,none⟩)),(8,X.v),(10,.int .i64 (i3:Int)),(11,.pointer (some ⟨bV.size,0,none⟩)),(12,so.v),(13,.int .i64 (k:Int))])
       (fun(k,so,av,out) (H:Heap)=>(k≤ul.length)∧aY av 9 H ft 1 so.v out∧out=((ul.take k).map (·.n)).filter (fun x=>decide (x≠y.n))∧out.length≤k∧ae 0 bH.size av∧al bH H)
       (fun(k,so,av,out)=>ul.length-k) (0,dN,0,[]) ⟨o,o,o,o,o,o,trivial⟩ ?_ ?_
      ·
       exact⟨J,aY.nil oL py,o,bl,ae.refl _ _,aa.refl _ _⟩
      rintro⟨k,so,av,out⟩ fX ep f_ bC e3;obtain⟨fm,O,aP,gj,cy,ac⟩:=ep;obtain⟨hu,V,n,L,_⟩:=ed ac hu V n L;have az:=O.le;have am:=cy;refine I.t2 (fun ce e4=>I.O (fun e6=>?_));refine G.av 2 ?_;refine G.v1 (bu (hu ()) jQ) ?_;refine G.v1 bZ (G.nil (e6 ?_));refine a8 (fun eF=>?_) (fun eF=>?_)
      ·
       refine I.skip (ce (I.t1 (fun bD=>I.aC (fun bE _ _=>I.t1 (fun ci=>?_)))));refine jk ?_;refine G.av 2 ?_;have a6:k<ul.length:=by omega
       obtain⟨z,R⟩:∃q,q=ul[k]:=⟨_,o⟩;refine G.cn (Y.cg (hu ()) k o jQ lh o o) fun bQ ch=>?_;refine G.aV p3 b3 ?_;refine G.v1 (Y.cast (v2:=aN z.n) (bf (ch.W.drop 0) cd) (by rw[R])) ?_;refine G.a6 V.W dc b3 cd ?_;refine G.v1 (Y.lO o o o) (G.nil (ci ?_));refine a8 (fun bd=>?_) (fun bd=>?_)
       ·
        refine I.region ?_;refine G.av 3 ?_;refine G.cn (Y.cg (hu ()) k o jQ lh o o) fun fl ck=>?_;refine G.aV p3 b3 ?_;refine G.v1 (Y.cast (v2:=aN z.n) (bf (ck.W.drop 0) cd) (by rw[R])) ?_;refine G.aU (Z.c2 (dE _ ([z.n]) vt oL py)) ?_;rintro fI fJ ⟨fC,cl,_⟩;obtain⟨O,ac,_⟩:=bO cl O ac;refine G.aU (eO O fC.rd vt b2 b2) ?_;rintro bF c5 ⟨e8,O,cm,a_⟩;have a_:=a_.md;have e9:=ae.O am cm ac.size;obtain⟨ac,_⟩:=c0 a_ ac am;have az:=O.le;obtain⟨dG,rfl⟩:∃s:aO,bF=s.v:=⟨cF bF,O.bA.symm⟩;refine G.aj ?_;refine bE (bD (I.region ?_));refine G.af ?_;refine G.v1 bN ?_;refine G.aj ?_;refine aT.sub (bC (k+1,dG,e8,out++[z.n]) _ ?_ ?_) ⟨o,o,(aF J),o,o,(aF J),trivial⟩
        ·exact⟨J,O,by rw[eP a6,gg,vS,←aP];simp[←R,bd],b2,e9,ac⟩
        ·first|omega|(simp only;omega)|(simp;omega)
       ·
        refine I.skip (bE (bD (I.region ?_)));refine G.af ?_;refine G.v1 bN ?_;refine G.aj ?_;refine aT.sub (bC (k+1,so,av,out) _ ?_ ?_) ⟨o,o,(aF J),o,o,(aF J),trivial⟩
        ·exact⟨J,O,by rw[eP a6,gg,vS,←aP];simp[←R,pH.1 bd],J,am,ac⟩
        ·first|omega|(simp only;omega)|(simp;omega)
      ·
       obtain rfl:k=ul.length:=by omega
       rw[eD]at aP;have fB:=sh aQ y aK;have bY:k5 y.n out=if jK (t.ml.foldl eV (bX s.bm)) y=true then 13 else 0:=by rw[aP,←S];exact Kc fB a7.1 a7.2
       have fw:∀x∈out,x.length≤140737488355328:=fun x b5=>by
        rw[aP]at b5;obtain⟨z9,cs,fj⟩:=cN.1 (jZ.1 b5).1;have fk:=fx (z9.n,z9.i) (by rw[←S];exact cN.2 ⟨z9,cs,o⟩);rw[←fj];simp only at fk;omega
       refine I.exit (e4 (e3 (e2 ?_)));refine e0 (I.O (fun e_=>?_));refine G.a6 V.W dc b3 cd ?_;refine G.af ?_;refine aW HM (NG y.n _ out w0 _ O.rd.any (b1 y aK) fw) ?_;rintro fK fL ⟨rfl,cn⟩;obtain⟨n,L,_⟩:=bO cn n L;refine G.v1 dX (G.nil (e_ ?_));refine a8 (fun ap=>?_) (fun ap=>?_)
       ·
        refine I.O (fun fa=>?_);refine G.aj ?_;refine fa ?_;refine I.ret (dF (dy (bz (dp (dj (W ?_))))));exact⟨by have aJ:jK (t.ml.foldl eV (bX s.bm)) y=true:=(by cases aJ:jK (t.ml.foldl eV (bX s.bm)) y with|true=>rfl|false=>exact absurd (by rw[bY,aJ];rfl) ap);rw[gY,aA (by rw[aQ];decide),aA bW,C9 aK aJ],n⟩
       ·
        refine I.skip (dz (bA (I.region ?_)));refine G.af ?_;refine G.v1 bN ?_;refine G.aj ?_;refine aT.sub (bw (i3+1) _ ?_ ?_) ⟨o,o,(aF J),trivial⟩
        ·exact⟨J,qf Q M (by rw[←E];cases aJ:jK (t.ml.foldl eV (bX s.bm)) y with|false=>rfl|true=>exact absurd (by rw[bY,aJ];decide) ap),L⟩
        ·first|omega|(simp only;omega)|(simp;omega)
    ·
     refine I.exit (du (bz (dm ?_)));refine di (I.O (fun co=>?_));refine G.aj ?_;refine co ?_;refine I.ret (W ?_);exact⟨by obtain rfl:i3=t.ml.length:=J;rw[eD]at Q;rw[gY,aA (by rw[aQ];decide),aA bW,C_ Q],n⟩
end xm
namespace xn
open gV lq qb e2 ow hn uw pd jH iN AJ uy AO xm
section
variable {s : d_} {t : bS}
theorem Jc(h:fH t=1):eL s t=1:=by unfold eL;rw[aM (by rw[h];decide),h]
theorem Jd(j:fH t=0)(h:gD t≠0):eL s t=7:=by
 have e:gD t=7:=by
  unfold gD at h⊢;split
  ·rename_i d
   rw[aM d]at h;rcases u5 t.ah with e|e
   ·exact absurd e h
   ·exact e
  ·rename_i d;rw[aA d]at h;exact absurd o h
 unfold eL;rw[aA (by rw[j];decide),aM h,e]
theorem Je(d:fH t=0)(j:gD t=0)(h:gY s.cv t.ml≠0):eL s t=gY s.cv t.ml:=by unfold eL;rw[aA (by rw[d];decide),aA (by rw[j];decide),aM h]
theorem Jf(d:fH t=0)(j:gD t=0)(ab:gY s.cv t.ml=0)(h:hv t≠0):eL s t=hv t:=by unfold eL;rw[aA (by rw[d];decide),aA (by rw[j];decide),aA (by rw[ab];decide),aM h]
theorem u3(d:fH t=0)(j:gD t=0)(ab:gY s.cv t.ml=0)(n:hv t=0):eL s t=ko s.iw t.el:=by unfold eL;rw[aA (by rw[d];decide),aA (by rw[j];decide),aA (by rw[ab];decide),aA (by rw[n];decide)]
end
theorem D6{el:List bU}(h:kn el=0):∀x∈el,¬x.k=bJ∧x.d.length≤65536:=fun x j=>by
 have d:=tB h x j;unfold ix at d;split at d
 ·cases d
 ·rename_i ab
  split at d
  ·cases d
  ·exact⟨ab,by omega⟩
theorem vd(l:List bU):(da l).length=l.length:=dg ..
theorem D8{l:mw}{el:List bU}{i:Nat}{e:Int}(n:i<el.length)(j:∀x∈el.take i,ix x=0)(he:ix el[i]=e)(aB:e≠0):ko l el=e:=by
 have d:=zb n j (by rw[he];exact aB);rw[ko,aM (by rw[d,he];exact aB),d,he]
set_option maxHeartbeats 1600000 in
theorem M_(s:dR)(t:bS)(F aQ:Nat→Prop)(w0:World)(N:Heap)
 (ag:fr F N s)(a_:bp F N.size)(A:gk aQ N t)(cl:bp aQ N.size)(ok:s.m.Ok)(L:oy t):
 aE Tryz.prog w0 20 #[fZ s,fo t] N (fun r E=>r= .int .i64 (eL s.m t)∧al N E):=by
 refine aE.aP [fZ s,fo t] Tryz.func20 ?_;intro cK C;have j:al N N:=aa.refl _ _;have dC:=A.m.len;have dx:=A.e.len;have aU:=L.ah;have z2:=L.br;have cI:s.bm.length≤200:=by have:=ok.iC;rwa[show s.m.cv=bX s.bm from o,n9]at this
 have dD:s.el.length≤500:=by have:=ok.kT;rwa[show s.m.iw=da s.el from o,vd]at this
 refine I.O (fun cr=>?_);refine G.aU Z.bv ?_;rintro v2 E ⟨rfl,B,ct,_⟩;obtain⟨ag,A,j,_⟩:=cf ct ag A j;have B:Var 47 E N.size (cc s):=B;refine G.aU Z.bv ?_;rintro v3 W ⟨rfl,n,cv,_⟩;obtain⟨ag,A,B,j,_⟩:=ed cv ag A B j;have n:Var 32 W E.size (dM t):=n;refine G.aj ?_;refine cr (I.t2 (fun cw bK=>I.O (fun cx=>?_)));refine G.a6 n.W bP ee fc ?_;refine G.v1 fB ?_;refine G.af ?_;refine G.join (d:=16) (v:= .bool (decide (t.bz=false∧t.ag=false))) 4 (fun aL=>?_) ?_
 ·
  refine G.split (d:=12) o (fun ax=>?_) (fun ax=>?_)
  ·
   refine G.wl n.W bP ee fc ?_;refine G.aG fB ?_;refine G.W ?_;exact aL _ (aI (fun b=>some (Value.bool b)) (by cases aJ:t.bz<;>cases ab:t.ag<;>simp_all)) (ai (ai (ai (ai (b_ (aI Value.bool ax.symm))))))
  ·
   refine G.av 4 ?_;exact aL _ (aI (fun b=>some (Value.bool b)) (by cases aJ:t.bz<;>simp_all)) (ai (ai (ai (ai (b_ (aI Value.bool ax.symm))))))
 refine G.af ?_;refine G.join (d:=22) (v:= .bool (decide ((t.bz=false∧t.ag=false)∧(t.ml.length:Int)=0))) 5 (fun aN=>?_) ?_
 ·
  refine G.bL (d:=17) o (fun P=>?_) (fun P=>?_)
  ·
   refine G.wl n.W bP fz gd ?_;refine G.aG (bu A.m e7) ?_;refine G.aG cC ?_;refine G.W ?_;exact aN _ (aI (fun b=>some (Value.bool b)) (decide_eq_decide.2 ⟨fun h=>⟨P,h⟩,fun h=>h.2⟩)) (ai (ai (ai (ai (ai (b_ (aI Value.bool (cT P).symm)))))))
  ·
   refine G.av 5 ?_;exact aN _ (aI (fun b=>some (Value.bool b)) ((cL (fun h=>P h.1)).symm)) (ai (ai (ai (ai (ai (b_ (aI Value.bool (cL P).symm)))))))
 refine G.af ?_;refine G.join (d:=28) (v:= .bool (decide (((t.bz=false∧t.ag=false)∧(t.ml.length:Int)=0)∧(t.el.length:Int)=0))) 5 (fun aO=>?_) ?_
 ·
  refine G.bL (d:=23) o (fun Q=>?_) (fun Q=>?_)
  ·
   refine G.gz n.W.ig bP eN fD ?_;refine G.aG (bu A.e dy) ?_;refine G.aG cC ?_;refine G.W ?_;exact aO _ (aI (fun b=>some (Value.bool b)) (decide_eq_decide.2 ⟨fun h=>⟨Q,h⟩,fun h=>h.2⟩)) (ai (ai (ai (ai (ai (b_ (aI Value.bool (cT Q).symm)))))))
  ·
   refine G.av 5 ?_;exact aO _ (aI (fun b=>some (Value.bool b)) ((cL (fun h=>Q h.1)).symm)) (ai (ai (ai (ai (ai (b_ (aI Value.bool (cL Q).symm)))))))
 refine G.nil (cx ?_);refine a8 (fun an=>?_) (fun an=>?_)
 ·
  refine I.O (fun cy=>?_);refine G.aj ?_;refine cy ?_;refine I.ret (bK (C ?_));exact⟨(aI (Value.int .i64) (Jc (by unfold fH;rw[aM ⟨an.1.1.1,an.1.1.2,mH J,mH J⟩]))).symm,j⟩
 ·
  have K:fH t=0:=by
   unfold fH;rw[aA];rintro⟨aJ,ab,cF,cG⟩;exact an ⟨⟨⟨aJ,ab⟩,by rw[cF];rfl⟩,by rw[cG];rfl⟩
  refine I.skip (cw ?_)
  refine I.bQ (fun(_:Unit)=>[(2,.pointer (some ⟨N.size,0,none⟩)),(3,.pointer (some ⟨E.size,0,none⟩))])
   (fun(_:Unit) (H:Heap)=>(gD t=0)∧al W H) (fun _ bb cz=>?_) ?_
  ·
   have ak:al W W:=aa.refl _ _;refine I.O (fun bd=>?_);refine G.a6 n.W bP ee fc ?_;refine G.af ?_;refine G.join (d:=35) (v:= .bool (decide (t.bz=true∧¬t.ah=[]))) 4 (fun aP=>?_) ?_
   ·
    refine G.split (d:=31) o (fun az=>?_) (fun az=>?_)
    ·
     refine G.wl n.W bP b3 cd ?_;refine G.aG (Y.lO o o o) ?_;refine G.W ?_;exact aP _ (aI (fun b=>some (Value.bool b)) (by simp[az])) (ai (ai (ai (ai (b_ (aI Value.bool az.symm))))))
    ·
     refine G.av 4 ?_;exact aP _ (aI (fun b=>some (Value.bool b)) (by simp[az])) (ai (ai (ai (ai (b_ (aI Value.bool az.symm))))))
   refine G.af ?_;refine G.bL (d:=36) o (fun X=>?_) (fun X=>?_)
   ·
    refine G.wl n.W bP b3 cd ?_;refine G.call o uY o bR o o (wE t.ah w0 _ J) ?_;rintro c5 c6 ⟨rfl,bq⟩;obtain⟨j,ak,_⟩:=bO bq j ak;refine G.aG dX ?_;refine G.W ?_;refine G.nil (bd ?_);refine a8 (fun ay=>?_) (fun ay=>?_)
    ·
     refine I.O (fun cA=>?_);refine G.aj ?_;refine cA ?_;refine I.ret (cz (C ?_));exact⟨(aI (Value.int .i64) (Jd K (by unfold gD;rw[aM X];exact ay))).symm,j⟩
    ·
     refine I.skip ?_;refine aT.sub (bb () _ ?_) ⟨o,o,trivial⟩;exact⟨by unfold gD;rw[aM X];exact pH.1 ay,ak⟩
   ·
    refine G.av 5 ?_;refine G.nil (bd ?_);refine dZ ?_;refine I.skip ?_;refine aT.sub (bb () _ ?_) ⟨o,o,trivial⟩;exact⟨by unfold gD;rw[aA X],ak⟩
  ·
   intro _ cN bY;obtain⟨O,bW⟩:=bY;obtain⟨ag,A,B,n,j,_⟩:=dH bW ag A B n j;refine I.O (fun cB=>?_);refine G.v1 (ba B.W fV dJ (cq _)) ?_;refine G.v1 (ba n.W hR gh (eu _)) ?_;refine aW ID (NL s t w0 _ ag.r.any ok.hV cI ok.bm A.m.any L.ml L.kT) ?_;rintro c9 aB ⟨rfl,bt⟩;obtain⟨ag,A,B,n,j,_⟩:=dH bt ag A B n j;refine G.aj ?_;refine cB (I.t2 (fun b4 b5=>I.O (fun bw=>?_)));refine G.af ?_;refine G.v1 dX (G.nil (bw ?_));refine a8 (fun aD=>?_) (fun aD=>?_)
   ·
    refine I.O (fun bz=>?_);refine G.aZ 2 ?_;refine bz ?_;refine I.ret (b5 (C ?_));exact⟨(aI (Value.int .i64) (Je (s:=s.m) K O aD)).symm,j⟩
   ·
    have U:gY (bX s.bm) t.ml=0:=pH.1 aD;refine I.skip (b4 ?_)
    refine I.bQ (fun(_:Unit)=>[(2,.pointer (some ⟨N.size,0,none⟩)),(3,.pointer (some ⟨E.size,0,none⟩))])
     (fun(_:Unit) (H:Heap)=>(hv t=0)∧al aB H) (fun _ am bA=>?_) ?_
    ·
     have af:al aB aB:=aa.refl _ _;refine I.O (fun bB=>?_);refine G.a6 n.W bP ee fc ?_;refine G.af ?_;refine G.join (d:=55) (v:= .bool (decide (t.ag=true∧¬t.q.k=0))) 5 (fun aR=>?_) ?_
     ·
      refine G.split (d:=50) o (fun R=>?_) (fun R=>?_)
      ·
       refine G.hl bP dP ?_;refine G.gz n.W.sA b1 b8 cX ?_;refine G.aG dX ?_;refine G.W ?_;exact aR _ (aI (fun b=>some (Value.bool b)) (by simp[R])) (ai (ai (ai (ai (ai (b_ (aI Value.bool R.symm)))))))
      ·
       refine G.av 5 ?_;exact aR _ (aI (fun b=>some (Value.bool b)) (by simp[R])) (ai (ai (ai (ai (ai (b_ (aI Value.bool R.symm)))))))
     refine G.nil (bB ?_);refine a8 (fun ap=>?_) (fun ap=>?_)
     ·
      refine I.O (fun bC=>?_);refine G.aV bP dP ?_;refine G.v1 (Y.cast (v2:=hx t.q) (ba ((n.W.drop 4).take 70) kF dP (by rw[lA];exact eC _)) (c4 (lA t))) ?_;refine aW IE (JM t.q w0 _ A.q.any J) ?_;rintro dc de ⟨rfl,bD⟩;obtain⟨j,af,_⟩:=bO bD j af;refine G.aj ?_;refine bC (I.O (fun bE=>?_));refine G.af ?_;refine G.v1 dX (G.nil (bE ?_));refine a8 (fun aG=>?_) (fun aG=>?_)
      ·
       refine I.O (fun bF=>?_);refine G.aZ 2 ?_;refine bF ?_;refine I.ret (bA (C ?_));exact⟨(aI (Value.int .i64) ((Jf (s:=s.m) K O U (by unfold hv;rw[aM ap];exact aG)).trans (by unfold hv;rw[aM ap]))).symm,j⟩
      ·
       refine I.skip ?_;refine aT.sub (am () _ ?_) ⟨o,o,trivial⟩;exact⟨by unfold hv;rw[aM ap];exact pH.1 aG,af⟩
     ·
      refine I.skip ?_;refine aT.sub (am () _ ?_) ⟨o,o,trivial⟩;exact⟨by unfold hv;rw[aA ap],af⟩
    ·
     intro _ b2 b0;obtain⟨av,ac⟩:=b0;obtain⟨ag,A,B,n,j,_⟩:=dH ac ag A B n j;refine I.t2 (fun bG aS=>I.O (fun bH=>?_));refine G.aj ?_;refine bH (I.aC (fun _ bL aV=>?_))
     refine I.bb (fun(i:Nat)=>[(2,.pointer (some ⟨N.size,0,none⟩)),(3,.pointer (some ⟨E.size,0,none⟩)),(6,.int .i64 (i:Int))])
      (fun(i:Nat) (H:Heap)=>(i≤t.el.length)∧(∀x∈t.el.take i,ix x=0)∧al b2 H)
      (fun(i:Nat)=>t.el.length-i) 0 ⟨o,o,o,trivial⟩ ?_ ?_
     ·
      exact⟨J,(fun x h=>by simp at h),aa.refl _ _⟩
     intro i df b7 dg bQ aH;obtain⟨dz,S,aX⟩:=b7;obtain⟨ag,A,B,n,j,_⟩:=dH aX ag A B n j;refine I.t2 (fun bT bU=>I.O (fun a0=>?_));refine G.af ?_;refine G.aX n.W.ig bP eN fD ?_;refine G.v1 (bu A.e dy) ?_;refine G.v1 bZ (G.nil (a0 ?_));refine a8 (fun b9=>?_) (fun b9=>?_)
     ·
      refine I.skip (bT (I.t2 (fun a2 a7=>I.aC (fun a3 _ aZ=>I.t2 (fun a4 a5=>I.O (fun bm=>?_))))));refine G.aX n.W.ig bP eN fD ?_;refine G.af ?_;have ar:i<t.el.length:=by omega
      obtain⟨y,M⟩:∃q,q=t.el[i]:=⟨_,o⟩;have cH:y∈t.el:=by rw[M];exact cU ar
      refine G.cn (Y.cg A.e i o dy db o o) fun cV bn=>?_;refine G.aV gU bx ?_;refine G.v1 (Y.cast (v2:=bM y.k) (ba ((bn.W.drop 0).take 32) cZ bx (by rw[gS];exact bI _)) ((by rw[M];exact c4 (gS _)))) ?_;refine G.v1 (Y.build (v:=bM bJ) o o fy) ?_;refine G.v1 (Y.cast (v2:= .bool (decide (y.k=bJ))) (Y.mA o Tryz.eqGuardType26 (fun w=>i_ 9998 Tryz.underlying26 Tryz.underlying5 dK fE y.k.2 bJ.2 w) o o) ((aI Value.bool (decide_eq_decide.2 ⟨fun e=>hr e,fun e=>aI Subtype.val e⟩)))) (G.nil (bm ?_));refine a8 (fun ae=>?_) (fun ae=>?_)
      ·
       refine I.O (fun bo=>?_);refine G.aj ?_;refine bo ?_;refine I.ret (a5 (aZ (a7 (aH (aV (aS (C ?_)))))));exact⟨(aI (Value.int .i64) ((u3 (s:=s.m) K O U av).trans (D8 ar S (by rw[←M];unfold ix;rw[aM ae]) bc))).symm,j⟩
      ·
       refine I.skip (a4 (I.O (fun a9=>?_)));refine G.aX n.W.ig bP eN fD ?_;refine G.af ?_;refine G.cn (Y.cg A.e i o dy db o o) fun cW bV=>?_;refine G.aV gU dt ?_;refine G.v1 (Y.cast (v2:=y.v.v) (bf bV.W.mP fe) (by rw[M])) ?_;refine G.v1 (bu (A.d y cH) dV) ?_;refine G.v1 fA (G.nil (a9 ?_));refine a8 (fun ca=>?_) (fun ca=>?_)
       ·
        refine I.O (fun cg=>?_);refine G.aj ?_;refine cg ?_;refine I.ret (aZ (a7 (aH (aV (aS (C ?_))))));exact⟨(aI (Value.int .i64) ((u3 (s:=s.m) K O U av).trans (D8 ar S (by rw[←M];unfold ix;rw[aA ae,aM J]) bc))).symm,j⟩
       ·
        refine I.skip (a3 (a2 (I.region ?_)));refine G.af ?_;refine G.v1 bN ?_;refine G.aj ?_;refine aT.sub (bQ (i+1) _ ?_ ?_) ⟨o,o,(aF J),trivial⟩
        ·exact⟨J,qf S ar (by rw[←M];unfold ix;rw[aA ae,aA J]),aX⟩
        ·first|omega|(simp only;omega)|(simp;omega)
     ·
      obtain rfl:i=t.el.length:=by omega
      rw[eD]at S;have aK:kn t.el=0:=zc S;have bk:=D6 aK;refine I.exit (bU (aH (bL ?_)));refine bG (I.t2 (fun ch ck=>I.O (fun cR=>?_)));refine G.aX B.W.lk c8 eN fD ?_;refine G.aX n.W.ig bP eN fD ?_;refine aW B4 (Fg _ _ s.el t.el F w0 _ ag.e (a_.mono j.size) A.e.any ag.d (a_.mono j.size) (fun y hy=>(A.d y hy).any) J (by have:=L.el;omega) (fun x V=>by have:=(bk x V).2;omega) (fun x V=>(bk x V).1)) ?_;rintro dh di ⟨dj,dE,dk,rfl,cJ,cO,cY,cP,c0,bj,be⟩;obtain⟨A,n,j,_⟩:=cf be A n j;refine G.v1 (bu (cJ ()) dy) ?_;refine G.v1 fA (G.nil (cR ?_));refine a8 (fun cb=>?_) (fun cb=>?_)
      ·
       refine I.O (fun cD=>?_);refine G.aj ?_;refine cD ?_;refine I.ret (ck (C ?_));exact⟨(aI (Value.int .i64) ((u3 (s:=s.m) K O U av).trans (by rw[ko,aA (by rw[aK];decide),aM (by rw[show s.m.iw=da s.el from o,←bj,vd];omega)]))).symm,j⟩
      ·
       have bg:eL s.m t=0:=(u3 (s:=s.m) K O U av).trans (by rw[ko,aA (by rw[aK];decide),aA (by rw[show s.m.iw=da s.el from o,←bj,vd];omega)]);have V:=vg L bg;have dB:=L.pM;refine I.skip (ch (I.O (fun cm=>?_)));refine G.v1 (ba n.W hR gh (eu _)) ?_;refine aW IF (JU t aQ w0 _ A (cl.mono j.size) V ⟨aU,z2⟩) ?_;rintro dm dp ⟨dq,du,rfl,a6,c2,cn⟩;obtain⟨j,_⟩:=b6 cn j;have cQ:=a6.le;refine G.af ?_;refine G.v1 c3 ?_;refine G.v1 c3 ?_;refine G.aZ 2 ?_;refine cm (I.t1 (fun bi=>I.O (fun cp=>?_)));refine G.af ?_;refine G.v1 ((dX).gE bl) ?_;refine G.av 2 ?_;refine G.aG (bu a6.rd dV) ?_;refine G.aG ((fA).gE J) ?_;refine G.eh ?_;refine G.nil (cp ?_);refine dZ ?_;refine I.skip (bi (I.O (fun aC=>?_)));refine G.aj ?_;refine aC ?_;refine I.ret (C ?_);exact⟨by rw[bg],j⟩
end xn
namespace AP
open gV e2 hn pd jH iN xk AI uy xm xn
theorem ax.mU{F aQ:Nat→Prop}{k h:Nat}(x:∀b,aQ b→F b∨h≤b)(d:ax F k)(j:k≤h):ax aQ k:=fun b e ab=>(x b e).elim (fun e=>d b e ab) (fun e=>by omega)
theorem DY(l:List hd):(c7 l).length=l.length:=dg ..
set_option maxHeartbeats 1600000 in
theorem M9(s:dR)(t:bS)(F bD:Nat→Prop)(w0:World)(N:Heap)
 (ag:fr F N s)(aB:bp F N.size)(A:gk bD N t)(db:bp bD N.size)(ok:s.m.Ok)(aq:eL s.m t=0)(bx:oy t):
 aE Tryz.prog w0 25 #[fZ s,fo t] N (fun r X=>∃bA:dR,∃bd:Nat→Prop,r=fZ bA∧(∀u:Unit,fr bd X bA)∧bp bd X.size∧(∀b,bd b→F b∨N.size≤b)∧bA.m=s.m.ap t∧al N X):=by
 refine aE.enter (args:=[fZ s,fo t]) Tryz.func25 o o o ?_;intro ej dZ;have j:al N N:=aa.refl _ _;have dF:=u1 aq;have e6:=bx.bj;have e8:=bx.ml;have e9:=bx.el;have bO:=D6 dF.iw;have e3:s.bm.length≤200:=by have:=ok.iC;rwa[show s.m.cv=bX s.bm from o,n9]at this
 have e4:s.el.length≤500:=by have:=ok.kT;rwa[show s.m.iw=da s.el from o,vd]at this
 have e0:s.cj.length≤200:=by have bb:=aI List.length ok.c6;rw[dg,dg,show s.m.cv=bX s.bm from o,show s.m.eg=c7 s.cj from o,n9,DY]at bb;omega
 refine I.O (fun cP=>?_);refine G.aU Z.bv ?_;rintro v2 X ⟨rfl,aL,cQ,_⟩;obtain⟨ag,A,j,_⟩:=cf cQ ag A j;have aL:Var 47 X N.size (cc s):=aL;refine G.aU Z.bv ?_;rintro v3 av ⟨rfl,n,cT,_⟩;obtain⟨ag,A,aL,j,_⟩:=ed cT ag A aL j;have n:Var 32 av X.size (dM t):=n;refine G.aU (Z.a7 mq) ?_;rintro v4 E ⟨rfl,B,cV,_⟩;have aN:=ax.new (aB.mono j.size);have a9:=ae.new j.size;obtain⟨ag,A,aL,n,j,_⟩:=dH cV ag A aL n j;refine G.nil (cP (I.O (fun cW=>?_)));refine G.v1 (ba aL.W fV dJ (cq _)) ?_;refine G.aU (Z.a7 mq) ?_;rintro v5 eh ⟨rfl,d,cY,_⟩;have V:=ax.new (aB.mono j.size);have aH:=ax.new (db.mono j.size);have aJ:=ak.new n.lt;have aK:=ak.new B.lt;have az:=ae.new j.size;obtain⟨ag,A,n,B,j,_⟩:=dH cY ag A n B j;refine G.s1 (et d _ (cc s) (kK _) dJ (cq _) ((dD (cq _).symm))) ?_;rintro a7 ⟨d,b7⟩;obtain⟨ag,A,n,B,j,_⟩:=g_ b7 ag V A aH n aJ B aK j az;refine G.nil (cW ?_)
 refine I.cut (fun(K:(List UInt8))=>[(3,.pointer (some ⟨X.size,0,none⟩)),(4,.pointer (some ⟨av.size,0,none⟩)),(5,.pointer (some ⟨E.size,0,none⟩))])
  (fun(K:(List UInt8)) (H:Heap)=>(Var 47 H E.size (cc {s with ah:=K}))∧(K=if t.bz=true then t.ah else s.ah)∧aa (ay [(E.size+1)]) a7 H) (fun _ bH _=>?_) ?_
 ·
  have a_:aa (ay [(E.size+1)]) a7 a7:=aa.refl _ _;have am:=ae.refl (E.size+1) a7.size;refine I.O (fun cZ=>?_);refine G.a6 n.W bP ee fc ?_;refine G.nil (cZ ?_);refine dm (fun bq=>?_) (fun bq=>?_)
  ·
   refine I.region ?_;refine G.a6 n.W bP b3 cd ?_;refine G.aV c8 b3 ?_;refine G.s1 (du d 0 (cc {s with ah:=t.ah}) b3 (by rw[cq];omega) ((FP _))) ?_;rintro eG ⟨d,b9⟩;obtain⟨a_,_⟩:=c0 b9 a_ (an.r am);refine G.nil ?_;refine aT.sub (bH t.ah _ ?_) ⟨o,o,o,trivial⟩;exact⟨d,by rw[aM bq],a_⟩
  ·
   refine I.skip ?_;refine aT.sub (bH s.ah _ ?_) ⟨o,o,o,trivial⟩;exact⟨d,by rw[aA (by simp[bq])],a_⟩
 ·
  intro K bG bT;obtain⟨d,dQ,cl⟩:=bT;obtain⟨ag,A,n,B,j,_⟩:=g_ cl ag V A aH n aJ B aK j az;refine I.t1 (fun c2=>I.O (fun cn=>?_));refine G.aj ?_;refine cn (I.aC (fun _ cp _=>?_))
  refine I.bb (fun(bC:Nat×aO×(List dq)×(Nat→Prop)×aO×(List hd)×(Nat→Prop))=>match bC with|(i,R,ul,ar,P,C,Q)=>[(3,.pointer (some ⟨X.size,0,none⟩)),(4,.pointer (some ⟨av.size,0,none⟩)),(5,.pointer (some ⟨E.size,0,none⟩)),(6,.int .i64 (i:Int))])
   (fun(i,R,ul,ar,P,C,Q) (H:Heap)=>(i≤t.ml.length)∧Var 47 H E.size (cc {s with ah:=K,fI:=R,bm:=ul,c9:=P,cj:=C})∧(∀u:Unit,Rd ar H eX 33 R.v ul)∧bp ar H.size∧ax ar (E.size+1)∧ax ar (av.size+1)∧(∀u:Unit,Rd Q H gN 2 P.v C)∧bp Q H.size∧ax Q (E.size+1)∧ax Q (av.size+1)∧(∀y∈C,Rd Q H ff 65 y.v.v y.l)∧bp Q H.size∧ax Q (E.size+1)∧ax Q (av.size+1)∧(∀b,ar b→F b∨N.size≤b)∧(∀b,Q b→F b∨N.size≤b)∧bX ul=(t.ml.take i).foldl eV s.m.cv∧c7 C=(t.ml.take i).foldl js s.m.eg∧ul.length≤200+i∧aa (ay [(E.size+1)]) bG H)
   (fun(i,R,ul,ar,P,C,Q)=>t.ml.length-i) (0,s.fI,s.bm,F,s.c9,s.cj,F) ⟨o,o,o,o,trivial⟩ ?_ ?_
  ·
   exact⟨J,d,(fun _=>ag.r),(aB.mono J),V,aN,(fun _=>ag.g),(aB.mono J),V,aN,ag.n,(aB.mono J),V,aN,(fun b e=>Or.inl e),(fun b e=>Or.inl e),o,o,J,aa.refl _ _⟩
  rintro⟨i,R,ul,ar,P,C,Q⟩ a3 cr ei ct cv;obtain⟨eY,d,hu,ew,cB,ec,M,b_,g1,g2,O,bW,bs,eb,ck,bo,aR,aQ,e1,W⟩:=cr;obtain⟨ag,A,n,B,j,_⟩:=g_ W ag V A aH n aJ B aK j az;have ac:=ae.refl (E.size+1) bG.size
  have eZ:C.length=ul.length:=by
   have bb:=aI List.length (vT (ml:=t.ml.take i) ok.c6);rw[dg,dg,←aQ,←aR,DY,n9]at bb;exact bb
  have dS:∀y∈C,y.l.length≤100:=fun y hy=>zn (ml:=t.ml.take i) ok.cj (y.n,y.l) (by rw[←aQ];exact cN.2 ⟨y,hy,o⟩);refine I.t2 (fun cw cy=>I.O (fun cb=>?_));refine G.af ?_;refine G.a6 n.W bP fz gd ?_;refine G.v1 (bu A.m e7) ?_;refine G.v1 bZ (G.nil (cb ?_));refine a8 (fun cz=>?_) (fun cz=>?_)
  ·
   refine I.skip (cw (I.t1 (fun c3=>I.aC (fun c5 _ _=>I.t1 (fun c6=>?_)))));refine ka 7 (fun ek dK=>?_);refine G.a6 d.W c8 jE lx ?_;refine G.a6 n.W bP fz gd ?_;refine G.af ?_;have bc:i<t.ml.length:=by omega
   obtain⟨y,aV⟩:∃q,q=t.ml[i]:=⟨_,o⟩;have e2:y∈t.ml:=by rw[aV];exact cU bc
   refine G.cn (Y.cg A.m i o e7 eS o o) fun ev cR=>?_;refine G.v1 (Y.cast (v2:= .agg (dL y).toArray) (ba cR.W kG eS (fq _)) (by rw[aV])) ?_;refine G.nil (dK _ ?_);refine aW B9 (El _ ul y w0 _ (hu ()).any J) ?_;rintro eP eF ⟨be,cA,rfl,af,bf,cD⟩;have dc:=ak.app ak.z B.lt bf;have bg:=ak.app ak.z d.lt bf;have de:=ae.O (ae.refl 0 _) bf j.size;obtain⟨A,n,d,M,O,W,_⟩:=fY cD A n d M O W;have eu:=af.le;have bQ:bX (np y ul)=(t.ml.take (i+1)).foldl eV s.m.cv:=by rw[nc bc,←aV,←aR];exact En y ul (by rw[aR];exact nd ok.hV)
   refine G.aV c8 jE ?_;refine G.s1 (du d 1 (cc {s with ah:=K,fI:=be,bm:=np y ul,c9:=P,cj:=C}) jE (by rw[cq];omega) ((Ad _ _))) ?_;rintro eH ⟨d,ca⟩;obtain⟨A,n,M,O,af,W,_⟩:=mn ca A aH n aJ M g1 O bs af bg.symm W (an.r ac);refine G.nil (c6 ?_);refine ka 7 (fun eo dN=>?_);refine G.a6 d.W c8 h2 jU ?_;refine G.a6 n.W bP fz gd ?_;refine G.af ?_;refine G.cn (Y.cg A.m i o e7 eS o o) fun eK bi=>?_;refine G.v1 (Y.cast (v2:= .agg (dL y).toArray) (ba bi.W kG eS (fq _)) (by rw[aV])) ?_;refine G.nil (dN _ ?_);refine aW IQ (Lo _ C y Q w0 _ (M ()) (b_.mono J) O (bW.mono J) J dS) ?_;rintro ci eQ ⟨bJ,bR,dC,rfl,bz,bU,bt,bV,aU,dV,df⟩;obtain⟨d,af,W,_⟩:=cf df d af W;have bE:=(ax.mU aU g1 J);have aC:=(ax.mU aU g2 J);have bF:=(ax.mU aU g1 J);have dh:=(ax.mU aU g2 J);refine G.aV c8 h2 ?_;refine G.s1 (du d 2 (cc {s with ah:=K,fI:=be,bm:=np y ul,c9:=bJ,cj:=bR}) h2 (by rw[cq];omega) ((wU _ _))) ?_;rintro eM ⟨d,a0⟩;obtain⟨af,bz,bt,W,_⟩:=dT a0 af bg.symm bz bE bt bF W (an.r ac);refine G.nil (c5 (c3 (I.region ?_)));refine G.af ?_;refine G.v1 bN ?_;refine G.aj ?_;refine aT.sub (ct (i+1,be,np y ul,fun b=>b+1=cA,bJ,bR,dC) _ ?_ ?_) ⟨o,o,o,(aF J),trivial⟩
   ·exact⟨J,d,(fun _=>af.rd),(bp.of af.le),(ax.of bg.symm),(ax.of dc.symm),bz,(bU.mono J),bE,aC,bt,(bV.mono J),bF,dh,(fun b e=>Or.inr (by have bh:=de;unfold ae at bh;omega)),(fun b e=>(aU b e).elim (bo b) (fun e=>Or.inr J)),bQ,by rw[dV (by rw[aQ];exact vo ok.fu),aQ,nc bc,←aV],(by rw[←n9,bQ,nc bc];refine fg (Ep _ _) ?_;rw[←aR,n9];omega),W⟩
   ·first|omega|(simp only;omega)|(simp;omega)
  ·
   obtain rfl:i=t.ml.length:=by omega
   rw[eD]at aR aQ;refine I.exit (cy (cv (cp ?_)));refine c2 ?_
   refine I.cut (fun(bC:dj×(Nat→Prop))=>match bC with|(U,aD)=>[(3,.pointer (some ⟨X.size,0,none⟩)),(4,.pointer (some ⟨av.size,0,none⟩)),(5,.pointer (some ⟨E.size,0,none⟩))])
    (fun(U,aD) (H:Heap)=>(Var 47 H E.size (cc {s with ah:=K,fI:=R,bm:=ul,c9:=P,cj:=C,q:=U}))∧(∀u:Unit,Rd aD H en 33 U.cx.v U.bj)∧bp aD H.size∧ax aD (E.size+1)∧ax aD (av.size+1)∧(∀b,aD b→F b∨N.size≤b)∧(U.p=if t.ag=true then(if t.q.k=0 then fU else t.q.p)else s.m.q)∧aa (ay [(E.size+1)]) a3 H) (fun _ bj _=>?_) ?_
   ·
    have L:aa (ay [(E.size+1)]) a3 a3:=aa.refl _ _;have bn:=ae.refl (E.size+1) a3.size;refine I.O (fun di=>?_);refine G.a6 n.W bP ee fc ?_;refine G.nil (di ?_);refine dm (fun a4=>?_) (fun a4=>?_)
    ·
     refine I.O (fun dk=>?_);refine G.v1 (Y.build (v:=hx fU) o o fy) ?_;refine G.aV c8 dP ?_;refine G.s1 (S.var d _ (cc {s with ah:=K,fI:=R,bm:=ul,c9:=P,cj:=C,q:=fU}) rfl rfl rfl rfl ((l3 _)) dP (eC _) (by rw[cq];exact iS o) ((wV _))) ?_;rintro ey ⟨d,bY⟩;obtain⟨A,n,B,j,L,_⟩:=g_ bY A aH n aJ B aK j az L (an.r bn);refine G.nil (dk (I.O (fun dp=>?_)));refine G.aV bP dP ?_;refine G.aX n.W.sA b1 b8 cX ?_;refine G.v1 dX (G.nil (dp ?_));refine a8 (fun ce=>?_) (fun ce=>?_)
     ·
      refine I.O (fun dt=>?_);refine G.aV bP dP ?_;refine G.v1 (Y.cast (v2:=hx t.q) (ba ((n.W.drop 4).take 70) kF dP (by rw[lA];exact eC _)) (c4 (lA t))) ?_;refine G.aV c8 dP ?_;refine G.s1 (S.var d _ (cc {s with ah:=K,fI:=R,bm:=ul,c9:=P,cj:=C,q:=t.q}) rfl rfl rfl rfl ((l3 _)) dP (eC _) (by rw[cq];exact iS o) ((wV _))) ?_;rintro ez ⟨d,b0⟩;obtain⟨A,n,B,j,L,_⟩:=g_ b0 A aH n aJ B aK j az L (an.r bn);refine G.nil (dt (I.region ?_));refine G.aU (Z.c2 (dE _ (([]:List hf)) pD jB nb)) ?_;rintro eR dG ⟨ai,dx,_⟩;have br:=ak.new B.lt;have bB:=ak.new d.lt;have bK:=ae.new j.size;have dy:=ae.new L.size;obtain⟨A,n,B,d,j,L,_⟩:=fY dx A n B d j L;refine G.aV bP dP ?_;refine G.aX n.W.w6 b1 fR hp ?_;refine G.aU (eO ai A.q pD b2 b2) ?_;rintro bL eT ⟨dI,ai,bk,bl⟩;have bl:=bl.md;have dz:=ak.app br B.lt bk;have a2:=ak.app bB d.lt bk;have dB:=ae.O bK bk j.size;obtain⟨d,L,_⟩:=dW bl d bB L (an.q dy);have eI:=ai.le;rw[hq]at ai;obtain⟨bM,rfl⟩:∃s:aO,bL=s.v:=⟨cF bL,ai.bA.symm⟩;refine G.aV c8 dP ?_;refine G.aV b1 fR ?_;refine G.s1 (du d 69 (cc {s with ah:=K,fI:=R,bm:=ul,c9:=P,cj:=C,q:={t.q with cx:=bM}}) fR (by rw[cq];omega) ((Ae _ _))) ?_;rintro eA ⟨d,b4⟩;obtain⟨ai,L,_⟩:=dW b4 ai a2.symm L (an.r bn);refine G.nil ?_;refine aT.sub (bj ({t.q with cx:=bM},fun b=>b+1=dI) _ ?_) ⟨rfl,rfl,rfl,trivial⟩;exact⟨d,(fun _=>ai.rd),(bp.of ai.le),(ax.of a2.symm),(ax.of dz.symm),(fun b e=>Or.inr (by have bh:=dB;unfold ae at bh;omega)),by rw[aM a4,aA J];rfl,L⟩
     ·
      refine I.skip ?_;refine aT.sub (bj (fU,fun _=>False) _ ?_) ⟨o,o,o,trivial⟩;exact⟨d,(fun _=>Rd.nil _ _ _ _),(fun b e=>e.elim),(fun b e=>e.elim),(fun b e=>e.elim),(fun b e=>e.elim),by rw[aM a4,aM J];rfl,L⟩
    ·
     refine I.skip ?_;refine aT.sub (bj (s.q,F) _ ?_) ⟨o,o,o,trivial⟩;exact⟨d,(fun _=>ag.q),(aB.mono J),V,aN,(fun b e=>Or.inl e),by rw[aA (by simp[a4])];rfl,L⟩
   ·
    rintro⟨U,aD⟩ a5 cm;obtain⟨d,aG,eJ,ef,eg,ch,dY,cg⟩:=cm;obtain⟨ag,A,n,B,hu,M,O,j,_⟩:=jG cg ag V A aH n aJ B aK hu cB M g1 O bs j az;refine I.O (fun cC=>?_);refine G.aX d.W.lk c8 eN fD ?_;refine G.aX n.W.ig bP eN fD ?_;refine aW B4 (Fg _ _ s.el t.el F w0 _ ag.e (aB.mono J) A.e.any ag.d (aB.mono J) (fun y hy=>(A.d y hy).any) J J (fun x bw=>by have:=(bO x bw).2;omega) (fun x bw=>(bO x bw).1)) ?_;rintro eU co ⟨a6,aX,eW,rfl,aZ,ep,aS,er,aP,dU,cH⟩;obtain⟨B,d,hu,M,O,aG,j,_⟩:=kr cH B d hu M O aG j;have cI:=(ax.mU aP V J);have cJ:=(ax.mU aP aN J);have cK:=(ax.mU aP V J);have cL:=(ax.mU aP aN J);refine G.aV c8 eN ?_;refine G.s1 (du d 73 (cc {s with ah:=K,fI:=R,bm:=ul,c9:=P,cj:=C,q:=U,cG:=a6,el:=aX}) eN (by rw[cq];omega) ((Ac _ _))) ?_;rintro eB ⟨d,b5⟩;obtain⟨B,hu,M,O,aG,aZ,aS,j,_⟩:=jG b5 B aK hu cB M g1 O bs aG ef aZ cI aS cK j az;refine G.nil (cC (I.O (fun cO=>?_)));refine G.v1 (ba d.W fV dJ (cq _)) ?_;refine G.s1 (et B _ (cc {s with ah:=K,fI:=R,bm:=ul,c9:=P,cj:=C,q:=U,cG:=a6,el:=aX}) (kK _) dJ (cq _) ((dD (cq _).symm))) ?_;rintro eE ⟨B,b6⟩;obtain⟨hu,M,O,aG,aZ,aS,j,_⟩:=nw b6 hu ec M g2 O eb aG eg aZ cJ aS cL j a9;refine G.nil (cO ?_);refine I.ret (dZ .ret (.inr o) _ _ _ (lg o o B.W fV dJ (cq _)) ?_);exact⟨{s with ah:=K,fI:=R,bm:=ul,c9:=P,cj:=C,q:=U,cG:=a6,el:=aX},_,rfl,(fun _=>(⟨(hu ()).imp (fun b _ e=>ck b e),(M ()).imp (fun b _ e=>bo b e),(fun y hy=>(O y hy).imp (fun b _ e=>bo b e)),(aG ()).imp (fun b _ e=>ch b e),(aZ ()).imp (fun b _ e=>((aP b e).elim Or.inl (fun e=>Or.inr J))),(fun y hy=>(aS y hy).imp (fun b _ e=>((aP b e).elim Or.inl (fun e=>Or.inr J))))⟩:fr (fun b=>F b∨N.size≤b) _ {s with ah:=K,fI:=R,bm:=ul,c9:=P,cj:=C,q:=U,cG:=a6,el:=aX}).ch),(fun b e=>e.2),(fun b e=>e.1),by show d_.mk K (bX ul) (c7 C) U.p (da aX)=_;rw[aR,aQ,dY,dU,dQ];rfl,j⟩
end AP
namespace pe
open ho jz kE mz m4 pg ph lZ pj oA e2 hn lu rf pd jH iN sH
abbrev eB:aD:=[106,111,117,114,110,97,108]
theorem By(bn:Nat)(s s2:dR):er (ptr bn::cc s) 1 (cc s2)=ptr bn::cc s2:=by
 unfold er;rw[cq];rw[List.drop_eq_nil_of_le (by rw[fx,cq];omega)];simp
theorem Bx(bn:Nat)(s:dR):(ptr bn::cc s).length=75:=by rw[fx,cq]
theorem PQ{F:Nat→Prop}{H:Heap}:fr F H xc:=⟨Rd.nil _ _ _ _,Rd.nil _ _ _ _,(fun y h=>by cases h),Rd.nil _ _ _ _,Rd.nil _ _ _ _,(fun y h=>by cases h)⟩
def hS(D:aw)(n:Nat)(br:Bool)(m:d_)(t:bS):Int×Nat×Bool×aw×d_:=
 if eL m t≠0 then(eL m t,n,br,D,m)
 else if(fp D eB n br (cK t)).1≠0 then(((fp D eB n br (cK t)).1:Int),(fp D eB n br (cK t)).2.1,(fp D eB n br (cK t)).2.2.1,(fp D eB n br (cK t)).2.2.2,m)
 else(0,(fp D eB n br (cK t)).2.1,(fp D eB n br (cK t)).2.2.1,(fp D eB n br (cK t)).2.2.2,m.ap t)
section
variable {D : aw} {n : Nat} {br : Bool} {m : d_} {t : bS}
theorem do_1(h:eL m t≠0):hS D n br m t=(eL m t,n,br,D,m):=by unfold hS;rw[aM h]
theorem CE(h:eL m t=0)(ab:(fp D eB n br (cK t)).1≠0):hS D n br m t=(((fp D eB n br (cK t)).1:Int),(fp D eB n br (cK t)).2.1,(fp D eB n br (cK t)).2.2.1,(fp D eB n br (cK t)).2.2.2,m):=by unfold hS;rw[aA (by rw[h];decide),aM ab]
theorem va(h:eL m t=0)(ab:(fp D eB n br (cK t)).1=0):hS D n br m t=(0,(fp D eB n br (cK t)).2.1,(fp D eB n br (cK t)).2.2.1,(fp D eB n br (cK t)).2.2.2,m.ap t):=by unfold hS;rw[aA (by rw[h];decide),aA (by rw[ab];decide)]
end
theorem vb(bC:Int)(K:List Nat)(g:cQ)(b:Nat)(D:aw)(cp bn A n:Nat)(br:Bool)(s:dR)(t:bS)(F E:Nat→Prop)(w0:World)(N:Heap)
 (j:bq K g N b D)(aL:fj bC N)(aT:bp (fun b=>b=0) N.size)(ek:aS (fun b=>b=0) K)(q:Var 206 N bn [ptr b,aN eB,.int .i64 (n:Int),.bool br])(dl:au (bn+1) K)(bW:ax (fun b=>b=0) (bn+1))(d:Var 108 N A (ptr bn::cc s))(aF:au (A+1) K)(aV:ak (bn+1) (A+1))(cf:ax (fun b=>b=0) (A+1))(ag:∀u:Unit,fr F N s)(P:bp F N.size)(aO:aS F K)(j_:ax F (bn+1))(cA:ax F (A+1))(B:gk E N t)(aD:bp E N.size)(b6:aS E K)(b7:ax E (bn+1))(cl:ax E (A+1))(ok:s.m.Ok)(V:oy t)(bX:bw cp D)(bY:cp≤80000000)(b2:n≤1000000000):
 aE Tryz.prog w0 15 #[ptr A,fo t] N (fun r L=>∃bF:List Nat,∃g2:cQ,∃s2:dR,∃aQ:Nat→Prop,r= .int .i64 (hS D n br s.m t).1∧bq bF g2 L b (hS D n br s.m t).2.2.2.1∧bk K N.size bF∧Var 206 L bn [ptr b,aN eB,.int .i64 ((hS D n br s.m t).2.1:Int),.bool (hS D n br s.m t).2.2.1]∧au (bn+1) bF∧Var 108 L A (ptr bn::cc s2)∧au (A+1) bF∧(∀u:Unit,fr aQ L s2)∧bp aQ L.size∧aS aQ bF∧ax aQ (bn+1)∧ax aQ (A+1)∧s2.m=(hS D n br s.m t).2.2.2.2∧aa (ay (K++[(bn+1),(A+1)])) N L):=by
 refine aE.aP [ptr A,fo t] Tryz.func15 ?_;intro b8 aJ;have x:aa (ay (K++[(bn+1),(A+1)])) N N:=aa.refl _ _;have af:=bk.refl K N.size;have ai:=j.aC;have ac:=ae.refl (bn+1) N.size;have bN:=q.lt;have ad:=ae.refl (A+1) N.size;have bO:=d.lt;have b0:=V.pM;refine I.O (fun bm=>?_);refine G.aU Z.bv ?_;rintro v3 a6 ⟨rfl,C,bo,_⟩;have bt:=au.hU j.aC;have bu:=ak.new q.lt;obtain⟨j,aL,q,d,ag,B,x,_⟩:=kr bo j aL q d ag B x;have C:Var 32 a6 N.size (dM t):=C;refine G.aj ?_;refine bm (I.seq (fun bF bx bz=>I.t1 (fun bA=>?_)));refine ka 5 (fun b9 bZ=>?_);refine G.av 2 ?_;refine G.aV o5 dJ ?_;refine G.v1 (ba (d.W.drop 1) fV dJ (cq _)) ?_;refine G.v1 (ba C.W hR gh (eu _)) ?_;refine G.nil (bZ _ ?_);refine aW B0 (sZ s t F E bC w0 _ aL (aT.mono J) (ag ()) (P.mono J) B (aD.mono J) ok V) ?_;rintro a3 a4 ⟨rfl,bT⟩;obtain⟨j,aL,q,d,ag,B,C,x,_⟩:=fP bT j aL q d ag B C x;refine G.aj ?_;refine bA (I.O (fun bB=>?_));refine G.af ?_;refine G.v1 dX (G.nil (bB ?_));refine a8 (fun aC=>?_) (fun aC=>?_)
 ·
  have ah:=do_1 (D:=D) (n:=n) (br:=br) aC;refine I.O (fun bD=>?_);refine G.aZ 2 ?_;refine bD ?_;refine I.ret (bz .ret nofun _ _ (aJ ?_));exact⟨K,g,s,F,by rw[ah],(by rw[ah];exact j),af,(by rw[ah];exact q),dl,d,aF,ag,(P.mono J),aO,j_,cA,by rw[ah],x⟩
 ·
  have R:eL s.m t=0:=by simpa using aC
  have b3:=vg V R;refine I.skip (bx _ _ (I.O (fun bE=>?_)));refine G.v1 (ba C.W hR gh (eu _)) ?_;refine aW B3 (CO t E w0 _ B (aD.mono J) b3) ?_;rintro a5 b_ ⟨b5,b4,rfl,aK,aX,bU⟩;have bG:au b4 K:=au.qh au.lT j.aC aX;have bV:=ak.app ak.z q.lt aX;obtain⟨j,aL,q,d,ag,B,C,x,_⟩:=fP bU j aL q d ag B C x;have cd:=aK.le;refine G.af ?_;refine G.v1 c3 ?_;refine G.v1 c3 ?_;refine G.aZ 2 ?_;refine bE (I.t2 (fun bH bJ=>I.O (fun bK=>?_)));refine G.av 2 ?_;refine G.a6 d.W o5 N2 jl ?_;refine G.af ?_;refine aW IC (Pj bC K g b D bn eB n br b5 (cK t) _ cp w0 _ j aL (aT.mono J) ek q dl bW aK.rd (bp.of aK.le) (aS.of bG) (ax.of bV.symm) b0 bc bX bY b2) (fun ca az bL=>?_);have a_:=d.lt;obtain⟨X,aP,rfl,j,av,q,aU,M⟩:=bL;have aB:=au.ej aF a_ av;have bb:=aS.ej aO (P.mono x.size) av;have am:=bk.O af av x.size;have d:=d.aJ M (au.app aF (au.T aV.symm));have ag:=fun u=>(ag u).aJ M (aS.app aO (aS.T j_));have B:=B.aJ M (aS.app b6 (aS.T b7));have C:=C.aJ M (au.app bt (au.T bu.symm));have x:=x.bt M (ar.app (ar.cO af (by intro k aG;simp[aG])) (ar.T (an.r ac)));have cb:=M.size;have ai:=j.aC;refine G.aj ?_;refine bK (I.O (fun bM=>?_));refine G.af ?_;refine G.v1 dX (G.nil (bM ?_));refine a8 (fun a0=>?_) (fun a0=>?_)
  ·
   have ah:=CE (D:=D) (n:=n) (br:=br) R J;refine I.O (fun bd=>?_);refine G.aZ 2 ?_;refine bd ?_;refine I.ret (bJ (aJ ?_));exact⟨X,aP,s,F,by rw[ah],(by rw[ah];exact j),am,(by rw[ah];exact q),aU,d,aB,ag,(P.mono J),bb,j_,cA,by rw[ah],x⟩
  ·
   have ah:=va (D:=D) (n:=n) (br:=br) R J;refine I.skip (bH (I.t1 (fun bf=>?_)));refine eA (fun W=>al az W) [7,8,9] ?_;have H:=al.refl az;refine U.af 0 o H ?_;refine U.af 1 o H ?_;refine U.bs 2 o H ?_;refine U.aV 3 o5 dJ H ?_;refine U.t1 4 o (fun W aH=>ba ((d.W.drop 1).aR aH) fV dJ (cq _)) H ?_;refine U.t1 5 o (fun W aH=>ba (C.W.aR aH) hR gh (eu _)) H ?_;refine U.bg 6 ?_;refine cP B1 (Bf s t F E w0 _ (ag ()) (P.mono J) B (aD.mono J) ok R V) ?_;rintro a9 Q ⟨aZ,rfl,O,b1,ap⟩;obtain⟨j,q,d,x,_⟩:=ed ap j q d x;have O:=O.ch;have bP:=O.cD;have bg:aS (fun b=>az.size≤b∧b<Q.size) X:=aS.jV (fun b h=>h.1) (by first|exact ai|exact fun k aG=>fg (ai k aG) J|assumption);have bj:ax (fun b=>az.size≤b∧b<Q.size) (bn+1):=ax.jV (fun b h=>h.1) (by first|exact ch|exact bN|omega);have aR:ax (fun b=>az.size≤b∧b<Q.size) (A+1):=ax.jV (fun b h=>h.1) (by first|exact cg|exact bO|omega);have bQ:=H.O ap;refine U.dx bQ ?_;have bR:=al.refl Q;refine U.bg 7 ?_;refine iJ o kX (.inl o) ?_;refine U.bg 8 ?_;refine iJ o (Y.hc d.W o o5 o dJ) (.inl o) ?_;refine U.bg 9 ?_;refine iK o (S.var d _ ((ptr bn::cc aZ)) o o o o ((kK _)) dJ (cq _) (by rw[Bx];exact iS o) ((By _ _ _))) ?_;rintro a2 ⟨d,a7⟩;obtain⟨j,q,O,x,_⟩:=dT a7 j (iv aB) q aV O aR x (an.r ad);refine⟨.inl o,?_⟩;refine dB ?_;have ck:=bR;refine bf (I.O (fun bl=>?_));refine G.aj ?_;refine bl ?_;refine I.ret (aJ ?_);exact⟨X,aP,aZ,_,by rw[ah],(by rw[ah];exact j),am,(by rw[ah];exact q),aU,d,aB,(fun _=>O),(bP.mono J),bg,bj,aR,by rw[ah];exact b1,x⟩
theorem OJ(bn A:Nat)(s:dR)(F:Nat→Prop)(w0:World)(N:Heap)
 (n:Var 108 N A (ptr bn::cc s))(ag:fr F N s)(U:bp F N.size)(ok:s.m.Ok):
 aE Tryz.prog w0 17 #[ptr A] N (fun r x=>∃s2:dR,r=fZ s2∧fr (fun b=>N.size≤b) x s2∧s2.m=s.m∧al N x):=by
 refine aE.enter (args:=[ptr A]) Tryz.func17 o o o ?_;intro Y W;have d:al N N:=aa.refl _ _;have af:=n.lt;refine I.O (fun ad=>?_);refine G.aU (Z.a7 mq) ?_;rintro v2 x ⟨rfl,j,L,_⟩;have M:=ae.new d.size;obtain⟨n,ag,d,_⟩:=cf L n ag d;refine G.nil (ad (I.O (fun O=>?_)));refine G.av 2 ?_;refine G.aV o5 dJ ?_;refine G.v1 (ba (n.W.drop 1) fV dJ (cq _)) ?_;refine aW x4 (Ao s F w0 _ ag (U.mono J) ok) ?_;rintro aB X ⟨H,ay,aQ,rfl,B,q,E,ai,C,an,V,P⟩;have Q:=ak.app ak.z j.lt E;have R:=ae.O (ae.refl 0 _) E d.size;obtain⟨j,d,_⟩:=bO P j d;have ac:=q.le;have S:ax _ (N.size+1):=ax.jV C (by first|exact ar|exact av|omega);refine G.s1 (et j _ (cc H) (kK _) dJ (cq _) ((dD (cq _).symm))) ?_;rintro az ⟨j,K⟩;obtain⟨q,B,d,_⟩:=dQ K q Q.symm B S d M;refine G.nil (O ?_);refine I.ret (W .ret (.inr o) _ _ _ (lg o o j.W fV dJ (cq _)) ?_);exact⟨H,o,(jT.st (B.imp (fun b _ e=>by have bh:=C b e;omega)) (q.rd.imp (fun b _ e=>by have bh:=R;unfold ae at bh;omega))),V,d⟩
end pe
namespace xo
open e2 ow hn qc rh
def wi(cv:e1)(on:List Bool)(t:bS):bS:={t with ml:=iY cv on t.ml}
theorem ve:∀{a b:List bU},a.map (fun x=>(x.k,x.d))=b.map (fun x=>(x.k,x.d))→kn a=kn b∧(∀l,iu l a=iu l b)∧j4 a=j4 b∧(a=[]↔b=[])
 |[],[],_=>⟨o,fun _=>rfl,o,Iff.rfl⟩
 |x::a,[],h=>by cases h
 |[],y::b,h=>by cases h
 |x::a,y::b,h=>by
  simp only[dk,jC,hI]at h;obtain⟨j,ab,d,_⟩:=ve h.2;have e:ix x=ix y:=by unfold ix;rw[h.1.1,h.1.2]
  refine⟨by rw[kn,kn,e,j],fun l=>?_,?_,by simp⟩
  ·show iu (fm l x.k.1 x.d) a=iu (fm l y.k.1 y.d) b
   rw[h.1.1,h.1.2];exact ab _
  ·unfold j4 at d⊢
   simp only[dk,ib,h.1.2,d]
theorem zM{a b:dj}(h:a.p=b.p):iE a=iE b∧a.k=b.k∧a.br=b.br∧a.bj=b.bj:=
 ⟨(aI iE h:iE a.p=iE b.p),(aI (·.k) h:a.p.k=b.p.k),(aI (·.br) h:a.p.br=b.p.br),(aI (·.bj) h:a.p.bj=b.p.bj)⟩
theorem Jg{a b:bS}(h:nD a b)(m:d_):eL m a=eL m b:=by
 obtain⟨n,ab,q,r,x,A⟩:=h;obtain⟨aP,d,_,j⟩:=ve A;obtain⟨bh,bW,_,_⟩:=zM x;unfold eL fH gD hv ko;rw[n,ab,q,r,aP,d,bh,bW];simp only[j]
theorem G2{a b:bS}(h:nD a b)(m:d_):m.ap a=m.ap b:=by
 obtain⟨n,ab,q,r,d,x⟩:=h;obtain⟨_,j,_,_⟩:=ve x;obtain⟨_,bW,_,_⟩:=zM d;unfold d_.ap;rw[n,ab,q,r,j,bW,d]
theorem yn{a b:bS}(h:nD a b)(n:hB a):hB b:=by
 obtain⟨A,ab,r,B,x,j⟩:=h;obtain⟨_,_,q,_⟩:=ve j;obtain⟨_,_,bW,cw⟩:=zM x;have d:=aI List.length j;simp only[dg]at d;unfold hB qP at n⊢;rw[←ab,←bW,←r,←q,←d,←cw];exact n
theorem nD.symm{a b:bS}(h:nD a b):nD b a:=⟨h.1.symm,h.2.1.symm,h.2.2.1.symm,h.2.2.2.1.symm,h.2.2.2.2.1.symm,h.2.2.2.2.2.symm⟩
theorem Mn(cv:e1)(on:List Bool)(i:Nat)(m:bY):(n2 cv on i m).n=m.n∧(n2 cv on i m).y=m.y∧(n2 cv on i m).w=m.w:=by unfold n2;split<;>exact⟨o,o,o⟩
theorem L_(cv:e1)(on:List Bool)(ml:List bY):iz (iY cv on ml)=iz ml:=by
 unfold iz iY;congr 1;refine r7 bl (fun i j ab=>?_);simp only[oV,List.getElem_mapIdx];obtain⟨aP,d,_⟩:=Mn cv on i (ml[i]'(by simpa using ab));rw[aP,d]
theorem C4{t:bS}(cv:e1)(on:List Bool)(h:hB t):hB (wi cv on t):=by
 unfold hB qP wi at*;rw[L_]
 simpa[iY]using h
end xo
namespace xq
open ho mz lY pj oA A3 uz e2 hn lu pe qc
def kZ:d_→List bS→d_→Prop
 |m,[],d=>m=d
 |m,t::l,d=>eL m t=0∧kZ (m.ap t) l d
theorem kZ.snoc{t:bS}:∀{l:List bS} {m d:d_},kZ m l d→eL d t=0→kZ m (l++[t]) (d.ap t)
 |[],m,d,h,c=>by cases h;exact⟨c,o⟩
 |x::l,m,d,h,c=>⟨h.1,h.2.snoc c⟩
theorem kZ.ok:∀{l:List bS} {m d:d_},kZ m l d→m.Ok→d.Ok
 |[],m,d,h,c=>by cases h;exact c
 |x::l,m,d,h,c=>h.2.ok (c.ap h.1)
structure kY (i n:Nat) (m:d_) (D:aw):Prop where
 ex:∃di:List bS,di.length=n∧n≤i∧kZ kB di m∧(∀t∈di,hB t)∧ef 500000 eB (c1 (di.map cK)) D∧(c1 (di.map cK)).length≤8+31013*i
 bK:bw (112+2000000*i) D
 dd:D.dead=false
 vU:D.left=0
theorem kY.start:(dO (aw.empty 2097152 2097152) eB).1=0∧(dO (aw.empty 2097152 2097152) eB).2.1=[]∧kY 0 0 kB (dO (aw.empty 2097152 2097152) eB).2.2:=by
 obtain⟨d,ab,j,n,q⟩:=FT (M:=500000) (p:=eB) (cap:=2097152) (most:=2097152) bc bc bc bc bc bc;exact⟨d,ab,⟨[],o,dz _,o,(fun t h=>by cases h),j,by decide⟩,(BB (bw.empty _ _) eB).mono J,n,q⟩
section
variable {i n : Nat} {m : d_} {D : aw} {t : bS}
theorem kY.up(h:kY i n m D):kY (i+1) n m D:=by
 obtain⟨di,d,ab,j,q,r,x⟩:=h.ex;exact⟨⟨di,d,by omega,j,q,r,by omega⟩,h.bK.mono J,h.dd,h.vU⟩
theorem kY.b(h:kY i n m D):bw (112+2000000*i) D∧n≤i:=⟨h.bK,by obtain⟨di,_,d,_⟩:=h.ex;exact d⟩
theorem kY.hS(h:kY i n m D)(F:i≤13)(B:hB t)(ok:m.Ok):kY (i+1) (hS D n false m t).2.1 (hS D n false m t).2.2.2.2 (hS D n false m t).2.2.2.1∧(hS D n false m t).2.2.1=false∧((hS D n false m t).2.2.2.2).Ok:=by
 by_cases c:eL m t=0
 ·obtain⟨di,rfl,ab,C,E,q,A⟩:=h.ex
  have G:=vj B;have d:=Bd (r:=cK t) q h.dd h.vU bc J J;have ao:=Bz h.bK eB di.length false (cK t) (M:=450000) (by have:=yp q;omega);rw[dg]at d;rw[va c d.1];refine⟨⟨⟨di++[t],?_,?_,C.snoc c,fun x j=>?_,?_,?_⟩,ao.mono J,d.2.2.2.2.1,d.2.2.2.2.2⟩,d.2.2.1,ok.ap c⟩
  ·rw[d.2.1,bT];rfl
  ·rw[d.2.1];omega
  ·rcases gG.1 j with j|j
   ·exact E x j
   ·rw[eU.1 j];exact B
  ·rw[gg];exact d.2.2.2.1
  ·rw[gg,dk,lG,yi,gg,r3]
   rw[yi]at A;simp only[dk,lG,ib,vF]at A⊢;omega
 ·rw[do_1 c]
  exact⟨h.up,o,ok⟩
def p9(m:d_)(D:aw):Prop:=∃di c,kZ kB di m∧(∀t∈di,hB t)∧iM (di.map cK) c∧ef 500000 eB c D∧D.dead=false∧D.left=0
theorem uP{d:d_}{di:List bS}{c:List UInt8}{D:aw}(q:List Int)(j:kZ kB di d)(ab:∀t∈di,hB t)(n:iM (di.map cK) c)(r:ef 500000 eB c (D.fk q)):p9 d (D.fk q):=⟨di,c,j,ab,n,r,o,o⟩
theorem kY.cut(h:kY i n m D)(N:i≤13)(G:hB t)(k:Nat):(∀q,∃A,p9 A ((pe.hS (D.stop k) n false m t).2.2.2.1.fk q)∧(A=m∨(eL m t=0∧A=m.ap t))∧((pe.hS (D.stop k) n false m t).1=0→eL m t=0∧A=m.ap t))∧bw 40000000 (pe.hS (D.stop k) n false m t).2.2.2.1:=by
 obtain⟨di,rfl,ab,j,B,K,L⟩:=h.ex;have F:=h.bK.stop k;have C:=K.stop k;by_cases c:eL m t=0
 ·have O:=vj G
  have ag:=G_ (r:=cK t) C h.dd bc J J;have ao:=Bz F eB di.length false (cK t) (M:=450000) (by have:=yp C;omega);rw[dg]at ag
  have I:∀x∈di++[t],hB x:=fun x d=>by
   rcases gG.1 d with d|d
   ·exact B x d
   ·rw[eU.1 d];exact G
  have H:(di++[t]).map cK=di.map cK++[cK t]:=by rw[gg];rfl
  by_cases a:(fp (D.stop k) eB di.length false (cK t)).1=0
  ·rw[va c a]
   refine⟨fun q=>?_,ao.mono J⟩;obtain⟨x,E,d,g1,g2⟩:=(ag.2 a).get q;have d:x=di.map cK++[cK t]:=d.elim id id;rw[d,←H]at g1;exact⟨_,uP q (j.snoc c) I g1 g2,.inr ⟨c,o⟩,fun _=>⟨c,o⟩⟩
  ·rw[CE c a]
   refine⟨fun q=>?_,ao.mono J⟩;obtain⟨x,E,d,g1,g2⟩:=ag.1.get q;have a2:¬(((fp (D.stop k) eB di.length false (cK t)).1:Nat):Int)=0:=by omega
   rcases d with d|d
   ·rw[d]at g1
    exact⟨_,uP q j B g1 g2,.inl o,fun e=>absurd e a2⟩
   ·rw[d,←H]at g1
    exact⟨_,uP q (j.snoc c) I g1 g2,.inr ⟨c,o⟩,fun e=>absurd e a2⟩
 ·rw[do_1 c]
  refine⟨fun q=>?_,F.mono J⟩;obtain⟨x,E,d,g1,g2⟩:=(N6 C).get q;have d:x=di.map cK:=d.elim id id;rw[d]at g1;exact⟨_,uP q j B g1 g2,.inl o,fun e=>absurd e c⟩
theorem p9.rd(h:p9 m D):(D.cM eB).length+8≤500008:=by
 obtain⟨di,c,_,_,_,d,_⟩:=h;have:=yp d;have:=d.dG;omega
theorem p9.open(h:p9 m D):(dO D eB).1=0∧(∃di,(dO D eB).2.1=di.map cK∧kZ kB di m∧∀t∈di,hB t)∧p9 m (dO D eB).2.2:=by
 obtain⟨di,c,d,ab,q,x,A,B⟩:=h;obtain⟨bB,a2,⟨n,a3,a4⟩,a5,j⟩:=MF x q (fun r C=>by obtain⟨t,E,e⟩:=cN.1 C;rw[←e];have:=vj (ab t E);omega) A B bc bc bc;exact⟨bB,⟨di,a2,d,ab⟩,di,n,d,ab,a3,a4,a5,j⟩
end
end xq
namespace xr
open gV e2 lu gK
theorem ED:∀{n i:Nat} {x:UInt64} (h:i<n),(ck n x)[i]'(by rw[eQ];exact h)=UInt8.ofNat (iF x (8*(n-1-i))).toNat
 |n+1,0,x,_=>rfl
 |n+1,i+1,x,h=>by
  show(ck n x)[i]'(by rw[eQ];omega)=_;rw[ED (n:=n) (i:=i) J,show n+1-1-(i+1)=n-1-i by omega]
theorem Mr(x:UInt64)(k:Nat):t_ (iF x (8*(k+1))) 8|||UInt64.ofNat (UInt8.ofNat (iF x (8*k)).toNat).toNat=iF x (8*k):=by
 apply ti.1;rw[UInt64.toNat_or,t_,l_,l_,q2,q2,qH];have d:=x.toNat_lt;have e:x.toNat/2^(8*(k+1))=x.toNat/2^(8*k)/256:=by rw[Nat.div_div_eq_div_mul,show 8*(k+1)=8*k+8 by omega,Nat.pow_add]
 rw[e];have hy:x.toNat/2^(8*k)≤x.toNat:=yM _ _;generalize x.toNat/2^(8*k)=y at hy⊢;rw[oT J,oT J,show(2:Nat)^8=256 from rfl];have ab:=Nat.shiftLeft_add_eq_or_of_lt (i:=8) (b:=y%256) J (y/256);rw[qI]at ab;rw[show(2:Nat)^8=256 from rfl]at ab;rw[←ab];omega
theorem Mo{x:UInt64}{n:Nat}(h:x.toNat<2^(8*n)):(0:UInt64)=iF x (8*n):=by
 apply ti.1;rw[q2,Nat.div_eq_of_lt h];rfl
theorem Mq(x:UInt64):iF x 0=x:=by
 apply ti.1;rw[q2];simp
def dh(bK c:List UInt8):Nat:=bK.length-c.length
theorem jh{bK x c:List UInt8}(h:x++c<:+bK):dh bK (x++c)+x.length=dh bK c∧dh bK c≤bK.length∧(bK.take (dh bK c)).drop (dh bK (x++c))=x∧c<:+bK:=by
 obtain⟨a,rfl⟩:=h;have aP:dh (a++(x++c)) (x++c)=a.length:=by unfold dh;simp
 have d:dh (a++(x++c)) c=a.length+x.length:=by unfold dh;simp only[bT];omega
 rw[aP,d];refine⟨o,by simp only[bT];omega,?_,⟨a++x,by simp⟩⟩;rw[←dA,kP bl,ma rfl]
theorem Gp{e:TypeId}{H:Heap}{b:Nat}{cs d:List Value}(h:Var e H b cs)(q:cs=d):Var e H b d:=q▸h
theorem Jy(i:dv):er (b9 bJ) 0 ((i.1.take 32).flatMap bd)=b9 i:=by
 rw[eY (by rw[i.2];exact dz _),rO];exact dD (by rw[bI];simp[i.2])
theorem lK{n:Nat}(h:n<18446744073709551616):(UInt64.ofNat n).toNat=n:=by rw[l_,oT h]
theorem Ai(b0:Nat)(s:aO)(bK c:List UInt8)(F:Nat→Prop)(x:List UInt8)(n:Nat)(w0:World)(N:Heap)
 (d:Var 215 N b0 [s.v,.int .i64 ((dh bK (x++c):Nat):Int),.int .i64 0])(ao:Rd F N bd 1 s.v bK)(U:bp F N.size)(f1:ax F (b0+1))(ag:x++c<:+bK)(aB:x.length=n):
 aE Tryz.prog w0 181 #[.pointer (some ⟨b0,0,none⟩),.int .i64 (n:Int)] N (fun r j=>∃s2:aO,r=s2.v∧Var 215 j b0 [s.v,.int .i64 ((dh bK c:Nat):Int),.int .i64 0]∧Rd F j bd 1 s2.v x∧aa (ay [(b0+1)]) N j):=by
 refine aE.aP [.pointer (some ⟨b0,0,none⟩),.int .i64 (n:Int)] Tryz.func181 ?_;intro S R;have q:aa (ay [(b0+1)]) N N:=aa.refl _ _;have C:=ae.refl (b0+1) N.size;have ac:=d.lt;obtain⟨V,ab,Q,W⟩:=jh ag;have X:=ao.len;refine I.O (fun H=>?_);refine G.aj ?_;refine H (I.t1 (fun K=>I.t1 (fun L=>?_)));refine jk ?_;refine G.af ?_;refine G.v1 ((bZ).gE ((fun h=>by omega))) ?_;refine G.av 3 ?_;refine G.aG kX ?_;refine G.hl kA ie ?_;refine G.wl d.W iH dt fe ?_;refine G.aG (bu ao dV) ?_;refine G.b4 ?_;refine G.aG kX ?_;refine G.hl kA ie ?_;refine G.wl d.W iH b8 cX ?_;refine G.aG gq ?_;refine G.aG ((fA).gE ((fun h=>by omega))) ?_;refine G.eh ?_;refine G.nil (L ?_);refine dZ ?_;refine I.skip (K (I.t1 (fun M=>I.O (fun O=>?_))));refine G.av 2 ?_;refine G.aV kA ie ?_;refine G.a6 d.W iH o1 oC ?_;refine G.v1 ((dX).gE ((fun h=>h o))) (G.nil (O ?_));refine dZ ?_;refine I.skip (M (I.O (fun P=>?_)));refine G.av 2 ?_;refine G.aV kA ie ?_;refine G.a6 d.W iH b8 cX ?_;refine G.af ?_;refine G.v1 (Y.cast (v2:= .int .i64 ((dh bK c:Nat):Int)) bN (eI J)) ?_;refine G.bs ?_;refine G.aV kA ie ?_;refine G.aV iH b8 ?_;refine G.s1 (du d 1 ([s.v,.int .i64 ((dh bK c:Nat):Int),.int .i64 0]) b8 bl o) ?_;rintro ad ⟨d,E⟩;obtain⟨ao,q,_⟩:=dW E ao f1 q (an.r C);refine G.nil (P (I.t1 (fun az=>?_)));refine jk ?_;refine G.av 2 ?_;refine G.aV kA ie ?_;refine G.a6 d.W iH dt fe ?_;refine G.av 2 ?_;refine G.aV kA ie ?_;refine G.a6 d.W iH b8 cX ?_;refine G.af ?_;refine G.v1 (Y.cast (v2:= .int .i64 ((dh bK (x++c):Nat):Int)) gq (eI J)) ?_;refine G.av 2 ?_;refine G.aV kA ie ?_;refine G.a6 d.W iH b8 cX ?_;refine G.aP (g:=fun v=>v) (Y.slice ao (dh bK (x++c)) (dh bK c) o dV dK o (.inr ⟨_,_,_,o,o,by first|rfl|omega⟩) (.inr ⟨_,_,_,o,o,by first|rfl|omega⟩) J J) fun B A=>?_;rw[Q]at A;obtain⟨am,rfl⟩:∃s:aO,B=s.v:=⟨cF B,A.bA.symm⟩;refine G.aj ?_;refine az ?_;refine I.ret (R ?_);exact⟨am,o,d,A,q⟩
theorem oa(b0:Nat)(s:aO)(bK c:List UInt8)(F:Nat→Prop)(n:Nat)(x:UInt64)(w0:World)(N:Heap)
 (d:Var 215 N b0 [s.v,.int .i64 ((dh bK (ck n x++c):Nat):Int),.int .i64 0])(ao:Rd F N bd 1 s.v bK)(ak:bp F N.size)(f1:ax F (b0+1))(ag:ck n x++c<:+bK)(aB:n≤8)(aD:x.toNat<2^(8*n)):
 aE Tryz.prog w0 92 #[.pointer (some ⟨b0,0,none⟩),.int .i64 (n:Int)] N (fun r A=>r= .int .u64 x.toNat∧Var 215 A b0 [s.v,.int .i64 ((dh bK c:Nat):Int),.int .i64 0]∧aa (ay [(b0+1)]) N A):=by
 refine aE.aP [.pointer (some ⟨b0,0,none⟩),.int .i64 (n:Int)] Tryz.func92 ?_;intro aH aC;have j:aa (ay [(b0+1)]) N N:=aa.refl _ _;have E:=ae.refl (b0+1) N.size;have ac:=d.lt;have av:=eQ n x;refine I.O (fun Q=>?_);refine G.aj ?_;refine Q (I.O (fun R=>?_));refine G.aj ?_;refine R (I.t1 (fun az=>I.O (fun am=>?_)));refine G.av 2 ?_;refine aW x0 (Ai b0 s bK c F (ck n x) n w0 _ d ao (ak.mono J) f1 ag av) ?_;rintro aK S ⟨ap,rfl,d,q,K⟩;obtain⟨j,_⟩:=c0 K j (an.r E);refine G.v1 (Y.cast (v2:= .int .i64 (n:Int)) (bu q dV) (eI J)) ?_;refine G.af (G.nil (am ?_));refine I.aC (fun _ U _=>?_)
 refine I.bb (fun(i:Nat)=>[(5,.int .u64 (iF x (8*(n-i))).toNat),(10,ap.v),(11,.int .i64 (n:Int)),(12,.int .i64 (i:Int))])
  (fun(i:Nat) (H:Heap)=>(i≤n)∧al S H)
  (fun(i:Nat)=>n-i) 0 ⟨(by rw[td,←Mo aD];rfl),o,o,o,trivial⟩ ?_ ?_
 ·
  exact⟨J,aa.refl _ _⟩
 intro i aL V aG W a7;obtain⟨aN,B⟩:=V;obtain⟨d,q,j,_⟩:=cf B d q j;refine I.O (fun X=>?_);refine G.v1 bZ (G.nil (X ?_));refine I.t2 (fun Z af=>?_);refine a8 (fun ai=>?_) (fun ai=>?_)
 ·
  refine I.skip (Z (I.t1 (fun C=>I.aC (fun L _ _=>I.O (fun M=>?_)))));have ar:i<n:=by omega
  refine G.cn (Y.cg q i o dV dK o o) fun aJ O=>?_;refine G.v1 (Y.cast (v2:= .int .u8 (UInt8.ofNat (iF x (8*(n-1-i))).toNat).toNat) (bf O.W fE) (by rw[ED ar])) ?_;refine G.aj ?_;refine M (I.region ?_);refine G.af ?_;refine G.v1 (Y.Ob (8) o o o gP J) ?_;refine G.af ?_;refine G.v1 (Y.jm o lP hA o) ?_;refine G.v1 (Y.cast (v2:= .int .u64 (iF x (8*(n-(i+1)))).toNat) (Y.ER o o o) (by rw[show n-i=(n-1-i)+1 by omega,Mr,show n-(i+1)=n-1-i by omega])) ?_;refine G.aj ?_;refine L (C (I.region ?_));refine G.v1 bN ?_;refine G.af (G.nil ?_);refine aT.sub (W (i+1) _ ?_ ?_) ⟨(aF J),o,(aF J),(aF J),trivial⟩
  ·exact⟨J,B⟩
  ·first|omega|(simp only;omega)|(simp;omega)
 ·
  refine I.exit (af (a7 (U ?_)));refine az (I.O (fun P=>?_));refine G.aZ 2 ?_;refine P ?_;refine I.ret (aC ?_);exact⟨(by rw[show n-i=0 by omega,Nat.mul_zero,Mq]),d,j⟩
theorem tW(b0:Nat)(s:aO)(bK c:List UInt8)(F:Nat→Prop)(n:Nat)(t:List UInt8)(w0:World)(N:Heap)
 (d:Var 215 N b0 [s.v,.int .i64 ((dh bK (f_ n t++c):Nat):Int),.int .i64 0])(ao:Rd F N bd 1 s.v bK)(A:bp F N.size)(f1:ax F (b0+1))(ag:f_ n t++c<:+bK)(aB:n≤4)(L:t.length<2^(8*n)):
 aE Tryz.prog w0 94 #[.pointer (some ⟨b0,0,none⟩),.int .i64 (n:Int)] N (fun r q=>r=aN t∧Var 215 q b0 [s.v,.int .i64 ((dh bK c:Nat):Int),.int .i64 0]∧aa (ay [(b0+1)]) N q):=by
 refine aE.aP [.pointer (some ⟨b0,0,none⟩),.int .i64 (n:Int)] Tryz.func94 ?_;intro Q K;have j:aa (ay [(b0+1)]) N N:=aa.refl _ _;have x:=ae.refl (b0+1) N.size;have R:=d.lt;have ad:ck n (UInt64.ofNat t.length)++(t++c)<:+bK:=by rw[←dA];exact ag
 obtain⟨_,_,_,B⟩:=jh ad;have W:(2:Nat)^(8*n)≤2^32:=Nat.pow_le_pow_right bc J;have M:(UInt64.ofNat t.length).toNat=t.length:=lK J;rw[show f_ n t++c=ck n (UInt64.ofNat t.length)++(t++c)from dA _ _ _]at d;refine I.O (fun C=>?_);refine G.aj ?_;refine C (I.O (fun E=>?_));refine G.av 3 ?_;refine aW nM (oa b0 s bK (t++c) F n (UInt64.ofNat t.length) w0 _ d ao (A.mono J) f1 ad J (by rw[M];exact L)) ?_;rintro X P ⟨rfl,d,H⟩;obtain⟨ao,j,_⟩:=dW H ao f1 j (an.r x);refine G.v1 (Y.cast (v2:= .int .i64 (t.length:Int)) (Y.qs o hA gZ o (IntWalk.i64_in _ J)) (eI J)) ?_;refine aW x0 (Ai b0 s bK c F t t.length w0 _ d ao (A.mono J) f1 B o) ?_;rintro S U ⟨V,rfl,d,O,ac⟩;have j:=j.bt ac (ar.T (an.r x));refine G.v1 (Y.qn O o Tryz.underlying57 Tryz.underlying9 Tryz.underlying5 o) ?_;refine G.aj ?_;refine E ?_;refine I.ret (K ?_);exact⟨o,d,j⟩
theorem su(b0:Nat)(s:aO)(bK c:List UInt8)(F:Nat→Prop)(i:dv)(w0:World)(N:Heap)
 (d:Var 215 N b0 [s.v,.int .i64 ((dh bK (i.1++c):Nat):Int),.int .i64 0])(ao:Rd F N bd 1 s.v bK)(aC:bp F N.size)(f1:ax F (b0+1))(ag:i.1++c<:+bK):
 aE Tryz.prog w0 95 #[.pointer (some ⟨b0,0,none⟩)] N (fun r q=>r=bM i∧Var 215 q b0 [s.v,.int .i64 ((dh bK c:Nat):Int),.int .i64 0]∧aa (ay [(b0+1)]) N q):=by
 refine aE.enter (args:=[.pointer (some ⟨b0,0,none⟩)]) Tryz.func95 o o o ?_;intro aH aD;have j:aa (ay [(b0+1)]) N N:=aa.refl _ _;have P:=ae.refl (b0+1) N.size;have aJ:=d.lt;have O:=i.2;refine I.O (fun R=>?_);refine G.aU (Z.a7 o7) ?_;rintro v2 q ⟨rfl,n,V,_⟩;have K:=ak.new d.lt;have az:=ae.new j.size;obtain⟨d,ao,j,_⟩:=cf V d ao j;have n:Var 26 q N.size (b9 bJ):=n;refine G.nil (R (I.O (fun am=>?_)));refine G.aU (Z.a7 o7) ?_;rintro v3 C ⟨rfl,A,aj,_⟩;have L:=ak.new d.lt;have W:=ak.new n.lt;have ap:=ae.new j.size;obtain⟨d,ao,n,j,_⟩:=ed aj d ao n j;have A:Var 26 C q.size (b9 bJ):=A;refine G.nil (am (I.t1 (fun X=>?_)));refine eA (fun H=>aa (ay [(b0+1),(q.size+1)]) C H) [] ?_;have B:aa (ay [(b0+1),(q.size+1)]) C C:=aa.refl _ _;have M:=ae.refl (b0+1) C.size;have af:=ae.refl (q.size+1) C.size;refine U.t1 0 o (fun H aL=>(Y.zX (F:=fun c=>c=q.size) (f:=bd) (xs:=bJ.1) A.W o A.lt bJ.2 (fun i x h=>⟨by show(bJ.1.map _)[i]?=_;rw[List.getElem?_map,h];rfl,o⟩) (0) (32) o (fun w=> .inl (nv w)) dK o (.inl ⟨o,o⟩) (.inl ⟨o,o⟩) J J bc).1 _) B ?_;refine U.af 1 o B ?_;refine U.bg 2 ?_;refine cP x0 (Ai b0 s bK c F i.1 32 w0 _ d ao (aC.mono J) f1 ag O) ?_;rintro v6 E ⟨aN,rfl,d,aF,ai⟩;obtain⟨n,A,j,B,_⟩:=dT ai n K.symm A L.symm j (an.r P) B (an.r M);refine U.b5 B (ar.cons (an.r M) (ar.T (an.r af))) ?_;have B:aa (ay [(b0+1),(q.size+1)]) E E:=aa.refl _ _;have Q:=ae.refl (b0+1) E.size;have ac:=ae.refl (q.size+1) E.size;refine U.bg 3 ?_;refine fC o (Z.copy A aF fM hh o Tryz.underlying57 dK o o (by rw[bI];exact iS o) (32) (by rw[O];rfl)) ?_;rintro aP aG ⟨rfl,A,av⟩;have A:Var _ _ _ (b9 i):=Gp A (Jy i);obtain⟨d,n,j,B,_⟩:=dT av d L n W j (an.q ap) B (an.r ac);refine U.b5 B (ar.cons (an.r Q) (ar.T (an.r ac))) ?_;refine dB ?_;refine X (I.O (fun aB=>?_));refine G.v1 (ba A.W cZ bx (bI _)) ?_;refine G.s1 (S.var n _ (b9 i) o o o o (ke _) bx (bI _) (by rw[bI];decide) ((dD ((bI _).trans (bI _).symm)))) ?_;rintro aK ⟨n,ad⟩;obtain⟨d,j,_⟩:=dW ad d K j (an.q az);refine G.nil (aB ?_);refine I.ret (aD .ret (.inr o) _ _ _ (lg o o n.W cZ bx (bI _)) ?_);exact⟨o,d,j⟩
theorem Ny(b0:Nat)(s:aO)(bK:List UInt8)(w0:World)(N:Heap)
 (j:Var 215 N b0 [s.v,.int .i64 ((dh bK []:Nat):Int),.int .i64 0])(ao:b7 N bd 1 s.v bK):
 aE Tryz.prog w0 97 #[.pointer (some ⟨b0,0,none⟩)] N (fun r n=>r= .tuple #[]∧al N n):=by
 refine aE.enter (args:=[.pointer (some ⟨b0,0,none⟩)]) Tryz.func97 o o o ?_;intro B A;have d:al N N:=aa.refl _ _;have ao:=ao.ch;refine ka 15 (fun C x=>?_);refine G.av 2 ?_;refine G.aV kA ie ?_;refine G.av 2 ?_;refine G.aV kA ie ?_;refine G.a6 j.W iH b8 cX ?_;refine G.av 2 ?_;refine G.aV kA ie ?_;refine G.a6 j.W iH dt fe ?_;refine G.v1 (bu ao dV) ?_;refine G.v1 ((cC).gW ((by unfold dh;simp))) ?_;refine G.nil (x _ ?_);refine aW k3 (lj _ 15 w0 _) ?_;rintro E ac ⟨rfl,q⟩;have d:=d.O q;refine G.nil ?_;refine A .normal (.inl o) _ _ _ (jt o) ?_;exact⟨o,d⟩
end xr
namespace xt
open gV e2 hn lu qc rh xr gK
theorem HC{d:Int}(i:dv)(w:World):(Instr.build 129 #[(0,.int .i64 d),(1,bM i)]).run Tryz.prog w= .ok (.agg (en ⟨d,i⟩).toArray) w:=by
 obtain⟨k,j⟩:=i;simp only[en,b9,bM];obtain⟨n,q,K,W,Z,aa,ae,af,ag,ai,r,x,A,B,C,E,F,G,H,I,L,M,N,O,P,Q,R,S,U,V,X,Y,rfl⟩:=pJ j
 kernel_rfl
theorem HB(i:dv)(w:World):(Instr.build 68 #[(0,bM i)]).run Tryz.prog w= .ok (.agg (cb ⟨i,dN,[]⟩).toArray) w:=by
 obtain⟨k,d⟩:=i;simp only[cb,b9,bM];obtain⟨j,n,I,V,Y,Z,aa,ae,af,ag,q,r,x,A,B,C,E,F,G,H,K,L,M,N,O,P,Q,R,S,U,W,X,rfl⟩:=pJ d
 kernel_rfl
def mT(q:dj):dj:=if q.k=0 then fU else q
def eZ(t:bS):bS:={t with ah:=if t.bz=true then t.ah else[],q:=if t.ag=true then mT t.q else fU}
theorem Ji(m:d_)(t:bS):eL m (eZ t)=eL m t:=by
 have aP:fH (eZ t)=fH t:=rfl;have d:gD (eZ t)=gD t:=by unfold gD eZ;by_cases h:t.bz=true<;>simp[h]
 have j:hv (eZ t)=hv t:=by
  unfold hv eZ mT;by_cases h:t.ag=true
  ·by_cases k:t.q.k=0<;>simp[h,k,fU]
  ·simp[h]
 have n:(eZ t).ml=t.ml:=rfl;have q:(eZ t).el=t.el:=rfl;unfold eL;rw[aP,d,j,n,q]
theorem G4(m:d_)(t:bS):m.ap (eZ t)=m.ap t:=by
 unfold d_.ap eZ mT;by_cases h:t.bz=true<;>by_cases g:t.ag=true<;>by_cases k:t.q.k=0<;>simp[h,g,k,fU]
theorem J7{t:bS}(h:hB t):hB (eZ t):=by
 unfold hB qP eZ mT at*;split<;>split<;>(try split)<;>simp_all [fU]<;>omega
theorem yt{α:Type}{f:α→List UInt8}{l:List α}{j:Nat}{c:List UInt8}(h:j<l.length):(l.drop j).flatMap f++c=f l[j]++((l.drop (j+1)).flatMap f++c):=by
 rw[oS h,lD,dA]
theorem yr{α:Type}{f:α→List UInt8}{l:List α}{c:List UInt8}:(l.drop l.length).flatMap f++c=c:=by simp
theorem zx{m:Nat}(h:0<m)(ab:m<4294967296):UInt64.ofNat m-UInt64.ofNat 1=UInt64.ofNat (m-1):=by
 apply ti.1;rw[yN,lK J,lK J,lK J];omega
theorem F2{α:Type}{l:List α}{i:Nat}{x:α}(h:i<l.length)(e:x=l[i]):l.take i++[x]=l.take (i+1):=by rw[e,eP h]
def aP(x:dj)(c:List UInt8):List UInt8:=ck 2 (UInt64.ofNat x.dn.toNat)++(ck 2 (UInt64.ofNat x.md.toNat)++(ck 1 (if x.st=true then 1 else 0)++c))
def wR(x:dj)(c:List UInt8):List UInt8:=f_ 1 x.br++(x.cl.1++(x.bQ.1++(ck 2 (UInt64.ofNat x.bj.length)++(x.bj.flatMap jF++aP x c))))
def ud(x:dj)(c:List UInt8):List UInt8:=if x.k=0 then c else wR x c
theorem Ox(x:dj)(c:List UInt8):kz x++c=ck 1 (UInt64.ofNat x.k.toNat)++ud x c:=by
 unfold ud;split
 ·rename_i h;rw[wS h]
 ·rename_i h;rw[wT h];simp only[wR,aP,dA]
theorem OU(t:hf)(c:List UInt8):jF t++c=ck 1 (UInt64.ofNat t.d.toNat)++(t.i.1++c):=by unfold jF;rw[dA]
theorem LZ(t:bY)(c:List UInt8):iX t++c=f_ 1 t.n++(t.T.1++(t.w.1++(f_ 2 t.y++c))):=by unfold iX;simp only[dA]
theorem LM(t:bU)(c:List UInt8):iV t++c=t.k.1++(f_ 4 t.d++c):=by unfold iV;simp only[dA]
theorem OA(x:dj)(s:List UInt8):(dC x).set 1 (aN s)=dC {x with br:=s}:=rfl
theorem OE(x:dj)(z:dv):er (dC x) 2 (b9 z)=dC {x with cl:=z}:=by
 unfold er;rw[bI,yl];rfl
theorem OB(x:dj)(z:dv):er (dC x) 34 (b9 z)=dC {x with bQ:=z}:=by
 unfold er;rw[bI,ym,show(dC x).take 34=Value.int .i64 x.k::aN x.br::b9 x.cl from aI (fun l=>Value.int .i64 x.k::aN x.br::l) (kP (bI _))];simp only[dC,kf,kO,dA]
theorem Aa(x:dj)(j:Nat)(v:Value):(dC x).set (66+j) v= .int .i64 x.k::aN x.br::(b9 x.cl++(b9 x.bQ++(kf x).set j v)):=by
 rw[show 66+j=(64+j)+1+1 by omega];show Value.int .i64 x.k::aN x.br::((b9 x.cl++(b9 x.bQ++kf x)).set (64+j) v)=_;rw[mJ _ _ (by rw[bI];omega),mJ _ _ (by rw[bI,bI];omega),bI,bI,show 64+j-32-32=j by omega]
theorem OC(x:dj)(n:Int):(dC x).set 67 (.int .i64 n)=dC {x with dn:=n}:=Aa x 1 _
theorem OD(x:dj)(n:Int):(dC x).set 68 (.int .i64 n)=dC {x with md:=n}:=Aa x 2 _
theorem OF(x:dj)(b:Bool):(dC x).set 69 (.bool b)=dC {x with st:=b}:=Aa x 3 _
def ue(b:Bool):UInt64:=if b=true then 1 else 0
theorem OG(b:Bool):(ue b).toNat≤1∧(ue b).toNat<2^(8*1)∧((ue b).toNat=1↔b=true):=by cases b<;>decide
theorem NO(b0:Nat)(s:aO)(bK c:List UInt8)(F:Nat→Prop)(x:dj)(w0:World)(N:Heap)
 (j:Var 215 N b0 [s.v,.int .i64 ((dh bK (kz x++c):Nat):Int),.int .i64 0])(ao:Rd F N bd 1 s.v bK)(O:bp F N.size)(f1:ax F (b0+1))(ag:kz x++c<:+bK)(dZ:0≤x.k∧x.k≤255)(cZ:x.k≠0→ra x):
 aE Tryz.prog w0 96 #[.pointer (some ⟨b0,0,none⟩)] N (fun r aL=>∃s2:aO,∃a_:Nat,r=hx {(mT x)with cx:=s2}∧Var 215 aL b0 [s.v,.int .i64 ((dh bK c:Nat):Int),.int .i64 0]∧aY a_ 129 aL en 33 s2.v (mT x).bj∧ae 0 N.size a_∧aa (ay [(b0+1)]) N aL):=by
 refine aE.enter (args:=[.pointer (some ⟨b0,0,none⟩)]) Tryz.func96 o o o ?_;intro c9 bz;have A:aa (ay [(b0+1)]) N N:=aa.refl _ _;have P:=ae.refl (b0+1) N.size;have da:=j.lt;rw[Ox]at j ag;obtain⟨_,_,_,aU⟩:=jh ag;have cd:(UInt64.ofNat x.k.toNat).toNat=x.k.toNat:=lK J;refine I.O (fun cg=>?_);refine G.aU (Z.a7 xb) ?_;rintro v2 aL ⟨rfl,B,aN,_⟩;have M:=ak.new j.lt;have bm:=ae.new A.size;obtain⟨j,ao,A,_⟩:=cf aN j ao A;refine G.nil (cg (I.O (fun ch=>?_)));refine G.af ?_;refine aW nM (oa _ s bK (ud x c) F 1 (UInt64.ofNat (x.k).toNat) w0 _ j ao (O.mono J) f1 ag bc (by rw[cd];omega)) ?_;rintro ej aD ⟨rfl,j,ck⟩;obtain⟨ao,B,A,_⟩:=dQ ck ao f1 B M.symm A (an.r P);refine G.v1 (Y.cast (v2:= .int .i64 x.k) (Y.qs o hA gZ o (IntWalk.i64_in _ J)) (eI J)) ?_;refine G.v1 (Y.build (v:=hx {fU with k:=x.k}) rfl rfl fy) ?_;refine G.aU (Z.a7 xb) ?_;rintro v3 c8 ⟨rfl,n,aQ,_⟩;have K:=ak.new j.lt;have af:=ax.new (O.mono A.size);have R:=ak.new B.lt;have V:=ae.new A.size;obtain⟨j,ao,B,A,_⟩:=ed aQ j ao B A;refine G.s1 (et n _ (dC {fU with k:=x.k}) (l3 _) dP (eC _) ((dD (eC _).symm))) ?_;rintro dq ⟨n,bL⟩;obtain⟨j,ao,B,A,_⟩:=dT bL j K ao af B R A (an.q V);refine G.nil (ch (I.t2 (fun cm cn=>I.O (fun cp=>?_))));refine G.a6 n.W b1 b8 cX ?_;refine G.v1 cC (G.nil (cp ?_));refine a8 (fun cq=>?_) (fun cq=>?_)
 ·
  have Q:x.k=0:=by omega
  rw[show ud x c=c from aM Q]at j;refine I.O (fun cr=>?_);refine G.v1 (ba n.W kF dP (eC _)) ?_;refine G.s1 (et B _ (dC {fU with k:=x.k}) (l3 _) dP (eC _) ((dD (eC _).symm))) ?_;rintro dt ⟨B,bM⟩;obtain⟨j,A,_⟩:=dW bM j M A (an.q bm);refine G.nil (cr ?_);refine I.ret (cn (bz .ret (.inr o) _ _ _ (lg o o B.W kF dP (eC _)) ?_));exact⟨dN,0,by rw[show mT x=fU from aM Q,Q];rfl,j,by rw[show mT x=fU from aM Q];exact aY.nil jB nb,(ae.refl _ _),A⟩
 ·
  have Q:¬x.k=0:=by omega
  rw[show ud x c=wR x c from aA Q,wR]at j aU;have he:=cZ Q;have d_:=he.br;have eb:=he.bj;have ec:=he.dn;have ef:=he.md;have c0:(UInt64.ofNat x.bj.length).toNat=x.bj.length:=lK J;have c2:(UInt64.ofNat x.dn.toNat).toNat=x.dn.toNat:=lK J;have c3:(UInt64.ofNat x.md.toNat).toNat=x.md.toNat:=lK J;obtain⟨_,_,_,aN⟩:=jh aU;obtain⟨_,_,_,aQ⟩:=jh aN;obtain⟨_,_,_,bn⟩:=jh aQ;obtain⟨_,_,_,ct⟩:=jh bn;refine I.skip (cm (I.O (fun cv=>?_)));refine G.af ?_;refine aW sX (tW _ s bK _ F 1 x.br w0 _ j ao (O.mono J) f1 aU bc J) ?_;rintro df dy ⟨rfl,j,bR⟩;obtain⟨ao,B,n,A,_⟩:=dT bR ao f1 B M.symm n K.symm A (an.r P);refine G.aV b1 b3 ?_;refine G.s1 (du n 1 (dC {fU with k:=x.k,br:=x.br}) b3 (by rw[eC];decide) ((OA _ _))) ?_;rintro dx ⟨n,bN⟩;obtain⟨j,ao,B,A,_⟩:=dT bN j K ao af B R A (an.q V);refine G.nil (cv (I.O (fun b5=>?_)));refine G.af ?_;refine aW rB (su _ s bK _ F x.cl w0 _ j ao (O.mono J) f1 aN) ?_;rintro dz dF ⟨rfl,j,bS⟩;obtain⟨ao,B,n,A,_⟩:=dT bS ao f1 B M.symm n K.symm A (an.r P);refine G.aV b1 bx ?_;refine G.s1 (S.var n _ (dC {fU with k:=x.k,br:=x.br,cl:=x.cl}) rfl rfl rfl rfl (ke _) bx (bI _) (by rw[eC];exact iS o) ((OE _ _))) ?_;rintro db ⟨n,bO⟩;obtain⟨j,ao,B,A,_⟩:=dT bO j K ao af B R A (an.q V);refine G.nil (b5 (I.O (fun b6=>?_)));refine G.af ?_;refine aW rB (su _ s bK _ F x.bQ w0 _ j ao (O.mono J) f1 aQ) ?_;rintro dI dJ ⟨rfl,j,bT⟩;obtain⟨ao,B,n,A,_⟩:=dT bT ao f1 B M.symm n K.symm A (an.r P);refine G.aV b1 bx ?_;refine G.s1 (S.var n _ (dC {fU with k:=x.k,br:=x.br,cl:=x.cl,bQ:=x.bQ}) rfl rfl rfl rfl (ke _) bx (bI _) (by rw[eC];exact iS o) ((OB _ _))) ?_;rintro dc ⟨n,bP⟩;obtain⟨j,ao,B,A,_⟩:=dT bP j K ao af B R A (an.q V);refine G.nil (b6 (I.t1 (fun b7=>I.O (fun bU=>?_))));refine G.af ?_;refine aW nM (oa _ s bK (x.bj.flatMap jF++aP x c) F 2 (UInt64.ofNat x.bj.length) w0 _ j ao (O.mono J) f1 bn bc (by rw[c0];omega)) ?_;rintro ce aR ⟨rfl,j,bV⟩;obtain⟨ao,B,n,A,_⟩:=dT bV ao f1 B M.symm n K.symm A (an.r P);refine G.aj ?_;refine bU (I.aC (fun _ bW _=>?_))
  refine I.bb (fun(c6:Nat×aO×Nat)=>match c6 with|(i,s1,L)=>[(0,.pointer (some ⟨b0,0,none⟩)),(2,.pointer (some ⟨N.size,0,none⟩)),(3,.pointer (some ⟨aD.size,0,none⟩)),(4,.int .u64 (UInt64.ofNat (x.bj.length-i)).toNat)])
   (fun(i,s1,L) (H:Heap)=>(i≤x.bj.length)∧Var 215 H b0 [s.v,.int .i64 ((dh bK ((x.bj.drop i).flatMap jF++aP x c):Nat):Int),.int .i64 0]∧Var 29 H aD.size (dC {fU with k:=x.k,br:=x.br,cl:=x.cl,bQ:=x.bQ,cx:=s1,bj:=x.bj.take i})∧aY L 129 H en 33 s1.v (x.bj.take i)∧((x.bj.drop i).flatMap jF++aP x c<:+bK)∧ae 0 aR.size L∧ak (b0+1) L∧ak (aD.size+1) L∧aa (ay [(b0+1),(aD.size+1)]) aR H)
   (fun(i,s1,L)=>x.bj.length-i) (0,dN,0) ⟨o,o,o,o,trivial⟩ ?_ ?_
  ·
   exact⟨J,j,n,(aY.nil jB nb),ct,ae.refl _ _,ak.z,ak.z,aa.refl _ _⟩
  rintro⟨i,s1,L⟩ dK b9 dL a0 bB;obtain⟨eh,j,n,C,aB,aV,bZ,az,ac⟩:=b9;have ca:=ak.app ak.z B.lt aV;have a2:=ae.O (ae.refl 0 _) aV A.size;have ao:=ao.aJ ac (aS.cons f1 (aS.T af));have B:=B.aJ ac (au.cons M.symm (au.T R));have A:=A.bt ac (ar.cons (an.r P) (ar.T (an.q V)));have de:=ac.size;have b2:=C.le;have W:=bZ;have X:=az;have ad:=ae.refl (b0+1) aR.size;have bY:=ae.refl (aD.size+1) aR.size;have bg:=aV;have ei:(UInt64.ofNat (x.bj.length-i)).toNat=x.bj.length-i:=lK J;refine I.t2 (fun a3 a4=>I.O (fun a5=>?_));refine G.af ?_;refine G.v1 (Y.cast (v2:= .bool (decide (i<x.bj.length))) fA (aI Value.bool (decide_eq_decide.2 J))) ?_;refine G.af ?_;refine G.join (d:=35) (v:= .bool (decide (i<x.bj.length))) 7 (fun bf=>?_) ?_
  ·
   refine G.bL (d:=28) o (fun aJ=>?_) (fun aJ=>?_)
   ·
    refine G.b4 ?_;refine G.aG kX ?_;refine G.hl kA ie ?_;refine G.wl j.W iH o1 oC ?_;refine G.aG ((cC).gW o) ?_;refine G.W ?_;exact bf _ (aI (fun b=>some (Value.bool b)) (by simp[aJ])) (ai (ai (ai (ai (ai (ai (ai (b_ (aI Value.bool (cT aJ).symm)))))))))
   ·
    refine G.av 7 ?_;exact bf _ (aI (fun b=>some (Value.bool b)) (by simp[aJ])) (ai (ai (ai (ai (ai (ai (ai (b_ (aI Value.bool (cL aJ).symm)))))))))
  refine G.nil (a5 ?_);refine a8 (fun bo=>?_) (fun bo=>?_)
  ·
   have a7:i<x.bj.length:=bo;obtain⟨t,bb⟩:∃q,q=x.bj[i]:=⟨_,o⟩;have eg:=he.dd t (by rw[bb];exact cU a7);have cY:(UInt64.ofNat t.d.toNat).toNat=t.d.toNat:=lK J;rw[yt a7,←bb,OU]at j aB;obtain⟨_,_,_,bA⟩:=jh aB;obtain⟨_,_,_,c4⟩:=jh bA;refine I.skip (a3 (I.t1 (fun bC=>I.aC (fun bD _ _=>I.O (fun bE=>?_)))));refine G.af ?_;refine aW nM (oa _ s bK (t.i.1++((x.bj.drop (i+1)).flatMap jF++aP x c)) F 1 (UInt64.ofNat (t.d).toNat) w0 _ j ao (O.mono J) f1 aB bc (by rw[cY];omega)) ?_;rintro eF aK ⟨rfl,j,a9⟩;obtain⟨ao,n,C,ac,_⟩:=dT a9 ao f1 n K.symm C W.symm ac (an.r ad);refine G.v1 (Y.cast (v2:= .int .i64 t.d) (Y.qs o hA gZ o (IntWalk.i64_in _ J)) (eI J)) ?_;refine G.aj ?_;refine bE ?_;refine eA (fun aG=>aa (ay [(b0+1),L]) aK aG) [9] ?_;have E:aa (ay [(b0+1),L]) aK aK:=aa.refl _ _;have bk:=ae.refl (b0+1) aK.size;have bX:=ae.refl L aK.size;refine U.t1 0 o (fun aG av=>Y.fieldAddr (n.aJ av (au.cons K.symm (au.T X))).W o b1 o o fR bc o) E ?_;refine U.t1 1 o (fun aG av=>Y.gO (n.aJ av (au.cons K.symm (au.T X))).W.h3 o hp o) E ?_;refine U.af 2 o E ?_;refine U.af 3 o E ?_;refine U.bg 4 ?_;refine cP rB (su _ s bK ((x.bj.drop (i+1)).flatMap jF++aP x c) F t.i w0 _ j ao (O.mono J) f1 bA) ?_;rintro ci am ⟨rfl,j,cw⟩;obtain⟨n,C,ac,E,_⟩:=dT cw n K.symm C W.symm ac (an.r ad) E (an.r bk);refine U.b5 E (ar.cons (an.r bk) (ar.T (an.r bX))) ?_;have E:aa (ay [(b0+1),L]) am am:=aa.refl _ _;have cy:=ae.refl (b0+1) am.size;have cz:=ae.refl L am.size;refine U.t1 (v:= .agg (en t).toArray) 5 o (fun aG av=>?_) E ?_
   ·exact Y.build (v:= .agg (en t).toArray) o o (by intro w;exact HC _ _)
   refine U.bg 6 ?_;refine fC o (Z.c2 (dE _ ([t]) pD jB nb)) ?_;rintro dM aH ⟨c5,cR,_⟩;have be:=ak.new n.lt;have cD:=ae.new E.size;obtain⟨j,n,C,ac,E,_⟩:=dH cR j n C ac E;refine U.b5 E (ar.cons (an.r cy) (ar.cons (an.r cz) (ar.T (an.q cD)))) ?_;have E:aa (ay [(b0+1),L,(am.size+1)]) aH aH:=aa.refl _ _;have cA:=ae.refl (b0+1) aH.size;have bl:=ae.refl L aH.size;have cB:=ae.refl (am.size+1) aH.size;refine U.bg 7 ?_;refine fC o (eO C c5.rd pD (by simp only[eJ,iU];omega) (by simp only[eJ,iU];omega)) ?_;rintro bq bi ⟨bw,C,ap,aX⟩;have aX:=aX.md;have aC:=ak.app W j.lt ap;have aZ:=ak.app X n.lt ap;have cG:=ae.O bg ap ac.size;have cH:=ae.O bl ap E.size;obtain⟨j,n,ac,E,_⟩:=dT aX j W n X ac (an.q bg) E (an.r bl);have b2:=C.le;rw[F2 a7 bb]at C;obtain⟨bt,rfl⟩:∃s:aO,bq=s.v:=⟨cF bq,C.bA.symm⟩;refine U.b5 E (ar.cons (an.r cA) (ar.cons (an.r cH) (ar.T (an.r cB)))) ?_;have E:aa (ay [(b0+1),bw,(am.size+1)]) bi bi:=aa.refl _ _;refine U.t1 8 o (fun aG av=>Y.fieldAddr (n.aJ av (au.cons K.symm (au.cons aZ (au.T be)))).W o b1 o o fR bc o) E ?_;refine U.bg 9 ?_;refine iK o (du n 66 (dC {fU with k:=x.k,br:=x.br,cl:=x.cl,bQ:=x.bQ,cx:=bt,bj:=x.bj.take (i+1)}) fR (by rw[eC];decide) ((FN _ _))) ?_;rintro dg ⟨n,b4⟩;obtain⟨j,C,ac,_⟩:=dQ b4 j K C aZ.symm ac (an.r bY);refine⟨.inl o,?_⟩;refine dB ?_;refine bD (bC (I.region ?_));refine G.af ?_;refine G.v1 (Y.cast (v2:= .int .u64 (UInt64.ofNat (x.bj.length-(i+1))).toNat) (Y.wX (b:=(UInt64.ofNat 1)) o o o) (by rw[zx J J];rfl)) ?_;refine G.aj ?_;refine aT.sub (a0 (i+1,bt,bw) _ ?_ ?_) ⟨o,o,o,(aF J),trivial⟩
   ·exact⟨J,j,n,C,c4,cG,aC,aZ,ac⟩
   ·first|omega|(simp only;omega)|(simp;omega)
  ·
   obtain rfl:i=x.bj.length:=by omega
   rw[yr,aP]at j aB;rw[eD]at n C;obtain⟨_,_,_,bu⟩:=jh aB;obtain⟨_,_,_,cb⟩:=jh bu;have a6:=OG x.st;refine I.exit (a4 (bB (bW ?_)));refine b7 (I.O (fun cI=>?_));refine G.af ?_;refine aW nM (oa _ s bK _ F 2 (UInt64.ofNat (x.dn).toNat) w0 _ j ao (O.mono J) f1 aB bc (by rw[c2];omega)) ?_;rintro dR dG ⟨rfl,j,cJ⟩;obtain⟨ao,B,n,C,A,_⟩:=g_ cJ ao f1 B M.symm n K.symm C W.symm A (an.r P);refine G.v1 (Y.cast (v2:= .int .i64 x.dn) (Y.qs o hA gZ o (IntWalk.i64_in _ J)) (eI J)) ?_;refine G.aV b1 b8 ?_;refine G.s1 (du n 67 (dC {{fU with k:=x.k,br:=x.br,cl:=x.cl,bQ:=x.bQ,cx:=s1,bj:=x.bj}with dn:=x.dn}) b8 (by rw[eC];decide) ((OC _ _))) ?_;rintro di ⟨n,bF⟩;obtain⟨ao,B,j,C,A,_⟩:=g_ bF ao af B R j K C X.symm A (an.q V);refine G.nil (cI (I.O (fun cK=>?_)));refine G.af ?_;refine aW nM (oa _ s bK _ F 2 (UInt64.ofNat (x.md).toNat) w0 _ j ao (O.mono J) f1 bu bc (by rw[c3];omega)) ?_;rintro dS dU ⟨rfl,j,cN⟩;obtain⟨ao,B,n,C,A,_⟩:=g_ cN ao f1 B M.symm n K.symm C W.symm A (an.r P);refine G.v1 (Y.cast (v2:= .int .i64 x.md) (Y.qs o hA gZ o (IntWalk.i64_in _ J)) (eI J)) ?_;refine G.aV b1 b8 ?_;refine G.s1 (du n 68 (dC {{fU with k:=x.k,br:=x.br,cl:=x.cl,bQ:=x.bQ,cx:=s1,bj:=x.bj}with dn:=x.dn,md:=x.md}) b8 (by rw[eC];decide) ((OD _ _))) ?_;rintro dk ⟨n,bG⟩;obtain⟨ao,B,j,C,A,_⟩:=g_ bG ao af B R j K C X.symm A (an.q V);refine G.nil (cK (I.O (fun cO=>?_)));refine G.af ?_;refine aW nM (oa _ s bK c F 1 (ue x.st) w0 _ j ao (O.mono J) f1 cb bc a6.2.1) ?_;rintro co dV ⟨rfl,j,bv⟩;obtain⟨B,n,C,A,_⟩:=dT bv B M.symm n K.symm C W.symm A (an.r P);refine G.aj ?_;refine cO (I.O (fun cQ=>?_));refine G.av 2 ?_;refine G.aV kA ie ?_;refine G.af ?_;refine G.v1 ((fK).gW (J)) ?_;refine aW k3 (lj _ 16 w0 _) ?_;rintro dX dY ⟨rfl,cV⟩;obtain⟨B,j,n,C,A,_⟩:=dH cV B j n C A;refine G.nil (cQ (I.O (fun cW=>?_)));refine G.af ?_;refine G.v1 (Y.cast (v2:= .bool x.st) cC (aI Value.bool (by rw[vO,decide_eq_true_iff];exact⟨fun h=>a6.2.2.1 J,fun h=>by have:=a6.2.2.2 h;omega⟩))) ?_;refine G.aV b1 ee ?_;refine G.s1 (du n 69 (dC {x with cx:=s1}) ee (by rw[eC];decide) ((OF _ _))) ?_;rintro dm ⟨n,bH⟩;obtain⟨B,j,C,A,_⟩:=dT bH B R j K C X.symm A (an.q V);refine G.nil (cW (I.O (fun cc=>?_)));refine G.v1 (ba n.W kF dP (eC _)) ?_;refine G.s1 (et B _ (dC {x with cx:=s1}) (l3 _) dP (eC _) ((dD (eC _).symm))) ?_;rintro dp ⟨B,bJ⟩;obtain⟨j,C,A,_⟩:=dQ bJ j M C ca.symm A (an.q bm);refine G.nil (cc ?_);refine I.ret (bz .ret (.inr o) _ _ _ (lg o o B.W kF dP (eC _)) ?_);exact⟨s1,L,by rw[show mT x=x from aA Q],j,by rw[show mT x=x from aA Q];exact C,a2,A⟩
end xt
namespace AT
open gV lq e2 lu jH iN sH rh xr xt gK
theorem L0(m:bY)(z:dv):er (dL m) 33 (b9 z)=dL {m with w:=z}:=by
 unfold er;rw[bI,CZ,show(dL m).take 33=aN m.n::b9 m.T from aI (fun l=>aN m.n::l) (kP (bI _))];simp only[dL,kO,dA]
theorem L1(m:bY)(s:List UInt8):(dL m).set 65 (aN s)=dL {m with y:=s}:=by
 show aN m.n::((b9 m.T++(b9 m.w++[aN m.y])).set 64 (aN s))=_;rw[mJ _ _ (by rw[bI];omega),mJ _ _ (by rw[bI,bI];omega),bI,bI];rfl
theorem zl(k:dv)(v s:aO)(d d2:List UInt8):(cb ⟨k,v,d⟩).set 32 s.v=cb ⟨k,s,d2⟩:=by
 show(b9 k++[v.v]).set 32 s.v=_;rw[mJ _ _ (by rw[bI];omega),bI];rfl
theorem O6(t:bS)(q:dj):er (dM t) 4 (dC q)=dM {t with q:=q}:=by
 unfold er;rw[eC,C2];simp only[dM,pG,ni,kO,hq]
theorem Kh(t:bS):(k6 t).toNat≤3∧(k6 t).toNat<2^(8*1):=by
 unfold k6;cases t.bz<;>cases t.ag<;>decide
theorem Kf(t:bS):decide (((k6 t&&&1).toNat:Int)≠0)=t.bz:=by
 unfold k6;cases t.bz<;>cases t.ag<;>decide
theorem Kg(t:bS):decide (((k6 t&&&2).toNat:Int)≠0)=t.ag:=by
 unfold k6;cases t.bz<;>cases t.ag<;>decide
def ns(t:bS):List UInt8:=ck 2 (UInt64.ofNat t.el.length)++(t.el.flatMap iV++[])
def fQ(t:bS):List UInt8:=(if t.ag=true then kz t.q else[])++ns t
def fh(t:bS):List UInt8:=ck 2 (UInt64.ofNat t.ml.length)++(t.ml.flatMap iX++fQ t)
def eM(t:bS):List UInt8:=(if t.bz=true then f_ 1 t.ah else[])++fh t
theorem CL(t:bS):cK t=ck 1 (k6 t)++eM t:=by unfold cK eM fh fQ ns;simp only[dA,hi]
theorem M6{t:bS}(h:t.bz=true):eM t=f_ 1 t.ah++fh t:=by unfold eM;rw[aM h]
theorem M5{t:bS}(h:¬t.bz=true):eM t=fh t:=by unfold eM;rw[aA h];rfl
theorem M8{t:bS}(h:t.ag=true):fQ t=kz t.q++ns t:=by unfold fQ;rw[aM h]
theorem M7{t:bS}(h:¬t.ag=true):fQ t=ns t:=by unfold fQ;rw[aA h];rfl
theorem Me{t:bS}(h:t.bz=true):(eZ t).ah=t.ah:=aM h
theorem Md{t:bS}(h:¬t.bz=true):(eZ t).ah=[]:=aA h
theorem EA{t:bS}(h:t.ag=true):(eZ t).q=mT t.q:=aM h
theorem Ez{t:bS}(h:¬t.ag=true):(eZ t).q=fU:=aA h
theorem MS(s:aO)(x:bS)(F:Nat→Prop)(w0:World)(N:Heap)
 (ao:Rd F N bd 1 s.v (cK x))(V:bp F N.size)(aX:nA x):
 aE Tryz.prog w0 36 #[s.v] N (fun r L=>∃s1:aO,∃s2:aO,∃aH:aO,∃U:List bU,∃aQ:Nat→Prop,r= .tuple #[fo {eZ x with dI:=s1,q:={(eZ x).q with cx:=s2},cG:=aH,el:=U},.int .i64 0]∧(∀u:Unit,gk aQ L {eZ x with dI:=s1,q:={(eZ x).q with cx:=s2},cG:=aH,el:=U})∧bp aQ L.size∧(∀b,aQ b→N.size≤b)∧U.map (fun x=>(x.k,x.d))=x.el.map (fun x=>(x.k,x.d))∧al N L):=by
 refine aE.enter (args:=[s.v]) Tryz.func36 o o o ?_;intro gn ga;have B:al N N:=aa.refl _ _;have hk:=aX.ml;have ab:=aX.el;have fV:=Kh x;have fX:(UInt64.ofNat x.ml.length).toNat=x.ml.length:=lK J;have fZ:(UInt64.ofNat x.el.length).toNat=x.el.length:=lK J;have cz:ck 1 (k6 x)++eM x<:+cK x:=by rw[CL];exact List.suffix_refl _
 obtain⟨_,_,_,bb⟩:=jh cz;refine I.O (fun h9=>?_);refine G.aU (Z.a7 q9) ?_;rintro v2 L ⟨rfl,C,bR,_⟩;have fE:=ae.new B.size;obtain⟨ao,B,_⟩:=bO bR ao B;refine G.aj ?_;refine h9 (I.O (fun fF=>?_));refine G.af ?_;refine G.v1 (Y.build (v:= .agg #[s.v,.int .i64 0,.int .i64 0]) o o fy) ?_;refine G.v1 (Y.build (v:= .agg #[s.v,.int .i64 0,.int .i64 0]) o o fy) ?_;refine G.aU Z.bv ?_;rintro gF cA ⟨rfl,j,dV,_⟩;have Q:=ax.new (V.mono B.size);have aK:=ak.new C.lt;have aD:=ae.new B.size;obtain⟨ao,C,B,_⟩:=cf dV ao C B;have j:Var 215 cA L.size ([s.v,.int .i64 0,.int .i64 0]):=j;refine G.aj ?_;refine fF (I.O (fun fG=>?_));have j:Var 215 cA L.size [s.v,.int .i64 ((dh (cK x) (ck 1 (k6 x)++eM x):Nat):Int),.int .i64 0]:=Gp j (by rw[←CL,show dh (cK x) (cK x)=0 from vE _];rfl);refine G.af ?_;refine aW nM (oa _ s (cK x) (eM x) F 1 (k6 x) w0 _ j ao (V.mono J) Q cz bc fV.2) ?_;rintro gG gH ⟨rfl,j,dY⟩;obtain⟨ao,C,B,_⟩:=dQ dY ao Q C aK B aD;refine G.aj ?_;refine fG (I.O (fun fH=>?_));refine G.av 2 ?_;refine G.aV kA ie ?_;refine G.af ?_;refine G.v1 ((fK).gW (J)) ?_;refine aW k3 (lj _ 16 w0 _) ?_;rintro gJ R ⟨rfl,d_⟩;obtain⟨ao,C,j,B,_⟩:=ed d_ ao C j B;refine G.nil (fH (I.O (fun fI=>?_)));refine G.af ?_;refine G.v1 (Y.xJ (b:=(UInt64.ofNat 1)) o o o) ?_;refine G.v1 (Y.cast (v2:= .bool x.bz) dX (aI Value.bool (Kf x))) ?_;refine G.af ?_;refine G.v1 (Y.xJ (b:=(UInt64.ofNat 2)) o o o) ?_;refine G.v1 (Y.cast (v2:= .bool x.ag) dX (aI Value.bool (Kg x))) ?_;refine G.v1 (Y.build (v:=fo {lU with bz:=x.bz,ag:=x.ag}) rfl rfl fy) ?_;refine G.aU (Z.a7 q9) ?_;rintro v6 gl ⟨rfl,n,dl,_⟩;have bf:=ax.new (V.mono B.size);have bi:=ak.new C.lt;have ap:=ak.new j.lt;have bg:=ae.new B.size;obtain⟨ao,C,j,B,_⟩:=ed dl ao C j B;refine G.s1 (et n _ (dM {lU with bz:=x.bz,ag:=x.ag}) (pz _) gh (eu _) ((dD (eu _).symm))) ?_;rintro a6 ⟨n,aC⟩;obtain⟨ao,C,j,B,_⟩:=dT aC ao bf C bi j ap B bg;refine G.nil (fI ?_)
 refine I.cut (fun(_:Unit)=>[(2,.pointer (some ⟨N.size,0,none⟩)),(4,.pointer (some ⟨L.size,0,none⟩)),(6,.pointer (some ⟨R.size,0,none⟩))])
  (fun(_:Unit) (H:Heap)=>(Var 215 H L.size [s.v,.int .i64 ((dh (cK x) (fh x):Nat):Int),.int .i64 0])∧Var 32 H R.size (dM {lU with bz:=x.bz,ag:=x.ag,ah:=(eZ x).ah})∧(fh x<:+cK x)∧aa (ay [(L.size+1),(R.size+1)]) a6 H) (fun _ cB _=>?_) ?_
 ·
  have aZ:aa (ay [(L.size+1),(R.size+1)]) a6 a6:=aa.refl _ _;have de:=ae.refl (L.size+1) a6.size;have df:=ae.refl (R.size+1) a6.size;refine I.O (fun cJ=>?_);refine G.a6 n.W bP ee fc ?_;refine G.nil (cJ ?_);refine dm (fun aG=>?_) (fun aG=>?_)
  ·
   have aG:x.bz=true:=aG;rw[M6 aG]at j bb;obtain⟨_,_,_,bR⟩:=jh bb;refine I.region ?_;refine G.af ?_;refine aW sX (tW _ s (cK x) (fh x) F 1 x.ah w0 _ j ao (V.mono J) Q bb bc (by have:=aX.ah aG;omega)) ?_;rintro gK gL ⟨rfl,j,ec⟩;obtain⟨n,aZ,_⟩:=dW ec n ap.symm aZ (an.r de);refine G.aV bP b3 ?_;refine G.s1 (du n 1 (dM {lU with bz:=x.bz,ag:=x.ag,ah:=(eZ x).ah}) b3 (by rw[eu];decide) ((by rw[Me aG];rfl))) ?_;rintro dn ⟨n,er⟩;obtain⟨j,aZ,_⟩:=dW er j ap aZ (an.r df);refine G.nil ?_;refine aT.sub (cB () _ ?_) ⟨o,o,o,trivial⟩;exact⟨j,n,bR,aZ⟩
  ·
   have aG:x.bz=false:=aG;rw[M5 (by simp[aG])]at j bb;refine I.skip ?_;refine aT.sub (cB () _ ?_) ⟨o,o,o,trivial⟩;exact⟨j,(by rw[Md (by simp[aG])];exact n),bb,aZ⟩
 ·
  intro _ gp cW;obtain⟨j,n,cO,bC⟩:=cW;have ao:=ao.aJ bC (aS.cons Q (aS.T bf));have C:=C.aJ bC (au.cons aK (au.T bi));have B:=B.gn bC (ar.cons (an.q aD) (ar.T (an.q bg)));have gM:=bC.size;refine I.t1 (fun fJ=>I.O (fun fL=>?_));refine G.af ?_;refine aW nM (oa _ s (cK x) (x.ml.flatMap iX++fQ x) F 2 (UInt64.ofNat x.ml.length) w0 _ j ao (V.mono J) Q cO bc (by rw[fX];omega)) ?_;rintro gN bD ⟨rfl,j,ef⟩;obtain⟨ao,C,n,B,_⟩:=dT ef ao Q C aK n ap.symm B aD;obtain⟨_,_,_,gf⟩:=jh (show ck 2 (UInt64.ofNat x.ml.length)++(x.ml.flatMap iX++fQ x)<:+cK x from cO);refine G.aj ?_;refine fL (I.aC (fun _ eg _=>?_))
  refine I.bb (fun(bm:Nat×aO×Nat)=>match bm with|(i,s1,aL)=>[(2,.pointer (some ⟨N.size,0,none⟩)),(4,.pointer (some ⟨L.size,0,none⟩)),(6,.pointer (some ⟨R.size,0,none⟩)),(7,.int .u64 (UInt64.ofNat (x.ml.length-i)).toNat)])
   (fun(i,s1,aL) (H:Heap)=>(i≤x.ml.length)∧Var 215 H L.size [s.v,.int .i64 ((dh (cK x) ((x.ml.drop i).flatMap iX++fQ x):Nat):Int),.int .i64 0]∧Var 32 H R.size (dM {lU with bz:=x.bz,ag:=x.ag,ah:=(eZ x).ah,dI:=s1,ml:=x.ml.take i})∧aY aL 52 H dL 66 s1.v (x.ml.take i)∧((x.ml.drop i).flatMap iX++fQ x<:+cK x)∧ae 0 bD.size aL∧ak (L.size+1) aL∧ak (R.size+1) aL∧aa (ay [(L.size+1),(R.size+1)]) bD H)
   (fun(i,s1,aL)=>x.ml.length-i) (0,dN,0) ⟨o,o,o,o,trivial⟩ ?_ ?_
  ·
   exact⟨J,j,n,(aY.nil fq l2),gf,ae.refl _ _,ak.z,ak.z,aa.refl _ _⟩
  rintro⟨i,s1,aL⟩ cD hg gO eh ei;obtain⟨fW,j,n,A,X,bM,cX,cY,E⟩:=hg;have ej:=ak.app ak.z C.lt bM;have ek:=ae.O (ae.refl 0 _) bM B.size;have ao:=ao.aJ E (aS.cons Q (aS.T bf));have C:=C.aJ E (au.cons aK (au.T bi));have B:=B.gn E (ar.cons (an.q aD) (ar.T (an.q bg)));have ds:=E.size;have c8:=A.le;have aB:=cX;have bn:=cY;have ad:=ae.refl (L.size+1) bD.size;have dg:=ae.refl (R.size+1) bD.size;have cg:=bM;have f_:(UInt64.ofNat (x.ml.length-i)).toNat=x.ml.length-i:=lK J;refine I.t2 (fun dj dk=>I.O (fun dp=>?_));refine G.af ?_;refine G.v1 (Y.cast (v2:= .bool (decide (i<x.ml.length))) fA (aI Value.bool (decide_eq_decide.2 J))) ?_;refine G.af ?_;refine G.join (d:=46) (v:= .bool (decide (i<x.ml.length))) 7 (fun bZ=>?_) ?_
  ·
   refine G.bL (d:=39) o (fun bj=>?_) (fun bj=>?_)
   ·
    refine G.b4 ?_;refine G.aG kX ?_;refine G.hl kA ie ?_;refine G.wl j.W iH o1 oC ?_;refine G.aG ((cC).gW o) ?_;refine G.W ?_;exact bZ _ (aI (fun b=>some (Value.bool b)) (by simp[bj])) (ai (ai (ai (ai (ai (ai (ai (b_ (aI Value.bool (cT bj).symm)))))))))
   ·
    refine G.av 7 ?_;exact bZ _ (aI (fun b=>some (Value.bool b)) (by simp[bj])) (ai (ai (ai (ai (ai (ai (ai (b_ (aI Value.bool (cL bj).symm)))))))))
  refine G.nil (dp ?_);refine a8 (fun cH=>?_) (fun cH=>?_)
  ·
   have aV:i<x.ml.length:=cH;obtain⟨y,aU⟩:∃q,q=x.ml[i]:=⟨_,o⟩;have bX:y∈x.ml:=by rw[aU];exact cU aV
   have ho:=aX.kT y bX;rw[yt aV,←aU,LZ]at j X;obtain⟨_,_,_,bl⟩:=jh X;obtain⟨_,_,_,cI⟩:=jh bl;obtain⟨_,_,_,cN⟩:=jh cI;obtain⟨_,_,_,bY⟩:=jh cN;refine I.skip (dj (I.t1 (fun dq=>I.aC (fun dx _ _=>I.O (fun dy=>?_)))));refine G.af ?_;refine aW sX (tW _ s (cK x) _ F 1 y.n w0 _ j ao (V.mono J) Q X bc J) ?_;rintro gP gQ ⟨rfl,j,dz⟩;obtain⟨ao,n,A,B,E,_⟩:=g_ dz ao Q n ap.symm A aB.symm B aD E (an.r ad);refine G.v1 (Y.build (v:=mf ⟨y.n,bJ,bJ,[]⟩) o o fy) ?_;refine G.aU (Z.a7 o8) ?_;rintro hp gm ⟨rfl,W,fM,_⟩;have bL:=ax.new (V.mono B.size);have aR:=ak.new j.lt;have bq:=ak.new n.lt;have bt:=ak.new A.le;have bu:=ae.new E.size;obtain⟨ao,j,n,A,E,_⟩:=dH fM ao j n A E;refine G.s1 (et W _ (dL ⟨y.n,bJ,bJ,[]⟩) (l2 _) eS (fq _) ((dD (fq _).symm))) ?_;rintro gz ⟨W,a0⟩;obtain⟨ao,j,n,A,E,_⟩:=g_ a0 ao bL j aR n bq A bt E (an.q bu);refine G.nil (dy (I.O (fun dB=>?_)));refine G.af ?_;refine aW rB (su _ s (cK x) _ F y.T w0 _ j ao (V.mono J) Q bl) ?_;rintro gR gS ⟨rfl,j,dC⟩;obtain⟨ao,n,A,W,E,_⟩:=g_ dC ao Q n ap.symm A aB.symm W aR.symm E (an.r ad);refine G.aV dc bx ?_;refine G.s1 (S.var W _ (dL ⟨y.n,y.T,bJ,[]⟩) o o o o (ke _) bx (bI _) (by rw[fq];exact iS o) ((Et _ _).symm)) ?_;rintro gA ⟨W,bB⟩;obtain⟨ao,j,n,A,E,_⟩:=g_ bB ao bL j aR n bq A bt E (an.q bu);refine G.nil (dB (I.O (fun dF=>?_)));refine G.af ?_;refine aW rB (su _ s (cK x) _ F y.w w0 _ j ao (V.mono J) Q cI) ?_;rintro gT gV ⟨rfl,j,eo⟩;obtain⟨ao,n,A,W,E,_⟩:=g_ eo ao Q n ap.symm A aB.symm W aR.symm E (an.r ad);refine G.aV dc bx ?_;refine G.s1 (S.var W _ (dL ⟨y.n,y.T,y.w,[]⟩) o o o o (ke _) bx (bI _) (by rw[fq];exact iS o) ((L0 _ _))) ?_;rintro gu ⟨W,a2⟩;obtain⟨ao,j,n,A,E,_⟩:=g_ a2 ao bL j aR n bq A bt E (an.q bu);refine G.nil (dF (I.O (fun e4=>?_)));refine G.af ?_;refine aW sX (tW _ s (cK x) ((x.ml.drop (i+1)).flatMap iX++fQ x) F 2 y.y w0 _ j ao (V.mono J) Q cN bc J) ?_;rintro gW gX ⟨rfl,j,e6⟩;obtain⟨n,A,W,E,_⟩:=dT e6 n ap.symm A aB.symm W aR.symm E (an.r ad);refine G.aV dc b3 ?_;refine G.s1 (du W 65 (dL y) b3 (by rw[fq];decide) ((L1 _ _))) ?_;rintro gv ⟨W,a3⟩;obtain⟨j,n,A,E,_⟩:=dT a3 j aR n bq A bt E (an.q bu);refine G.nil (e4 (I.region ?_));refine G.a6 n.W bP fz gd ?_;refine G.v1 (ba W.W kG eS (fq _)) ?_;refine G.aU (Z.c2 (dE _ ([y]) tc fq l2)) ?_;rintro gY gZ ⟨gi,e7,_⟩;obtain⟨j,n,A,E,_⟩:=ed e7 j n A E;refine G.aU (eO A gi.rd tc (by simp only[eJ,iU];omega) (by simp only[eJ,iU];omega)) ?_;rintro ct hb ⟨fN,A,a4,a5⟩;have a5:=a5.md;have e8:=ak.app aB j.lt a4;have ch:=ak.app bn n.lt a4;have ce:=ae.O cg a4 E.size;obtain⟨j,n,E,_⟩:=dQ a5 j aB n bn E (an.q cg);have c8:=A.le;rw[F2 aV aU]at A;obtain⟨eK,rfl⟩:∃s:aO,ct=s.v:=⟨cF ct,A.bA.symm⟩;refine G.aV bP fz ?_;refine G.s1 (du n 2 (dM {lU with bz:=x.bz,ag:=x.ag,ah:=(eZ x).ah,dI:=eK,ml:=x.ml.take (i+1)}) fz (by rw[eu];decide) ((Ge _ _))) ?_;rintro gw ⟨n,cQ⟩;obtain⟨j,A,E,_⟩:=dQ cQ j ap A ch.symm E (an.r dg);refine G.nil (dx (dq (I.region ?_)));refine G.af ?_;refine G.v1 (Y.cast (v2:= .int .u64 (UInt64.ofNat (x.ml.length-(i+1))).toNat) (Y.wX (b:=(UInt64.ofNat 1)) o o o) (by rw[zx J J];rfl)) ?_;refine G.aj ?_;refine aT.sub (eh (i+1,eK,fN) _ ?_ ?_) ⟨o,o,o,(aF J),trivial⟩
   ·exact⟨J,j,n,A,bY,ce,e8,ch,E⟩
   ·first|omega|(simp only;omega)|(simp;omega)
  ·
   obtain rfl:i=x.ml.length:=by omega
   rw[yr]at j X;rw[eD]at n A;refine I.exit (dk (ei (eg ?_)));refine fJ ?_
   refine I.cut (fun(bm:aO×Nat)=>match bm with|(s2,a_)=>[(2,.pointer (some ⟨N.size,0,none⟩)),(4,.pointer (some ⟨L.size,0,none⟩)),(6,.pointer (some ⟨R.size,0,none⟩))])
    (fun(s2,a_) (H:Heap)=>(Var 215 H L.size [s.v,.int .i64 ((dh (cK x) (ns x):Nat):Int),.int .i64 0])∧Var 32 H R.size (dM {lU with bz:=x.bz,ag:=x.ag,ah:=(eZ x).ah,dI:=s1,ml:=x.ml,q:={(eZ x).q with cx:=s2},cG:=dN,el:=[]})∧aY a_ 129 H en 33 s2.v (eZ x).q.bj∧(ns x<:+cK x)∧ae 0 cD.size a_∧ak (L.size+1) a_∧ak (R.size+1) a_∧aa (ay [(L.size+1),(R.size+1)]) cD H) (fun _ cl _=>?_) ?_
   ·
    have aP:aa (ay [(L.size+1),(R.size+1)]) cD cD:=aa.refl _ _;have am:=ae.refl (L.size+1) cD.size;have da:=ae.refl (R.size+1) cD.size;refine I.O (fun e9=>?_);refine G.a6 n.W bP ee fc ?_;refine G.nil (e9 ?_);refine dm (fun af=>?_) (fun af=>?_)
    ·
     have af:x.ag=true:=af;rw[M8 af]at j X;obtain⟨_,_,_,fO⟩:=jh X;refine I.region ?_;refine G.af ?_;refine aW IW (NO _ s (cK x) (ns x) F x.q w0 _ j ao (V.mono J) Q X (aX.kg af) (aX.jN af)) (fun d0 d1 fR=>?_);have e_:=j.lt;have eF:=n.lt;obtain⟨cv,fS,rfl,j,O,bH,ci⟩:=fR;have fa:=ak.app ak.z e_ bH;have cm:=ak.app ak.z eF bH;have fe:=ae.O (ae.refl 0 _) bH aP.size;obtain⟨n,aP,_⟩:=dW ci n ap.symm aP (an.r am);have cV:=O.le;refine G.aV bP dP ?_;refine G.s1 (S.var n _ (dM {lU with bz:=x.bz,ag:=x.ag,ah:=(eZ x).ah,dI:=s1,ml:=x.ml,q:={(mT x.q)with cx:=cv}}) rfl rfl rfl rfl (l3 _) dP (eC _) (by rw[eu];exact iS o) ((O6 _ _))) ?_;rintro gx ⟨n,a9⟩;obtain⟨j,O,aP,_⟩:=dQ a9 j ap O cm.symm aP (an.r da);refine G.nil ?_;refine aT.sub (cl (cv,fS) _ ?_) ⟨o,o,o,trivial⟩;exact⟨j,(by rw[EA af];exact n),(by rw[EA af];exact O),fO,fe,fa,cm,aP⟩
    ·
     have af:x.ag=false:=af;rw[M7 (by simp[af])]at j X;refine I.skip ?_;refine aT.sub (cl (dN,0) _ ?_) ⟨o,o,o,trivial⟩;exact⟨j,(by rw[Ez (by simp[af])];exact n),(by rw[Ez (by simp[af])];exact aY.nil jB nb),X,(.inl o),ak.z,ak.z,aP⟩
   ·
    rintro⟨s2,a_⟩ gq cZ;obtain⟨j,n,O,cP,b1,c2,c3,ac⟩:=cZ;have dG:=ak.app ak.z C.lt b1;have ff:=ae.O (ae.refl 0 _) b1 B.size;have ao:=ao.aJ ac (aS.cons Q (aS.T bf));have C:=C.aJ ac (au.cons aK (au.T bi));have A:=A.aJ ac (au.cons aB.symm (au.T bn.symm));have B:=B.gn ac (ar.cons (an.q aD) (ar.T (an.q bg)));have hh:=ac.size;have cV:=O.le;have bw:=c2;have fg:=c3;refine I.t1 (fun co=>I.O (fun fi=>?_));refine G.af ?_;refine aW nM (oa _ s (cK x) (x.el.flatMap iV++[]) F 2 (UInt64.ofNat x.el.length) w0 _ j ao (V.mono J) Q cP bc (by rw[fZ];omega)) ?_;rintro d2 bE ⟨rfl,j,fj⟩;obtain⟨ao,C,A,n,O,B,_⟩:=mn fj ao Q C aK A aB.symm n ap.symm O bw.symm B aD;obtain⟨_,_,_,gb⟩:=jh (show ck 2 (UInt64.ofNat x.el.length)++(x.el.flatMap iV++[])<:+cK x from cP);refine G.aj ?_;refine fi (I.aC (fun _ fk _=>?_))
    refine I.bb (fun(bm:Nat×aO×Nat×(List bU)×(Nat→Prop))=>match bm with|(i,aH,aN,U,aQ)=>[(2,.pointer (some ⟨N.size,0,none⟩)),(4,.pointer (some ⟨L.size,0,none⟩)),(6,.pointer (some ⟨R.size,0,none⟩)),(9,.int .u64 (UInt64.ofNat (x.el.length-i)).toNat)])
     (fun(i,aH,aN,U,aQ) (H:Heap)=>(i≤x.el.length)∧Var 215 H L.size [s.v,.int .i64 ((dh (cK x) ((x.el.drop i).flatMap iV++[]):Nat):Int),.int .i64 0]∧Var 32 H R.size (dM {lU with bz:=x.bz,ag:=x.ag,ah:=(eZ x).ah,dI:=s1,ml:=x.ml,q:={(eZ x).q with cx:=s2},cG:=aH,el:=U})∧aY aN 68 H cb 33 aH.v U∧(∀y∈U,Rd aQ H bd 1 y.v.v y.d)∧bp aQ H.size∧ax aQ aN∧ax aQ (N.size+1)∧ax aQ (L.size+1)∧ax aQ (R.size+1)∧ax aQ aL∧ax aQ a_∧(∀b,aQ b→N.size≤b)∧U.map (fun x=>(x.k,x.d))=(x.el.take i).map (fun x=>(x.k,x.d))∧((x.el.drop i).flatMap iV++[]<:+cK x)∧ae 0 bE.size aN∧ak (L.size+1) aN∧ak (R.size+1) aN∧aa (ay [(L.size+1),(R.size+1)]) bE H)
     (fun(i,aH,aN,U,aQ)=>x.el.length-i) (0,dN,0,[],fun _=>False) ⟨o,o,o,o,trivial⟩ ?_ ?_
    ·
     exact⟨J,j,n,(aY.nil eb iQ),(fun x h=>by cases h),(fun b e=>e.elim),(fun b e=>e.elim),(fun b e=>e.elim),(fun b e=>e.elim),(fun b e=>e.elim),(fun b e=>e.elim),(fun b e=>e.elim),(fun b e=>e.elim),rfl,gb,ae.refl _ _,ak.z,ak.z,aa.refl _ _⟩
    rintro⟨i,aH,aN,U,aQ⟩ d3 fT d4 cs fm;obtain⟨fW,j,n,K,P,az,f1,f2,f3,f4,f5,f6,b6,bG,X,bN,c4,c6,M⟩:=fT;have bQ:=ak.app ak.z C.lt bN;have fl:=ae.O (ae.refl 0 _) bN B.size;have ao:=ao.aJ M (aS.cons Q (aS.T bf));have C:=C.aJ M (au.cons aK (au.T bi));have A:=A.aJ M (au.cons aB.symm (au.T bn.symm));have O:=O.aJ M (au.cons bw.symm (au.T fg.symm));have B:=B.gn M (ar.cons (an.q aD) (ar.T (an.q bg)));have gC:=M.size;have c9:=K.le;have bA:=c4;have br:=c6;have b7:=ae.refl (L.size+1) bE.size;have di:=ae.refl (R.size+1) bE.size;have bK:=bN;have f_:(UInt64.ofNat (x.el.length-i)).toNat=x.el.length-i:=lK J;have hl:U.length=i:=by have fU:=aI List.length bG;simp at fU;omega
    refine I.t2 (fun fp fr=>I.O (fun ft=>?_));refine G.af ?_;refine G.v1 (Y.cast (v2:= .bool (decide (i<x.el.length))) fA (aI Value.bool (decide_eq_decide.2 J))) ?_;refine G.af ?_;refine G.join (d:=83) (v:= .bool (decide (i<x.el.length))) 7 (fun b0=>?_) ?_
    ·
     refine G.bL (d:=76) o (fun bk=>?_) (fun bk=>?_)
     ·
      refine G.b4 ?_;refine G.aG kX ?_;refine G.hl kA ie ?_;refine G.wl j.W iH o1 oC ?_;refine G.aG ((cC).gW o) ?_;refine G.W ?_;exact b0 _ (aI (fun b=>some (Value.bool b)) (by simp[bk])) (ai (ai (ai (ai (ai (ai (ai (b_ (aI Value.bool (cT bk).symm)))))))))
     ·
      refine G.av 7 ?_;exact b0 _ (aI (fun b=>some (Value.bool b)) (by simp[bk])) (ai (ai (ai (ai (ai (ai (ai (b_ (aI Value.bool (cL bk).symm)))))))))
    refine G.nil (ft ?_);refine a8 (fun c5=>?_) (fun c5=>?_)
    ·
     have aV:i<x.el.length:=c5;obtain⟨y,aU⟩:∃q,q=x.el[i]:=⟨_,o⟩;have bX:y∈x.el:=by rw[aU];exact cU aV
     have hn:=aX.md y bX;rw[yt aV,←aU,LM]at j X;obtain⟨_,_,_,bl⟩:=jh X;obtain⟨_,_,_,bY⟩:=jh bl;refine I.skip (fp (I.t1 (fun fw=>I.aC (fun ev _ _=>I.O (fun ew=>?_)))));refine G.af ?_;refine aW rB (su _ s (cK x) _ F y.k w0 _ j ao (V.mono J) Q X) ?_;rintro d5 fx ⟨rfl,j,cn⟩;obtain⟨ao,C,A,O,n,K,P,B,_⟩:=jG cn ao Q C aK A aB.symm O bw.symm n ap.symm K bA.symm P f3 B aD;obtain⟨M,_⟩:=c0 cn M (an.r b7);refine G.v1 (Y.build (v:= .agg (cb ⟨y.k,dN,[]⟩).toArray) o o (by intro w;exact HB _ _)) ?_;refine G.aU (Z.a7 oo) ?_;rintro d6 d7 ⟨rfl,aJ,cp,_⟩;have ey:=ax.new (V.mono B.size);have ez:=ak.new C.lt;have eA:=ak.new A.le;have eB:=ak.new O.le;have bT:=ak.new j.lt;have cq:=ak.new n.lt;have cr:=ak.new K.le;have b8:=(ax.new (az.mono J):ax _ (fx.size+1));have eE:=ae.new B.size;have b9:=ae.new M.size;obtain⟨ao,C,A,O,j,n,K,P,_⟩:=fP cp ao C A O j n K P;obtain⟨B,M,_⟩:=bO cp B M;refine G.s1 (et aJ _ (cb ⟨y.k,dN,[]⟩) (iQ _) db (eb _) ((dD (eb _).symm))) ?_;rintro gy ⟨aJ,b4⟩;obtain⟨ao,C,A,O,j,n,K,P,_⟩:=jG b4 ao ey C ez A eA O eB j bT n cq K cr P b8;obtain⟨B,M,_⟩:=dW b4 B eE M (an.q b9);refine G.nil (ew (I.O (fun eG=>?_)));refine G.af ?_;refine aW sX (tW _ s (cK x) ((x.el.drop (i+1)).flatMap iV++[]) F 4 y.d w0 _ j ao (V.mono J) Q bl bc J) ?_;rintro d8 fB ⟨rfl,j,ca⟩;obtain⟨C,A,O,n,K,P,aJ,B,_⟩:=jG ca C aK A aB.symm O bw.symm n ap.symm K bA.symm P f3 aJ bT.symm B aD;obtain⟨M,_⟩:=c0 ca M (an.r b7);refine G.aU (Z.Af o Tryz.underlying9 Tryz.underlying57 Tryz.underlying5 o J) ?_;rintro cy d9 ⟨av,eI,gB⟩;have eQ:=ak.new C.lt;have eR:=ak.new A.le;have eT:=ak.new O.le;have eU:=ak.new j.lt;have cc:=ak.new n.lt;have cd:=ak.new K.le;have eV:=ak.new aJ.lt;have eW:=ae.new B.size;obtain⟨j,n,K,P,aJ,M,_⟩:=fY eI j n K P aJ M;obtain⟨bF,rfl⟩:∃s:aO,cy=s.v:=⟨cF cy,av.bA.symm⟩;refine G.aV gU dt ?_;refine G.s1 (du aJ 32 (cb (⟨y.k,bF,y.d⟩:bU)) dt (by rw[eb];decide) ((zl _ _ _ _ _))) ?_;rintro hd ⟨aJ,ep⟩;obtain⟨j,n,K,P,av,M,_⟩:=mn ep j bT n cq K cr P b8 av eV.symm M (an.q b9);refine G.nil (eG (I.region ?_));refine G.aX n.W.ig bP eN fD ?_;refine G.v1 (ba aJ.W kH db (eb _)) ?_;refine G.aU (Z.c2 (dE _ ([(⟨y.k,bF,y.d⟩:bU)]) k7 eb iQ)) ?_;rintro hc hi ⟨gj,eY,_⟩;obtain⟨j,n,K,P,av,M,_⟩:=fY eY j n K P av M;refine G.aU (eO K gj.rd k7 b2 b2) ?_;rintro bo hj ⟨fC,K,a7,bV⟩;have bV:=bV.md;have dJ:=ak.app bA j.lt a7;have b5:=ak.app br n.lt a7;have dK:=ax.app f1 (az.mono J) a7;have dR:=ak.app cd.symm av.le a7;have dS:=ae.O bK a7 M.size;obtain⟨j,n,P,av,M,_⟩:=g_ bV j bA n br P f1 av cd.symm M (an.q bK);have c9:=K.le;obtain⟨eH,rfl⟩:∃s:aO,bo=s.v:=⟨cF bo,K.bA.symm⟩;refine G.aV bP eN ?_;refine G.s1 (du n 74 (dM {lU with bz:=x.bz,ag:=x.ag,ah:=(eZ x).ah,dI:=s1,ml:=x.ml,q:={(eZ x).q with cx:=s2},cG:=eH,el:=(U++[(⟨y.k,bF,y.d⟩:bU)])}) eN (by rw[eu];decide) ((Gd _ _))) ?_;rintro dd ⟨n,cR⟩;obtain⟨j,K,P,av,M,_⟩:=g_ cR j ap K b5.symm P f4 av cc.symm M (an.r di);refine G.nil (ev (fw (I.region ?_)));refine G.af ?_;refine G.v1 (Y.cast (v2:= .int .u64 (UInt64.ofNat (x.el.length-(i+1))).toNat) (Y.wX (b:=(UInt64.ofNat 1)) o o o) (by rw[zx J J];rfl)) ?_;refine G.aj ?_;refine aT.sub (cs (i+1,eH,fC,U++[(⟨y.k,bF,y.d⟩:bU)],fun b=>aQ b∨b+1=(fB.size+1)) _ ?_ ?_) ⟨o,o,o,(aF J),trivial⟩
     ·exact⟨J,j,n,K,wQ P (fun b e=> .inl e) (av.rd.imp (fun b _ e=> .inr e)),bp.e8 (az.mono J) av.le,ax.e8 dK dR.symm,ax.e8 f2 eQ,ax.e8 f3 eU,ax.e8 f4 cc,ax.e8 f5 eR,ax.e8 f6 eT,oD b6 eW,by rw[gg,bG,eP aV,gg,←aU];rfl,bY,dS,dJ,b5,M⟩
     ·first|omega|(simp only;omega)|(simp;omega)
    ·
     obtain rfl:i=x.el.length:=by omega
     rw[yr]at j X;rw[eD]at bG;refine I.exit (fr (fm (fk ?_)));refine co (I.O (fun e0=>?_));refine G.af ?_;refine aW IX (Ny _ s (cK x) w0 _ j ao.any) ?_;rintro gD gE ⟨rfl,dU⟩;obtain⟨C,A,O,j,n,K,P,B,_⟩:=fP dU C A O j n K P B;refine G.nil (e0 (I.t1 (fun e1=>I.O (fun e2=>?_))));refine G.av 2 ?_;refine G.aV kA ie ?_;refine G.a6 j.W iH o1 oC ?_;refine G.v1 ((dX).gE ((fun h=>h o))) (G.nil (e2 ?_));refine dZ ?_;refine I.skip (e1 (I.O (fun e3=>?_)));refine G.v1 (ba n.W hR gh (eu _)) ?_;refine G.s1 (et C _ (dM {eZ x with dI:=s1,q:={(eZ x).q with cx:=s2},cG:=aH,el:=U}) (pz _) gh (eu _) ((dD (eu _).symm))) ?_;rintro hf ⟨C,be⟩;obtain⟨A,O,K,P,B,_⟩:=g_ be A ej.symm O dG.symm K bQ.symm P f2 B fE;refine G.aj ?_;refine e3 ?_;refine I.ret (ga .ret (.inr o) _ _ _ (zP o o C.W hR gh (eu _) o) ?_);exact⟨s1,s2,aH,U,(fun b=>aQ b∨b+1=aN∨b+1=a_∨b+1=aL),o,(fun _=>⟨A.rd.imp (fun b _ e=> .inr (.inr (.inr e))),O.rd.imp (fun b _ e=> .inr (.inr (.inl e))),K.rd.imp (fun b _ e=> .inr (.inl e)),fun y hy=>(P y hy).imp (fun b _ e=> .inl e)⟩),(fun b e=>by have bh:=A.le;have bW:=O.le;have cw:=K.le;rcases e with e|e|e|e;exact l7 (az b e) J;all_goals omega),(fun b e=>by have bh:=ek;have bW:=ff;have cw:=fl;unfold ae at bh bW cw;rcases e with e|e|e|e;exact b6 b e;all_goals omega),bG,B⟩
end AT
namespace xu
open ho jz kE mz m4 lY pg ph lZ oA xC e2 hn lu pd jH iN sH pe qc rh xo xq xt AT
theorem Jk{di:List bS}{i:Nat}{m d:d_}{t:bS}(h:kZ m (di.drop i) d)(j:i<di.length)(e:t=di[i]):eL m t=0∧kZ (m.ap t) (di.drop (i+1)) d:=by
 rw[oS j,←e]at h;exact h
theorem Jl{di:List bS}{m d:d_}(h:kZ m (di.drop di.length) d):m=d:=by
 rw[List.drop_length]at h;exact h
theorem No{l:List (aO×Rec)}{di:List bS}{i:Nat}{t:bS}(h:dp l=di.map cK)(d:i<l.length)(j:i<di.length)(e:t=di[i]):l[i].2=cK t:=by
 have ab:=aI (fun z:List Rec=>z[i]?) h;unfold dp at ab;simp only[List.getElem?_map]at ab;rw[List.getElem?_eq_getElem d,List.getElem?_eq_getElem j]at ab;rw[e];exact l6 ab
theorem wu(bC:Int)(K:List Nat)(g:cQ)(b:Nat)(D:aw)(cp:Nat)(di:List bS)(m:d_)(w0:World)(N:Heap)
 (A:bq K g N b D)(aL:fj bC N)(av:bp (fun b=>b=0) N.size)(ek:aS (fun b=>b=0) K)(cD:bw cp D)(cH:cp≤80000000)(he:(dO D eB).1=0)(cN:(dO D eB).2.1=di.map cK)(aq:kZ kB di m)(cT:∀t∈di,hB t):
 aE Tryz.prog w0 14 #[ptr b] N (fun r L=>∃Q:Nat,∃bn:Nat,∃bF:List Nat,∃g2:cQ,∃s2:dR,∃aQ:Nat→Prop,r= .tuple #[ptr Q,.int .i64 0]∧bq bF g2 L b (dO D eB).2.2∧bk K N.size bF∧Var 206 L bn [ptr b,aN eB,.int .i64 (di.length:Int),.bool false]∧ae 0 N.size (bn+1)∧au (bn+1) bF∧Var 108 L Q (ptr bn::cc s2)∧ae 0 N.size (Q+1)∧au (Q+1) bF∧ak (bn+1) (Q+1)∧(∀u:Unit,fr aQ L s2)∧bp aQ L.size∧(∀b,aQ b→N.size≤b)∧aS aQ bF∧ax aQ (bn+1)∧ax aQ (Q+1)∧s2.m=m∧aa (ay K) N L):=by
 refine aE.aP [ptr b] Tryz.func14 ?_;intro cX cO;have n:aa (ay K) N N:=aa.refl _ _;have a7:=bk.refl K N.size;have aH:=A.aC;refine I.O (fun cl=>?_);refine G.aZ 2 ?_;refine cl (I.seq (fun bF cm _=>I.region ?_));refine G.af ?_;refine aW IA (PA bC K g b D eB _ w0 _ A aL (av.mono J) ek bc cD cH he) ?_;rintro c4 x ⟨F,cn,af,aD,cr,c5,rfl,A,bG,B,bH,cC,aJ,C,az,bb,dg,cR,be,aK⟩;have ct:=bk.O a7 bG n.size;have br:=ae.O (ae.refl 0 _) bH n.size;have aL:=aL.aJ aK ek;have n:=n.bt aK (ar.cO a7 (by intro k aB;simp[aB]));have c6:=aK.size;have aH:=A.aC;have b8:=B.le;have b9:=bb;have a_:=bb;rw[cN]at aJ;have cL:af.length=di.length:=by have:=aI List.length aJ;simpa[dp]using this
 rw[cL]at B;refine G.af ?_;refine G.v1 c3 ?_;refine G.v1 c3 ?_;refine G.v1 c3 ?_;refine G.aZ 3 ?_;refine cm _ _ (I.t1 (fun bK=>I.O (fun cv=>?_)));refine G.af ?_;refine G.v1 ((dX).gE ((fun h=>h o))) (G.nil (cv ?_));refine dZ ?_;refine I.skip (bK (I.O (fun cy=>?_)));refine G.af ?_;refine G.v1 (Y.build (v:= .agg (ptr F::cc xc).toArray) o o fy) ?_;refine G.aU Z.bv ?_;rintro c8 aG ⟨rfl,d,bP,_⟩;have bd:=au.hU A.aC;have cz:=ax.new (av.mono n.size);have bg:=ak.new B.le;have bQ:=(ax.new (b9.mono J):ax _ (x.size+1));have bT:=(ax.new (a_.mono J):ax _ (x.size+1));have aX:=ae.new n.size;obtain⟨A,aL,B,C,az,n,_⟩:=fY bP A aL B C az n;have d:Var 108 aG x.size ((ptr F::cc xc)):=d;refine G.aj ?_;refine cy (I.t1 (fun cA=>I.O (fun cB=>?_)));refine G.af ?_;refine G.v1 (bu C jO) ?_;refine G.af (G.nil (cB ?_));refine I.aC (fun _ cb _=>?_)
 refine I.bb (fun(cV:Nat×dR×(Nat→Prop))=>match cV with|(i,s,aQ)=>[(7,.pointer (some ⟨x.size,0,none⟩)),(24,cn.v),(25,.int .i64 (af.length:Int)),(26,.int .i64 (i:Int))])
  (fun(i,s,aQ) (H:Heap)=>(i≤di.length)∧Var 108 H x.size (ptr F::cc s)∧(∀u:Unit,fr aQ H s)∧bp aQ H.size∧aS aQ aD∧ax aQ (F+1)∧ax aQ (x.size+1)∧(∀b,aQ b→N.size≤b)∧s.m.Ok∧kZ s.m (di.drop i) m∧aa (ay [(x.size+1)]) aG H)
  (fun(i,s,aQ)=>di.length-i) (0,xc,fun _=>False) ⟨o,o,o,o,trivial⟩ ?_ ?_
 ·
  exact⟨J,d,(fun _=>PQ),(fun b e=>e.elim),(fun k aB b e=>e.elim),(fun b e=>e.elim),(fun b e=>e.elim),(fun b e=>e.elim),sE,aq,aa.refl _ _⟩
 rintro⟨i,s,aQ⟩ c9 cd cW cf cg;obtain⟨dj,d,ag,ai,bh,bW,cw,cF,ok,bl,j⟩:=cd;obtain⟨A,aL,B,C,az,n,_⟩:=mn j A (iv bd) aL cz B bg C bQ az bT n (an.q aX);have b7:=ae.refl (x.size+1) aG.size;refine I.O (fun bU=>?_);refine G.v1 bZ (G.nil (bU ?_));refine I.t2 (fun bV bX=>?_);refine a8 (fun ch=>?_) (fun ch=>?_)
 ·
  have dm:=C.len;have bt:i<af.length:=by omega
  have hit:i<di.length:=by omega
  obtain⟨t,aV⟩:∃q,q=di[i]:=⟨_,o⟩;have aP:=Jk bl hit aV;have bm:=cT t (by rw[aV];exact cU hit);have bz:=az af[i] (cU bt);rw[No aJ bt hit aV]at bz;refine I.skip (bV (I.t1 (fun bY=>I.aC (fun b0 _ _=>I.O (fun b1=>?_)))));refine G.cn (Y.cg C i o jO dt o o) fun cZ b2=>?_;refine G.v1 (bf b2.W fe) ?_;refine G.aj ?_;refine b1 (I.O (fun b3=>?_));refine G.af ?_;refine aW IB (MS af[i].1 t _ w0 _ bz (a_.mono J) (vg (qu bm) aP.1)) ?_;rintro da bi ⟨ac,O,V,R,bj,rfl,hu,am,c0,cJ,b4⟩;obtain⟨aL,d,ag,n,j,_⟩:=dH b4 aL d ag n j;have aO:nD {eZ t with dI:=ac,q:={(eZ t).q with cx:=O},cG:=V,el:=R} (eZ t):=⟨rfl,rfl,rfl,rfl,rfl,cJ⟩;have bo:hB {eZ t with dI:=ac,q:={(eZ t).q with cx:=O},cG:=V,el:=R}:=yn (nD.symm aO) (J7 bm);have aR:eL s.m {eZ t with dI:=ac,q:={(eZ t).q with cx:=O},cG:=V,el:=R}=0:=by rw[Jg aO,Ji];exact aP.1
  refine G.af ?_;refine G.v1 c3 ?_;refine G.v1 c3 ?_;refine G.aU (Z.a7 q9) ?_;rintro db dc ⟨rfl,W,b5,_⟩;have a0:=ax.new (av.mono n.size);have a2:=ak.new d.lt;have a3:=(ax.new (ai.mono J):ax _ (bi.size+1));have a4:=(ax.new (am.mono J):ax _ (bi.size+1));have a5:=ae.new j.size;obtain⟨aL,d,ag,hu,j,_⟩:=dH b5 aL d ag hu j;refine G.s1 (et W _ (dM {eZ t with dI:=ac,q:={(eZ t).q with cx:=O},cG:=V,el:=R}) (pz _) gh (eu _) ((dD (eu _).symm))) ?_;rintro c2 ⟨W,bJ⟩;obtain⟨aL,d,ag,hu,j,_⟩:=g_ bJ aL a0 d a2 ag a3 hu a4 j (an.q a5);refine G.aj ?_;refine b3 (I.t1 (fun bB=>I.t1 (fun bD=>?_)));refine ka 8 (fun cY cI=>?_);refine G.af ?_;refine G.v1 ((dX).gE ((fun h=>h o))) ?_;refine G.av 2 ?_;refine G.aG kX ?_;refine G.hl o5 dJ ?_;refine G.aG (ba (d.W.drop 1) fV dJ (cq _)) ?_;refine G.aG (ba W.W hR gh (eu _)) ?_;refine G.nil (cI _ ?_);refine G.call o B0 o bR o o (sZ s {eZ t with dI:=ac,q:={(eZ t).q with cx:=O},cG:=V,el:=R} aQ bj bC w0 _ aL (av.mono J) (ag ()) (ai.mono J) (hu ()) (am.mono J) ok (qu bo)) ?_;rintro de P ⟨rfl,bE⟩;obtain⟨d,ag,hu,W,j,_⟩:=dH bE d ag hu W j;refine G.aG ((dX).gE ((fun h=>h aR))) ?_;refine G.eh ?_;refine G.nil (bD ?_);refine dZ ?_;refine I.skip (bB ?_);refine eA (fun aC=>al P aC) [7,8,9] ?_;have E:=al.refl P;refine U.af 0 o E ?_;refine U.af 1 o E ?_;refine U.bs 2 o E ?_;refine U.aV 3 o5 dJ E ?_;refine U.t1 4 o (fun aC aU=>ba ((d.W.drop 1).aR aU) fV dJ (cq _)) E ?_;refine U.t1 5 o (fun aC aU=>ba (W.W.aR aU) hR gh (eu _)) E ?_;refine U.bg 6 ?_;refine cP B1 (Bf s {eZ t with dI:=ac,q:={(eZ t).q with cx:=O},cG:=V,el:=R} aQ bj w0 _ (ag ()) (ai.mono J) (hu ()) (am.mono J) ok aR (qu bo)) ?_;rintro df X ⟨bA,rfl,M,bx,aZ⟩;obtain⟨d,j,_⟩:=bO aZ d j;have M:=M.ch;have b_:=M.cD;have a9:aS (fun b=>P.size≤b∧b<X.size) aD:=aS.jV (fun b h=>h.1) (by first|exact aH|exact fun k aB=>fg (aH k aB) J|assumption);have b6:ax (fun b=>P.size≤b∧b<X.size) (F+1):=ax.jV (fun b h=>h.1) (by first|exact b8|exact du|omega);have a6:ax (fun b=>P.size≤b∧b<X.size) (x.size+1):=ax.jV (fun b h=>h.1) (by first|exact dk|exact dq|omega);have bL:=E.O aZ;refine U.dx bL ?_;have bM:=al.refl X;refine U.bg 7 ?_;refine iJ o kX (.inl o) ?_;refine U.bg 8 ?_;refine iJ o (Y.hc d.W o o5 o dJ) (.inl o) ?_;refine U.bg 9 ?_;refine iK o (S.var d _ ((ptr F::cc bA)) o o o o ((kK _)) dJ (cq _) (by rw[Bx];exact iS o) ((By _ _ _))) ?_;rintro dh ⟨d,ca⟩;obtain⟨M,j,_⟩:=dW ca M a6 j (an.r b7);refine⟨.inl o,?_⟩;refine dB ?_;have dx:=bM;refine b0 (bY (I.region ?_));refine G.v1 bN ?_;refine G.af (G.nil ?_);refine aT.sub (cf (i+1,bA,fun b=>P.size≤b∧b<X.size) _ ?_ ?_) ⟨o,o,(aF J),(aF J),trivial⟩
  ·exact⟨J,d,(fun _=>M),(b_.mono J),a9,b6,a6,(fun b e=>by have bh:=e.1;omega),(by rw[bx];exact ok.ap aR),(by rw[bx,G2 aO,G4];exact aP.2),j⟩
  ·first|omega|(simp only;omega)|(simp;omega)
 ·
  obtain rfl:i=di.length:=by omega
  refine I.exit (bX (cg (cb ?_)));refine cA (I.O (fun ck=>?_));refine G.aZ 3 ?_;refine ck ?_;refine I.ret (cO ?_);exact⟨x.size,F,aD,cr,s,aQ,o,A,ct,B,br,cC,d,aX,bd,bg,ag,(ai.mono J),cF,bh,bW,cw,Jl bl,n⟩
end xu
namespace AS
open e2 hn
def yB(j:Nat):dv:=⟨1::UInt8.ofNat j::List.replicate 30 0,by simp⟩
def Ps(i:Nat):List UInt8:=[UInt8.ofNat (97+i%26)]
def Mv(i:Nat):dv:=if i=0 then bJ else yB (i-1)
def Li(i:Nat):dw:=⟨Mv i,yB i,Ps i⟩
def pL(i:Nat):List dw:=j0 ((List.range i).map Li)
def ue(i:Nat):d_:=if i=0 then kB else⟨[],[([98],yB (i-1))],[([98],pL i)],fU,[]⟩
theorem Ck{s:d_}{t:bS}{e:Int}(d:fH t=0)(j:gD t=0)(ab:gY s.cv t.ml=e)(n:hv t=0)(q:ko s.iw t.el=0):eL s t=e:=by
 unfold eL;rw[d,j,ab,n,q];by_cases he:e=0<;>simp[he]
end AS
namespace GK
open lY lZ
structure ef (p:aD) (c:List UInt8) (D:aw):Prop where
 cap:1048576≤D.cap
 most:1048576≤D.most
 log:D.log=[]
 st:D.stays=D.now
 dG:c.length≤200000
 ex:∃i,i<D.fs.length∧a1 D.fs i=⟨c,c,[]⟩∧(D.now=[(p,i)]∨∃k x,k<D.fs.length∧k≠i∧a1 D.fs k=⟨x,x,[]⟩∧x.length≤200000∧D.now=[(p,i),(bG p,k)])
section
variable {p : aD} {c e : List UInt8} {D : aw} {l : List Rec} {r : Rec}
structure lV (p:aD) (c e:List UInt8) (D:aw):Prop where
 cap:1048576≤D.cap
 most:1048576≤D.most
 dG:c.length≤200000
 el:e.length≤200000
 ex:∃i k y w,i<D.fs.length∧k<D.fs.length∧k≠i∧a1 D.fs i=⟨c,c,[]⟩∧a1 D.fs k=⟨e,y,w⟩∧(w=[⟨false,e⟩]∨w=[]∧y=e)∧y.length≤200000∧D.now=[(p,i),(bG p,k)]∧(D.stays=[(p,i)]∧D.log=[⟨[],bG p,some k⟩]∨D.stays=[(p,i),(bG p,k)]∧D.log=[])
structure ny (p:aD) (c e:List UInt8) (D:aw):Prop where
 cap:1048576≤D.cap
 most:1048576≤D.most
 dG:c.length≤200000
 el:e.length≤200000
 ex:∃i k,i<D.fs.length∧k<D.fs.length∧k≠i∧a1 D.fs i=⟨c,c,[]⟩∧a1 D.fs k=⟨e,e,[]⟩∧D.now=[(p,k)]∧(D.stays=[(p,i)]∧D.log=[⟨[],bG p,some k⟩,⟨bG p,p,some k⟩]∨D.stays=[(p,i),(bG p,k)]∧D.log=[⟨bG p,p,some k⟩])
def ur(p:aD)(c e:List UInt8)(D:aw):Prop:=lV p c e D∧∃k,aH D.now (bG p)=some k∧a1 D.fs k=⟨e,e,[]⟩
structure nB (p:aD) (c d:List UInt8) (D:aw):Prop where
 cap:1048576≤D.cap
 most:1048576≤D.most
 log:D.log=[]
 st:D.stays=D.now
 dG:c.length+d.length≤200000
 ex:∃i,i<D.fs.length∧a1 D.fs i=⟨c++d,c,[⟨true,d⟩]⟩∧(D.now=[(p,i)]∨∃k x,k<D.fs.length∧k≠i∧a1 D.fs k=⟨x,x,[]⟩∧x.length≤200000∧D.now=[(p,i),(bG p,k)])
def iM(l:List Rec)(c:List UInt8):Prop:=∃t,c=c1 l++t∧e5 l.length t=none
end
end GK
namespace AF
open e2 hn lu pd AS gK
def qz:dv:=⟨7::List.replicate 31 0,by simp⟩
def mO:bY:=⟨[109,97,105,110],bJ,qz,[99,111,109,109,105,116]⟩
def hz(s:aO):bS:=⟨false,[],s,[mO],false,fU,dN,[]⟩
theorem r_(s:aO):fH (hz s)=0∧gD (hz s)=0∧hv (hz s)=0:=⟨by unfold fH;simp[hz],by unfold gD;simp[hz],by unfold hv;simp[hz]⟩
theorem y5(s:aO):eL kB (hz s)=0:=Ck (r_ s).1 (r_ s).2.1 (by show gY [] [mO]=0;decide+kernel) (r_ s).2.2 (by show ko [] []=0;decide)
theorem KY(s:aO):eL (kB.ap (hz s)) (hz s)=21:=Ck (r_ s).1 (r_ s).2.1 (by show gY ([mO].foldl eV []) [mO]=21;decide+kernel) (r_ s).2.2 (by show ko [] []=0;decide)
theorem DK(s:aO):kB.ap (hz s)=⟨[],[([109,97,105,110],qz)],[([109,97,105,110],[⟨bJ,qz,[99,111,109,109,105,116]⟩])],fU,[]⟩:=by
 have h:¬qz=bJ:=by intro h;have d:=aI (fun z:dv=>z.1.getD 0 0) h;simp only[qz,bJ,vN]at d;revert d;decide
 unfold d_.ap hz;simp[eV,js,mO,h,iu,fm,kB,aH,j0]
theorem CP{t:bS}(d:t.bz=false)(ab:t.ag=false):(cK t).length=5+(t.ml.flatMap iX).length+(t.el.flatMap iV).length:=by
 unfold cK;rw[d,ab];simp only[bT,eQ,lF,if_false,je];omega
theorem O8{t:bS}(n:t.bz=false)(ab:t.ag=false)(d:t.q=fU)(q:t.ah=[])(r:t.ml.length≤65535)(x:t.el.length≤65535)(j:∀m∈t.ml,m.y.length≤65535∧m.n.length≤140737488355328)(A:(t.ml.flatMap iX).length+(t.el.flatMap iV).length≤1048571):oy t:=
 ⟨r,x,fun m hm=>(j m hm).1,fun m hm=>(j m hm).2,by rw[q];simp,by rw[d];simp[fU],by rw[d];simp[fU],by rw[CP n ab];omega⟩
theorem FY(s:aO):oy (hz s):=O8 o o o o (iS o) (iS o) (fun m hm=>by rw[eU.1 hm];decide) (by simp only[hz,lD,vy,hi,sg,mO,fx,je];decide)
theorem NJ{l:List dq}{x:aD×dv}(h:bX l=[x]):l.length=1:=by have:=aI List.length h;simpa[bX]using this
theorem Lf{l:List hd}{n:aD}{k:List dw}(h:c7 l=[(n,k)]):∃y:hd,l=[y]∧y.n=n∧y.l=k:=by
 match l,h with
 |[y],h=>
  simp only[c7,dk,lG,jC,hI,and_true]at h;exact⟨y,o,h.1,h.2⟩
theorem F6{F:Nat→Prop}{H:Heap}{s:aO}(h:Rd F H dL 66 s.v [mO]):gk F H (hz s):=⟨h,Rd.nil _ _ _ _,Rd.nil _ _ _ _,fun y hy=>by cases hy⟩
end AF
namespace AV
open ho kE mz m4 lY ph lZ pj oA e2 hn lu jH iN pe AF uz xu
set_option maxHeartbeats 1600000 in
theorem KZ(bC:Int)(w0:World)(N:Heap)
 (aL:fj bC N)(L:bp (fun b=>b=0) N.size):
 aE Tryz.prog w0 11 #[] N (fun r bT=>r= .bool true∧al N bT):=by
 refine aE.aP [] Tryz.func11 ?_;intro dg cZ;have d:al N N:=aa.refl _ _;refine I.O (fun cN=>?_);refine G.aj ?_;refine cN (I.O (fun cO=>?_));refine aW BM (wj 65536 65536 w0 _ bc bc) ?_;rintro dK dN ⟨b7,b8,aG,rfl,j,bL,bZ⟩;have aH:=aS.ej aS.nil (L.mono d.size) bL;have bK:=bk.O (bk.refl [] _) bL d.size;obtain⟨aL,d,_⟩:=bO bZ aL d;have aP:=j.aC;have bB:=bw.empty 65536 65536;have bb:=FT (M:=16000) (p:=eB) (cap:=65536) (most:=65536) bc bc bc bc bc bc;refine G.af ?_;refine G.v1 c3 ?_;refine G.v1 c3 ?_;refine G.aZ 2 ?_;refine cO (I.t1 (fun b9=>I.O (fun b_=>?_)));refine G.af ?_;refine G.v1 (Y.peq o bD bD o o) (G.nil (b_ ?_));refine dZ ?_;refine I.skip (b9 (I.O (fun ca=>?_)));refine G.af ?_;refine aW uT (wu bC b7 b8 aG (aw.empty 65536 65536) _ [] kB w0 _ j aL (L.mono J) aH bB J bb.1 bb.2.1 o (fun t h=>by cases h)) ?_;rintro dP dj ⟨F,H,af,cb,cf,dk,rfl,j,am,x,bq,cQ,A,bH,cV,bA,Q,bo,dC,c2,c5,c9,a8,aQ⟩;have aJ:=aS.ej aH (L.mono d.size) am;have bt:=bk.O bK am d.size;have aK:=ax.app ax.z (L.mono d.size) bq;have bx:=ae.O (ae.refl 0 _) bq d.size;have aN:=ax.app ax.z (L.mono d.size) bH;have bd:=ae.O (ae.refl 0 _) bH d.size;have aL:=aL.aJ aQ aH;have d:=d.gn aQ (ar.n3 bK);have dm:=aQ.size;have aP:=j.aC;have dh:=x.le;have di:=A.le;have b0:=c2;have b1:=c5;have a0:=c9;obtain⟨K,cX,ba,bE⟩:∃K,(dO (aw.empty 65536 65536) eB).2.2=K∧(ef 16000 eB (c1 []) K∧K.dead=false∧K.left=0)∧bw _ K:=⟨_,o,bb.2.2,BB bB eB⟩;rw[cX]at j;refine G.af ?_;refine G.v1 c3 ?_;refine G.v1 c3 ?_;refine G.aZ 2 ?_;refine ca (I.t1 (fun cg=>I.O (fun ch=>?_)));refine G.af ?_;refine G.v1 ((dX).gE ((fun h=>h o))) ?_;refine G.av 2 ?_;refine G.aG (Y.peq o bD bD o o) ?_;refine G.eh ?_;refine G.nil (ch ?_);refine dZ ?_;refine I.skip (cg (I.O (fun ck=>?_)));refine G.v1 (Y.build (v:=bM qz) o o fy) ?_;refine G.v1 (Y.build (v:= .agg (dL mO).toArray) o o fy) ?_;refine G.aU (Z.c2 (dE _ ([mO]) tc fq l2)) ?_;rintro bv cl ⟨B,a2,_⟩;have aR:=au.hU j.aC;have aT:=ak.new x.le;have aU:=ak.new A.le;obtain⟨aL,j,x,A,Q,d,_⟩:=fY a2 aL j x A Q d;obtain⟨q,rfl⟩:∃s:aO,bv=s.v:=⟨cF bv,B.bA.symm⟩;refine G.v1 (Y.build (v:=fo (hz q)) o o fy) ?_;refine G.aU (Z.a7 q9) ?_;rintro v5 de ⟨rfl,aC,cm,_⟩;have a3:=ax.new (L.mono d.size);have aV:=au.hU j.aC;have aX:=ak.new x.le;have aZ:=ak.new A.le;have a4:=(ax.new (bo.mono J):ax _ (cl.size+1));have a5:=ak.new B.le;have bU:=ae.new d.size;obtain⟨aL,j,x,A,Q,B,d,_⟩:=kr cm aL j x A Q B d;refine G.s1 (et aC _ (dM (hz q)) (pz _) gh (eu _) ((dD (eu _).symm))) ?_;rintro V ⟨aC,bW⟩;obtain⟨aL,j,x,A,Q,B,d,_⟩:=nw bW aL a3 j (iv aV) x aX A aZ Q a4 B a5 d bU;refine G.nil (ck (I.t1 (fun cn=>?_)));refine eA (fun E=>aa (ay (af++[(H+1),(F+1)])) V E) [] ?_;have ac:aa (ay (af++[(H+1),(F+1)])) V V:=aa.refl _ _;have bf:=bk.refl af V.size;have bg:=ae.refl (H+1) V.size;have bj:=ae.refl (F+1) V.size;have a7:=CP (t:=hz q) o o;have dT:(cK (hz q)).length≤100:=by rw[a7];simp[hz,sg,mO]
 have aB:=Bd ba.1 (l:=[]) (r:=cK (hz q)) ba.2.1 ba.2.2 bc (by rw[a7];simp[hz,sg,mO,c1,gf,hQ]) (by rw[a7];simp[hz,sg,mO,c1,gf,hQ]);rw[je]at aB;refine U.af 0 o ac ?_;refine U.t1 1 o (fun E O=>Y.qJ (aC.aJ O (au.app aV (au.cons aX.symm (au.T aZ.symm)))).W o hR gh (eu _) o) ac ?_;refine U.af 3 o ac ?_;refine U.t1 4 o (fun E O=>Y.qJ (aC.aJ O (au.app aV (au.cons aX.symm (au.T aZ.symm)))).W o hR gh (eu _) o) ac ?_;refine U.bg 2 ?_;refine cP uU (vb bC af cb aG K _ H F 0 false cf (hz q) _ _ w0 _ j aL (L.mono J) aJ x cQ aK A cV bA aN Q (bo.mono J) b0 b1 a0 (F6 B.rd) (bp.of B.le) (aS.of aR) (ax.of aT.symm) (ax.of aU.symm) (by rw[a8];exact sE) (FY q) bE J J) (fun dp R cp=>?_);have bV:=B.le;obtain⟨ag,cr,aD,dq,rfl,j,av,x,cT,A,cW,db,b4,c4,c6,da,X,W⟩:=cp;have a9:=aS.ej aJ (L.mono d.size) av;have b2:=au.ej aR bV av;have cx:=bk.O bt av d.size;have cy:=bk.O bf av ac.size;have aL:=aL.aJ W (aS.app aJ (aS.cons aK (aS.T aN)));have B:=B.aJ W (au.app aR (au.cons aT.symm (au.T aU.symm)));have d:=d.gn W (ar.app (ar.n3 bt) (ar.cons (an.q bx) (ar.T (an.q bd))));have ac:=ac.bt W (ar.app (ar.cO bf (by intro k P;simp[P])) (ar.cons (an.r bg) (ar.T (an.r bj))));have dt:=W.size;have aP:=j.aC;have cz:=c4;have cR:=c6;have be:=da;have bF:=va (D:=K) (n:=0) (br:=false) (y5 q) aB.1;rw[a8]at j x X;rw[bF]at j x X;rw[aB.2.1,aB.2.2.1]at x;have cY:=Hx bE eB 0 false (cK (hz q));have bQ:eL aD.m (hz q)=21:=by rw[X];exact KY q
 refine⟨.inr ac,U.narrow (SH2:=fun E=>aa (ay (ag++[(H+1),(F+1)])) R E) (fun E O=>ac.bt O (ar.app (ar.cO cy (by intro k P;simp[P])) (ar.cons (an.r bg) (ar.T (an.r bj))))) ?_⟩;have ac:aa (ay (ag++[(H+1),(F+1)])) R R:=aa.refl _ _;have bl:=bk.refl ag R.size;have bm:=ae.refl (H+1) R.size;have bn:=ae.refl (F+1) R.size;refine U.bg 5 ?_;refine cP uU (vb bC ag cr aG (fp K eB 0 false (cK (hz q))).2.2.2 _ H F (0+1) false aD (hz q) _ _ w0 _ j aL (L.mono J) a9 x cT aK A cW bA aN db (b4.mono J) cz cR be (F6 B.rd) (bp.of B.le) (aS.of b2) (ax.of aT.symm) (ax.of aU.symm) (by rw[X];exact sE.ap (y5 q)) (FY q) cY J J) ?_;rintro du a6 ⟨bz,dx,ct,dy,rfl,j,bX,x,dR,A,dS,dc,b5,ed,ee,eg,bP,aF⟩;have cA:=bk.O bl bX ac.size;have d:=d.gn aF (ar.app (ar.n3 cx) (ar.cons (an.q bx) (ar.T (an.q bd))));have ac:=ac.bt aF (ar.app (ar.cO bl (by intro k P;simp[P])) (ar.cons (an.r bm) (ar.T (an.r bn))));have dz:=aF.size;have aP:=j.aC;have bG:=do_1 (D:=(fp K eB 0 false (cK (hz q))).2.2.2) (n:=0+1) (br:=false) (t:=hz q) (m:=aD.m) (by rw[bQ];decide);rw[bG]at j x bP;obtain⟨hm,dY⟩:∃hm,hm=bP.trans (X.trans (DK q)):=⟨_,o⟩;refine⟨.inr ac,U.narrow (SH2:=fun E=>aa (ay (bz++[(H+1),(F+1)])) a6 E) (fun E O=>ac.bt O (ar.app (ar.cO cA (by intro k P;simp[P])) (ar.cons (an.r bm) (ar.T (an.r bn))))) ?_⟩;have ac:aa (ay (bz++[(H+1),(F+1)])) a6 a6:=aa.refl _ _;refine U.t1 6 o (fun E O=>gp) ac ?_;refine U.t1 7 o (fun E O=>gp) ac ?_;refine dB ?_;refine cn (I.O (fun bi=>?_));refine G.af ?_;refine aW sW (OJ H F ct _ w0 _ A (dc ()) (b5.mono J) (by rw[hm];exact(DK q)▸sE.ap (y5 q))) ?_;rintro dQ cv ⟨ai,rfl,C,a_,cB⟩;obtain⟨d,_⟩:=b6 cB d;have C:=C.ch;have az:=C.cD;rw[hm]at a_;have eb:=NJ (aI d_.cv a_);obtain⟨y,bS,ec,c0⟩:=Lf (aI d_.eg a_);have dU:ai.cj.length=1:=by rw[bS];rfl
 have bN:ai.cj[0].l=[⟨bJ,qz,[99,111,109,109,105,116]⟩]:=by simp only[bS];exact c0
 have dV:ai.cj[0].l.length=1:=by rw[bN];rfl
 refine G.aU (Z.a7 mq) ?_;rintro eh df ⟨rfl,S,cw,_⟩;have cD:=(ax.new (az.mono J):ax _ (cv.size+1));have cG:=ae.new d.size;obtain⟨C,d,_⟩:=bO cw C d;refine G.s1 (et S _ (cc ai) (kK _) dJ (cq _) ((dD (cq _).symm))) ?_;rintro dF ⟨S,bY⟩;obtain⟨C,d,_⟩:=dW bY C cD d cG;refine G.nil (bi (I.O (fun cH=>?_)));refine G.af ?_;refine G.v1 ((cC).gW (by rw[a8,bF])) ?_;refine G.av 2 ?_;refine G.aG ((cC).gW (by rw[bG];exact bQ)) ?_;refine G.av 2 ?_;refine G.wl S.W c8 jE lx ?_;refine G.aG (bu C.r jQ) ?_;refine G.aG ((cC).gW J) ?_;refine G.av 2 ?_;refine G.wl S.W c8 h2 jU ?_;refine G.aG (bu C.g ij) ?_;refine G.aG ((cC).gW J) ?_;refine G.av 2 ?_;refine G.wl S.W c8 h2 jU ?_;refine G.e (g:=fun ad=> .pointer (some ad)) (Y.pC C.g (0) o ij iD o o gP J) bR o o (fun dG cI=>?_);refine G.wl cI.W iI ju k1 ?_;refine G.aG (bu (C.n _ (cU _)) lQ) ?_;refine G.aG ((cC).gW J) ?_;refine G.av 2 ?_;refine G.wl S.W c8 h2 jU ?_;refine G.e (g:=fun ad=> .pointer (some ad)) (Y.pC C.g (0) o ij iD o o gP J) bR o o (fun dH cJ=>?_);refine G.wl cJ.W iI ju k1 ?_;refine G.e (g:=fun ad=> .pointer (some ad)) (Y.pC (C.n _ (cU _)) (0) o lQ pX o o gP J) bR o o (fun dI cL=>?_);refine G.gz cL.W.Lh O_ b3 cd ?_;refine G.aG ((Y.oc o o o).gW (by simp only[bN];rfl)) ?_;refine G.aZ 2 ?_;refine cH ?_;refine I.ret (cZ ?_);exact⟨o,d⟩
end AV
namespace E
open Go.ChangeShapes Go.WideShapes Go.ChangeAt Go.RowKit Go.Deep
section
variable {H : Type} {enc : TypeId × Value → H} {P : Program} {cE : World} {base : Nat} {sp : Nat → Bool} {held : Bool}
def pk(P:Program)(t:TypeId)(d:DataW H):Prop:=∀n∈d.weights P t,n≤reachBytes
theorem pk.of{di:List TypeId}{ds:List (DataW H)}{j:Nat}{t:TypeId}{d:DataW H}(h:(DataW.weightsEach P di ds).all (·≤reachBytes)=true)(q:di[j]?=some t)(ah:ds[j]?=some d):pk P t d:=fun n aB=>by
 have:=rX.1 h _ (DataW.weights_mem_each q ah n aB)
 simpa using this
theorem FH{t e:TypeId}{n:Nat}{u:Value}{y:DataW H}{dh:List MemPlace}(he:P.underlying t=some (.slice e))(hy:DataW.trod enc P cE base sp held n t [u]=some (y,dh)):∃s:aO,u=s.v:=by
 rcases open_slice he hy with⟨d,_⟩|⟨a,len,cap,_,_,_,_,d,_⟩
 ·simp only[jC,and_true]at d;exact⟨⟨none,0,0⟩,d⟩
 ·simp only[jC,and_true]at d;exact⟨⟨some a,len,cap⟩,d⟩
theorem Ng{n m:Nat}{t e:TypeId}{cs:List Value}{y:DataW H}{dh:List MemPlace}(B:P.underlying t=some (.array n e))(he:P.underlying e=some (.int .u8))(aq:P.cellsOf e=1)(F:cs.length=n)(h:DataW.trod enc P cE base sp held m t cs=some (y,dh)):
 ∃l:List UInt8,cs=l.map (fun b=>Value.int .u8 b.toNat)∧l.length=n:=by
 obtain⟨xs,m,_,ex,hlen,E,x⟩:=DataW.trod_array B h
 have:∀i,i<n→∃b:UInt8,cs[i]?=some (.int .u8 b.toNat):=by
  intro i d;have q:=x i d;rw[aq,lE,List.getElem?_eq_getElem J]at q;obtain⟨z,aP,C,hw⟩:=DataW.trod_int he q;obtain⟨b,rfl⟩:=Gj hw;refine⟨b,?_⟩;have r:((cs.drop i).take 1)[0]?=some (.int .u8 b.toNat):=by rw[aP];rfl
  simpa using r
 obtain⟨l,j,A⟩:=DV this;refine⟨l,?_,j⟩;apply yK;intro i;by_cases d:i<n
 ·rw[A i l[i] (by simp[j,d])];simp[j,d]
 ·rw[List.getElem?_eq_none J,List.getElem?_eq_none b2]
end
end E
end Go.Proofs.YtfjmpninmdjcaaaGreatDoor
