/-
  Contracts of functions of the program, and plain laws: put together of several texts.
-/
import Derived.Test.YtfjmpninmdjcaaaGreatDoorGb
import Derived.Sort.Walk0
import Derived.Shelf.Vars
set_option linter.unusedVariables false
set_option linter.unusedSimpArgs false
set_option linter.unusedSectionVars false
set_option linter.defProp false
set_option maxHeartbeats 8000000
set_option maxRecDepth 100000
namespace Go.Proofs.YtfjmpninmdjcaaaGreatDoor
open E Go.RowKit

namespace sI
open ho nC jz m3 kE xv ox
theorem Ag{D:aw}{p:aD}(h:D.begin.1=false):D.sync p=(11,D.begin.2):=by unfold aw.sync;simp[h]
theorem Ah{D:aw}{p:aD}(h:D.begin.1=true):D.sync p=(D.begin.2.look p,if D.begin.2.look p=0 then D.begin.2.w1 ((aH D.begin.2.now p).getD 0)else D.begin.2):=by unfold aw.sync;simp[h]
theorem Fa{D:aw}{p q:aD}(h:D.begin.1=false):D.rename p q=(11,D.begin.2):=by unfold aw.rename;simp[h]
theorem Fb{D:aw}{p q:aD}(h:D.begin.1=true):D.rename p q=(D.begin.2.mg p q,if D.begin.2.mg p q=0∧p≠q then D.begin.2.change ⟨p,q,some ((aH D.begin.2.now p).getD 0)⟩else D.begin.2):=by unfold aw.rename;simp[h]
theorem E9{D:aw}{p q:aD}(h:cH p=false∨cH q=false):D.mg p q=7:=by unfold aw.mg;rw[aM h]
theorem Nw{D:aw}{p q:aD}(h:cH p=true)(ab:cH q=true)(d:bV p≠bV q):D.mg p q=13:=by unfold aw.mg;rw[aA (by simp[h,ab]),aM d]
theorem E_{D:aw}{p q:aD}(h:cH p=true)(ab:cH q=true)(d:bV p=bV q):D.mg p q=D.look p:=by unfold aw.mg;rw[aA (by simp[h,ab]),aA (by simpa using d)]
theorem FA{D:aw}{p:aD}(h:D.begin.1=false):D.iG p=(11,D.begin.2):=by unfold aw.iG;simp[h]
theorem FB{D:aw}{p:aD}(h:D.begin.1=true):D.iG p=(k4 p,if k4 p=0 then D.begin.2.pY p else D.begin.2):=by unfold aw.iG;simp[h]
theorem Ew{p:aD}(h:cH p=true):p≠[]:=((zt p).1 h).1
theorem za{κ β:Type}{aX:κ→Value}{fv:β→Value}(bE:Nat)(m:List (κ×β))(w0:World)(N:Heap)(h:cW N aX fv bE m):aE Tryz.prog w0 79 #[.map (some bE)] N (fun r n=>∃d:Nat,r= .map (some d)∧cW n aX fv d m∧ae 0 N.size (d+1)∧al N n):=by
 intro w j;obtain⟨r,es,clock,B,ab,q,x,A⟩:=h.fX.ex;obtain rfl:=ab;have ao:w.heap[r]?=some (.map es clock):=by rw[j.heap];exact q
 refine(AnyW.maps_Clone Tryz.mclone79 r es clock w ao).mono ?_;rintro e C ⟨rfl,rfl⟩;refine⟨_,N.push (.map es clock),o,j.alloc _,N.size,by rw[j.heap],⟨⟨N.size,es,clock,o,o,by simp,x,A⟩⟩,.inr (.inr J),al.pu _ _⟩
set_option maxHeartbeats 2000000 in
theorem w_(bC:Int)(K:List Nat)(g:cQ)(b:Nat)(D:aw)(p:aD)(j:aO)(d:List UInt8)(F:Nat→Prop)(w0:World)(N:Heap)
 (n:bq K g N b D)(aL:fj bC N)(M:bp (fun b=>b=0) N.size)(ek:aS (fun b=>b=0) K)(ah:Rd F N bd 1 j.v d)(L:bp F N.size)(O:aS F K)(S:p.length≤4294967280)(P:h5 274877906944 D)(Q:d.length≤274877906944):
 aE Tryz.prog w0 170 #[ptr b,aN p,j.v] N (fun r x=>∃bF:List Nat,∃g2:cQ,r= .int .i64 ((D.lay p ⟨false,d⟩).1:Int)∧bq bF g2 x b (D.lay p ⟨false,d⟩).2∧bk K N.size bF∧aa (ay K) N x):=by
 refine aE.aP [ptr b,aN p,j.v] Tryz.func170 ?_;intro V U;have q:aa (ay K) N N:=aa.refl _ _;have A:=bk.refl K N.size;have ac:=n.aC;refine I.O (fun C=>?_);refine G.aj ?_;refine C (I.seq (fun bF E _=>I.region ?_));refine G.av 3 ?_;refine G.v1 (Y.build (v:=oj (⟨false,d⟩,j)) o o fy) ?_;refine aW BS (DP bC K g b D p (⟨false,d⟩,j) F w0 _ n aL (M.mono J) ek ah (L.mono J) O S P Q) ?_;rintro W X ⟨Z,ae,rfl,n,B,ad⟩;have H:=bk.O A B q.size;have q:=q.bt ad (ar.cO A (by intro k R;simp[R]));refine G.aj ?_;refine E _ _ ?_;refine I.ret (U ?_);exact⟨_,_,o,n,H,q⟩
set_option maxHeartbeats 2000000 in
theorem Be(bC:Int)(K:List Nat)(g:cQ)(b:Nat)(D:aw)(p:aD)(j:aO)(d:List UInt8)(F:Nat→Prop)(w0:World)(N:Heap)
 (n:bq K g N b D)(aL:fj bC N)(M:bp (fun b=>b=0) N.size)(ek:aS (fun b=>b=0) K)(ah:Rd F N bd 1 j.v d)(L:bp F N.size)(O:aS F K)(S:p.length≤4294967280)(P:h5 274877906944 D)(Q:d.length≤274877906944):
 aE Tryz.prog w0 110 #[ptr b,aN p,j.v] N (fun r x=>∃bF:List Nat,∃g2:cQ,r= .int .i64 ((D.lay p ⟨true,d⟩).1:Int)∧bq bF g2 x b (D.lay p ⟨true,d⟩).2∧bk K N.size bF∧aa (ay K) N x):=by
 refine aE.aP [ptr b,aN p,j.v] Tryz.func110 ?_;intro V U;have q:aa (ay K) N N:=aa.refl _ _;have A:=bk.refl K N.size;have ac:=n.aC;refine I.O (fun C=>?_);refine G.aj ?_;refine C (I.seq (fun bF E _=>I.region ?_));refine G.av 3 ?_;refine G.v1 (Y.build (v:=oj (⟨true,d⟩,j)) o o fy) ?_;refine aW BS (DP bC K g b D p (⟨true,d⟩,j) F w0 _ n aL (M.mono J) ek ah (L.mono J) O S P Q) ?_;rintro W X ⟨Z,ae,rfl,n,B,ad⟩;have H:=bk.O A B q.size;have q:=q.bt ad (ar.cO A (by intro k R;simp[R]));refine G.aj ?_;refine E _ _ ?_;refine I.ret (U ?_);exact⟨_,_,o,n,H,q⟩
set_option maxHeartbeats 2000000 in
theorem FX(bC:Int)(K:List Nat)(g:cQ)(b:Nat)(D:aw)(p:aD)(w0:World)(N:Heap)
 (d:bq K g N b D)(aL:fj bC N)(aQ:bp (fun b=>b=0) N.size)(ek:aS (fun b=>b=0) K)(aT:p.length≤4294967280)(ag:h5 274877906944 D):
 aE Tryz.prog w0 107 #[ptr b,aN p] N (fun r W=>∃bF:List Nat,∃g2:cQ,r= .int .i64 ((D.sync p).1:Int)∧bq bF g2 W b (D.sync p).2∧bk K N.size bF∧aa (ay K) N W):=by
 refine aE.aP [ptr b,aN p] Tryz.func107 ?_;intro aZ V;have j:aa (ay K) N N:=aa.refl _ _;have x:=bk.refl K N.size;have ad:=d.aC;have bf:=ag.op;have bc:=d.kd;obtain⟨n,A⟩:∃n,n=D.begin.2:=⟨_,o⟩;have aR:=ag.begin;rw[←A]at aR;refine I.O (fun am=>?_);refine G.aj ?_;refine am (I.seq (fun bF aB ap=>I.O (fun aC=>?_)));refine G.af ?_;refine aW uW (uQ K g b D w0 _ d J) ?_;rintro bn aX ⟨g1,rfl,d,a6,H⟩;have aL:=aL.aJ H ek;have j:=j.bt H (ar.cO x (by intro k R;simp[R]));have a_:=H.size;rw[←A]at d;refine G.v1 fB (G.nil (aC ?_));refine dm (fun M=>?_) (fun M=>?_)
 ·
  refine I.O (fun aF=>?_);refine G.aj ?_;refine aF ?_;refine I.ret (ap .ret nofun _ _ (V ?_));have ai:=Ag (p:=p) (show D.begin.1=false by simpa using M);exact⟨_,_,by rw[ai];rfl,by rw[ai];rw[A]at d;exact d,x,j⟩
 ·
  have ak:D.begin.1=true:=by simpa using M
  have aU:=(uR ak).1;rw[←A]at aU;have B:=Ah (p:=p) ak;rw[←A]at B;refine I.skip (aB _ _ (I.O (fun aG=>?_)));refine G.av 2 ?_;refine aW uV (vk bC K g1 b n p w0 _ aL (aQ.mono J) d aT) ?_;rintro ba L ⟨rfl,ax⟩;obtain⟨d,j,_⟩:=bO ax d j;refine G.af ?_;refine G.v1 c3 ?_;refine G.v1 c3 ?_;refine G.aZ 2 ?_;refine aG (I.t1 (fun X=>I.O (fun a7=>?_)));refine G.af ?_;refine G.v1 cC (G.nil (a7 ?_));refine a8 (fun aJ=>?_) (fun aJ=>?_)
  ·
   have S:n.look p=0:=by omega
   obtain⟨bd,i,U⟩:=vY S;have av:=d.ids.1 p i U;obtain⟨bi,O,P⟩:∃bi,g1.fb.getD i 0=bi∧ .pointer (oM g1.fb (if n.look p=0 then aH n.now p else none))=ptr bi:=⟨_,o,by rw[aM S,U];rfl⟩;obtain⟨F,bm,aV,bg,bj,Q⟩:=d.gu i av;have C:aa (ay [(bi+1)]) L L:=aa.refl _ _;have nk:hO K (bi+1):=(d.ts Q O);have q:=Q.qj O;have Z:an K N.size (bi+1):=ar.at (ar.cO x (by intro k R;simp[R])) nk;have af:=ae.refl (bi+1) L.size;refine I.region ?_;refine G.v1 (Y.cast (v2:=ptr bi) gj P) ?_;refine G.v1 (Y.cast (v2:=ptr bi) gj P) ?_;refine G.v1 (Y.cast (v2:=ptr bi) gj P) ?_;refine G.bs ?_;refine G.aV jw mZ ?_;refine G.a6 q.W m0 dt fe ?_;refine G.bs ?_;refine G.aV jw mZ ?_;refine G.aV m0 dt ?_;refine G.s1 (du q 1 ([F.v,F.v,aV.v]) dt bl o) ?_;rintro bb ⟨q,E⟩;have E:=E.e3;have j:=j.bt E (ar.cons Z ar.nil);have C:=C.bt E (ar.T (an.r af));refine G.bs ?_;refine G.aV jw mh ?_;refine G.s1 (du q 2 ([F.v,F.v,.slice none 0 0]) mh bl o) ?_;rintro az ⟨q,ac⟩;have ac:=ac.e3;have j:=j.bt ac (ar.cons Z ar.nil);have C:=C.bt ac (ar.T (an.r af));refine G.nil ?_;have aK:bk K N.size K:=x;have d:=d.fsync av Q O C q;refine X (I.O (fun aO=>?_));refine G.aZ 2 ?_;refine aO ?_;refine I.ret (V ?_);exact⟨_,_,by rw[B];rfl,by rw[B];simp only[S,if_true,U,Option.getD_some];exact d,aK,j⟩
  ·
   refine I.skip (X (I.O (fun aP=>?_)));refine G.aZ 2 ?_;refine aP ?_;refine I.ret (V ?_);exact⟨_,_,by rw[B];rfl,by rw[B];rw[aA J];exact d,x,j⟩
set_option maxHeartbeats 2000000 in
theorem Nx(bC:Int)(K:List Nat)(g:cQ)(b:Nat)(D:aw)(p q:aD)(w0:World)(N:Heap)
 (n:bq K g N b D)(aL:fj bC N)(H:bp (fun b=>b=0) N.size)(ek:aS (fun b=>b=0) K)(Q:p.length≤4294967280)(aC:q.length≤4294967280)(ak:h5 274877906944 D):
 aE Tryz.prog w0 174 #[ptr b,aN p,aN q] N (fun r af=>∃bF:List Nat,∃g2:cQ,r= .int .i64 ((D.rename p q).1:Int)∧bq bF g2 af b (D.rename p q).2∧bk K N.size bF∧aa (ay K) N af):=by
 refine aE.aP [ptr b,aN p,aN q] Tryz.func174 ?_;intro bw F;have x:aa (ay K) N N:=aa.refl _ _;have C:=bk.refl K N.size;have bQ:=n.aC;have bT:=ak.op;have bS:=n.kd;obtain⟨B,O⟩:∃B,B=D.begin.2:=⟨_,o⟩;have an:=ak.begin;rw[←O]at an;refine I.O (fun aO=>?_);refine G.aj ?_;refine aO (I.seq (fun bF aP aQ=>I.O (fun aR=>?_)));refine G.af ?_;refine aW uW (uQ K g b D w0 _ n J) ?_;rintro bD bE ⟨g1,rfl,n,aT,R⟩;have aL:=aL.aJ R ek;have x:=x.bt R (ar.cO C (by intro k X;simp[X]));have bG:=R.size;rw[←O]at n;refine G.v1 fB (G.nil (aR ?_));refine dm (fun S=>?_) (fun S=>?_)
 ·
  refine I.O (fun aU=>?_);refine G.aj ?_;refine aU ?_;refine I.ret (aQ .ret nofun _ _ (F ?_));have av:=Fa (p:=p) (q:=q) (show D.begin.1=false by simpa using S);exact⟨_,_,by rw[av];rfl,by rw[av];rw[O]at n;exact n,C,x⟩
 ·
  have aB:D.begin.1=true:=by simpa using S
  have bu:=(uR aB).1;rw[←O]at bu;have A:=Fb (p:=p) (q:=q) aB;rw[←O]at A;refine I.skip (aP _ _ (I.t2 (fun aV U=>I.aC (fun aX _ az=>I.O (fun ag=>?_)))));refine G.af ?_;refine aW qo (qQ bC p w0 _ aL (H.mono J) Q) ?_;rintro bH bJ ⟨rfl,am⟩;obtain⟨n,aL,x,_⟩:=cf am n aL x;refine G.v1 fB ?_;refine G.af ?_;refine G.split (d:=16) o (fun ad=>?_) (fun ad=>?_)
  ·
   refine G.aZ 5 ?_;refine ag ?_;refine I.kc o ?_;refine I.O (fun aZ=>?_);refine G.aj ?_;refine aZ ?_;refine I.ret (az (U (F ?_)));have E:=E9 (D:=B) (p:=p) (q:=q) (by first|exact .inl (by simpa using ad)|exact .inr (by simpa using M));exact⟨_,_,by rw[A,E];rfl,by rw[A,E];exact n,C,x⟩
  ·
   refine G.b4 ?_;refine G.call o qo o bR o o (qQ bC q w0 _ aL (H.mono J) aC) ?_;rintro bK bL ⟨rfl,bb⟩;obtain⟨n,aL,x,_⟩:=cf bb n aL x;refine G.aG fB ?_;refine G.aZ 2 ?_;refine ag ?_;refine dm (fun M=>?_) (fun M=>?_)
   ·
    refine I.O (fun a6=>?_);refine G.aj ?_;refine a6 ?_;refine I.ret (az (U (F ?_)));have E:=E9 (D:=B) (p:=p) (q:=q) (by first|exact .inl (by simpa using ad)|exact .inr (by simpa using M));exact⟨_,_,by rw[A,E];rfl,by rw[A,E];exact n,C,x⟩
   ·
    refine I.O (fun ap=>?_);refine G.af ?_;refine aW ry (rD bC p w0 _ aL (H.mono J) Q) ?_;rintro bM bN ⟨rfl,bc⟩;obtain⟨n,aL,x,_⟩:=cf bc n aL x;refine G.af ?_;refine aW ry (rD bC q w0 _ aL (H.mono J) aC) ?_;rintro a0 a2 ⟨rfl,bd⟩;obtain⟨n,aL,x,_⟩:=cf bd n aL x;refine G.v1 (Y.lO o o o) ?_;refine G.aj ?_;refine ap ?_;refine a8 (fun V=>?_) (fun V=>?_)
    ·
     refine I.O (fun a7=>?_);refine G.aj ?_;refine a7 ?_;refine I.ret (az (U (F ?_)));have E:=Nw (D:=B) (p:=p) (q:=q) (by simpa using ad) (by simpa using M) (by simpa using V);exact⟨_,_,by rw[A,E];rfl,by rw[A,E];exact n,C,x⟩
    ·
     have ax:bV p=bV q:=by simpa using V
     have bn:cH p=true:=by simpa using ad
     have bo:cH q=true:=by simpa using M
     have L:=E_ (D:=B) bn bo ax;refine I.skip (aX (aV (I.O (fun bf=>?_))));refine G.av 2 ?_;refine aW uV (vk bC K g1 b B p w0 _ aL (H.mono J) n Q) ?_;rintro a3 a4 ⟨rfl,bg⟩;obtain⟨n,aL,x,_⟩:=cf bg n aL x;refine G.af ?_;refine G.v1 c3 ?_;refine G.v1 c3 ?_;refine G.aZ 2 ?_;refine bf (I.t1 (fun ac=>I.O (fun ai=>?_)));refine G.af ?_;refine G.v1 cC ?_;refine G.af ?_;refine G.bL (d:=35) o (fun W=>?_) (fun W=>?_)
     ·
      refine G.av 2 ?_;refine G.aG (Y.lO o o o) ?_;refine G.W ?_;refine G.nil (ai ?_);refine a8 (fun P=>?_) (fun P=>?_)
      ·
       have Z:B.look p=0:=by omega
       obtain⟨bt,i,ae⟩:=vY Z;have bl:=n.ids.1 p i ae;refine I.region ?_;refine G.av 2 ?_;refine aW ry (rD bC p w0 _ aL (H.mono J) Q) ?_;rintro a5 bx ⟨rfl,bj⟩;obtain⟨n,x,_⟩:=bO bj n x;refine G.av 3 ?_;refine G.v1 (Y.cast (v2:= .agg (jn g1.fb ⟨p,q,some i⟩).toArray) (Y.build (v:= .agg #[aN p,aN q,.pointer (oM g1.fb (if B.look p=0 then aH B.now p else none))]) o o fy) (by rw[aM Z,ae])) ?_;refine aW BY (Ch K g1 b B (bV p) ⟨p,q,some i⟩ w0 _ n (by rw[aT.2.2.2];omega) (by simp[c_.dir,Ew bt]) (fun j bm=>by cases bm;exact⟨ax.symm,bl⟩) (fun h=>rfl) (by have:=an.eg;omega)) ?_;rintro bz bA ⟨a9,bP,rfl,n,ba,bB,aF⟩;have a_:=bk.O C ba x.size;have x:=x.bt aF (ar.cO C (by intro k X;simp[X]));refine G.nil (ac (I.O (fun aG=>?_)));refine G.aZ 2 ?_;refine aG ?_;refine I.ret (F ?_);exact⟨_,_,by rw[A,L];rfl,by rw[A,L];rw[aM ⟨Z,by simpa using P⟩,ae];exact n,a_,x⟩
      ·
       refine I.skip (ac (I.O (fun aJ=>?_)));refine G.aZ 2 ?_;refine aJ ?_;refine I.ret (F ?_);exact⟨_,_,by rw[A,L];rfl,by rw[A,L];rw[aA (fun h=>by first|exact W J|exact h.2 (by simpa using P))];exact n,C,x⟩
     ·
      refine G.av 4 ?_;refine G.nil (ai ?_);refine dZ ?_;refine I.skip (ac (I.O (fun aK=>?_)));refine G.aZ 2 ?_;refine aK ?_;refine I.ret (F ?_);exact⟨_,_,by rw[A,L];rfl,by rw[A,L];rw[aA (fun h=>by first|exact W J|exact h.2 (by simpa using P))];exact n,C,x⟩
set_option maxHeartbeats 2000000 in
theorem OR(bC:Int)(K:List Nat)(g:cQ)(b:Nat)(D:aw)(p:aD)(w0:World)(N:Heap)
 (n:bq K g N b D)(aL:fj bC N)(bH:bp (fun b=>b=0) N.size)(ek:aS (fun b=>b=0) K)(bJ:p.length≤4294967280)(aU:h5 274877906944 D):
 aE Tryz.prog w0 176 #[ptr b,aN p] N (fun r aC=>∃bF:List Nat,∃g2:cQ,r= .int .i64 ((D.iG p).1:Int)∧bq bF g2 aC b (D.iG p).2∧bk K N.size bF∧aa (ay K) N aC):=by
 refine aE.aP [ptr b,aN p] Tryz.func176 ?_;intro bT W;have j:aa (ay K) N N:=aa.refl _ _;have F:=bk.refl K N.size;have a7:=n.aC;have bV:=aU.op;have bU:=n.kd;obtain⟨U,R⟩:∃U,U=D.begin.2:=⟨_,o⟩;have av:=aU.begin;rw[←R]at av;refine I.O (fun bg=>?_);refine G.aj ?_;refine bg (I.seq (fun bF bj bm=>I.O (fun bn=>?_)));refine G.af ?_;refine aW uW (uQ K g b D w0 _ n J) ?_;rintro bW bS ⟨g1,rfl,n,aF,ag⟩;have aL:=aL.aJ ag ek;have j:=j.bt ag (ar.cO F (by intro k C;simp[C]));have a3:=ag.size;rw[←R]at n;refine G.v1 fB (G.nil (bn ?_));refine dm (fun ai=>?_) (fun ai=>?_)
 ·
  refine I.O (fun bt=>?_);refine G.aj ?_;refine bt ?_;refine I.ret (bm .ret nofun _ _ (W ?_));have aV:=FA (p:=p) (show D.begin.1=false by simpa using ai);exact⟨_,_,by rw[aV];rfl,by rw[aV];rw[R]at n;exact n,F,j⟩
 ·
  have aX:D.begin.1=true:=by simpa using ai
  have bK:=(uR aX).1;rw[←R]at bK;have M:=FB (p:=p) aX;rw[←R]at M;refine I.skip (bj _ _ (I.t2 (fun aG bu=>I.O (fun aH=>?_))));refine G.af ?_;refine G.v1 (Y.lO o o o) ?_;refine G.af ?_;refine G.bL (d:=11) o (fun V=>?_) (fun V=>?_)
  ·
   refine G.b4 ?_;refine G.call o qo o bR o o (qQ bC p w0 _ aL (bH.mono J) bJ) ?_;rintro a4 a5 ⟨rfl,bD⟩;obtain⟨n,j,_⟩:=bO bD n j;refine G.aG fB ?_;refine G.W ?_;refine G.nil (aH ?_);refine dm (fun P=>?_) (fun P=>?_)
   ·
    refine I.O (fun bw=>?_);refine G.aj ?_;refine bw ?_;refine I.ret (bu (W ?_));have E:k4 p=7:=by unfold k4;rw[aM ⟨V,by simpa using P⟩]
    exact⟨_,_,by rw[M,E];rfl,by rw[M,E];exact n,F,j⟩
   ·
    refine I.skip (aG (I.O (fun bx=>?_)));refine G.av 2 ?_;refine aW x2 (zj K g1 b U p w0 _ n (by rw[aF.2.2.2];omega)) ?_;rintro bz H ⟨Q,bA,bo,rfl,n,X,S,bE,Z⟩;have aJ:=bk.O F X j.size;have j:=j.bt Z (ar.cO F (by intro k C;simp[C]));refine G.aj ?_;refine bx (I.t1 (fun a0=>?_));obtain⟨O,bP,bL,aB,ax,bQ,B⟩:=n.hG _ bo S;have q:aa (ay [(bo+1)]) H H:=aa.refl _ _;have bN:hO Q (bo+1):=(n.nk B.rd bl);have cV:=B.cV;have aK:an K N.size (bo+1):=ar.at (ar.cO aJ (by intro k C;simp[C])) bN;have aO:=ae.refl (bo+1) H.size;refine I.region ?_;refine G.av 4 ?_;refine G.aV jP nt ?_;refine G.a6 cV.W nu lN oB ?_;refine aW x6 (za O ax w0 _ B.aB) ?_;rintro bB a2 ⟨L,rfl,A,ad,af⟩;have aP:=ak.app ak.z cV.lt ad;have bG:=ae.O (ae.refl 0 _) ad j.size;have aZ:=ae.O (ae.refl 0 _) ad q.size;obtain⟨cV,j,q,_⟩:=cf af cV j q;refine G.bs ?_;refine G.aV jP nt ?_;refine G.aV nu lN ?_;refine G.s1 (du cV 1 ([.map (some O),.map (some L),aB.v]) lN bl o) ?_;rintro az ⟨cV,x⟩;have x:=x.e3;obtain⟨A,_⟩:=c0 x A aP.symm;have j:=j.bt x (ar.cons aK ar.nil);have q:=q.bt x (ar.T (an.r aO));refine G.bs ?_;refine G.aV jP mY ?_;refine G.s1 (du cV 2 ([.map (some O),.map (some L),.slice none 0 0]) mY bl o) ?_;rintro am ⟨cV,ac⟩;have ac:=ac.e3;obtain⟨A,_⟩:=c0 ac A aP.symm;have j:=j.bt ac (ar.cons aK ar.nil);have q:=q.bt ac (ar.T (an.r aO));refine G.nil ?_;have a6:bk K N.size ((L+1)::Q):=(bk.cons bG aJ);have n:=n.CF av.aj S B q cV A (fun _=>rfl) (au.tK n.aC aZ);refine a0 (I.O (fun a8=>?_));refine G.aj ?_;refine a8 ?_;refine I.ret (W ?_);have E:k4 p=0:=by unfold k4;rw[aA (fun h=>by first|exact absurd h.1 V|(rw[h.2]at P;cases P))]
    exact⟨_,_,by rw[M,E];rfl,by rw[M,E];exact n,a6,j⟩
  ·
   refine G.av 4 ?_;refine G.nil (aH ?_);refine dZ ?_;refine I.skip (aG (I.O (fun a_=>?_)));refine G.av 2 ?_;refine aW x2 (zj K g1 b U p w0 _ n (by rw[aF.2.2.2];omega)) ?_;rintro bz H ⟨Q,bA,bo,rfl,n,X,S,bE,Z⟩;have aQ:=bk.O F X j.size;have j:=j.bt Z (ar.cO F (by intro k C;simp[C]));refine G.aj ?_;refine a_ (I.t1 (fun ba=>?_));obtain⟨O,bP,bL,aB,ax,bQ,B⟩:=n.hG _ bo S;have q:aa (ay [(bo+1)]) H H:=aa.refl _ _;have bM:hO Q (bo+1):=(n.nk B.rd bl);have cV:=B.cV;have ap:an K N.size (bo+1):=ar.at (ar.cO aQ (by intro k C;simp[C])) bM;have aR:=ae.refl (bo+1) H.size;refine I.region ?_;refine G.av 4 ?_;refine G.aV jP nt ?_;refine G.a6 cV.W nu lN oB ?_;refine aW x6 (za O ax w0 _ B.aB) ?_;rintro bB a2 ⟨L,rfl,A,ad,af⟩;have aT:=ak.app ak.z cV.lt ad;have bb:=ae.O (ae.refl 0 _) ad j.size;have bc:=ae.O (ae.refl 0 _) ad q.size;obtain⟨cV,j,q,_⟩:=cf af cV j q;refine G.bs ?_;refine G.aV jP nt ?_;refine G.aV nu lN ?_;refine G.s1 (du cV 1 ([.map (some O),.map (some L),aB.v]) lN bl o) ?_;rintro az ⟨cV,x⟩;have x:=x.e3;obtain⟨A,_⟩:=c0 x A aT.symm;have j:=j.bt x (ar.cons ap ar.nil);have q:=q.bt x (ar.T (an.r aR));refine G.bs ?_;refine G.aV jP mY ?_;refine G.s1 (du cV 2 ([.map (some O),.map (some L),.slice none 0 0]) mY bl o) ?_;rintro am ⟨cV,ac⟩;have ac:=ac.e3;obtain⟨A,_⟩:=c0 ac A aT.symm;have j:=j.bt ac (ar.cons ap ar.nil);have q:=q.bt ac (ar.T (an.r aR));refine G.nil ?_;have bd:bk K N.size ((L+1)::Q):=(bk.cons bb aQ);have n:=n.CF av.aj S B q cV A (fun _=>rfl) (au.tK n.aC bc);refine ba (I.O (fun bf=>?_));refine G.aj ?_;refine bf ?_;refine I.ret (W ?_);have E:k4 p=0:=by unfold k4;rw[aA (fun h=>by first|exact absurd h.1 V|(rw[h.2]at P;cases P))]
   exact⟨_,_,by rw[M,E];rfl,by rw[M,E];exact n,bd,j⟩
end sI
namespace xw
open ho
open Go.Sort Go.Shelf
theorem xV(a b:aD):blt a b↔a<b:=by unfold blt;rw[bytesLess_eq,decide_eq_true_iff]
theorem Mh{a b:aD}(h:a≤b):¬blt b a:=by rw[xV];exact List.not_lt.2 h
theorem z1{l m:List aD}(aB:l.Nodup)(h:m=l.mergeSort (fun x y=>decide (x≤y))):h7 m∧m.Perm l:=by
 subst h;have n:=List.mergeSort_perm l (fun x y=>decide (x≤y))
 have ag:(l.mergeSort (fun x y=>decide (x≤y))).Pairwise (fun x y=>decide (x≤y)=true):=List.pairwise_mergeSort (le:=fun x y:List UInt8=>decide (x≤y)) (fun a b c d ab=>by
  simp only[km]at*;exact List.le_trans d ab) (fun a b=>by
  simp only[vv,km];exact List.le_total a b) l
 have j:(l.mergeSort (fun x y=>decide (x≤y))).Nodup:=n.nodup_iff.2 aB;refine⟨?_,n⟩;unfold h7;rw[tg]at j;refine(ag.and j).imp (fun{x y} h=>?_);obtain⟨d,ab⟩:=h;refine mb (fun q=>ab (oH q ?_));simp only[km]at d;exact Mh d
theorem yq:∀l:List aD,l.flatMap ft=l.map aN
 |[]=>rfl
 |x::l=>by rw[lD,yq l];rfl
theorem M4(d:Array aD)(cur:Array Value)(h:d.size≤cur.size):(putCells encStr 0 d cur).size=cur.size∧(putCells encStr 0 d cur).toList.take d.size=d.toList.flatMap ft:=by
 refine⟨by simp[putCells],?_⟩;rw[yq];apply yK;intro i;rw[List.getElem?_take];split
 ·rename_i j
  rw[Array.getElem?_toList,List.getElem?_map,Array.getElem?_toList,Array.getElem?_eq_getElem (by simp[putCells];omega),Array.getElem?_eq_getElem j];simp only[putCells,Array.getElem_mapIdx,iT,jL,true_and,td];rw[aM j,getElem!_pos d i j];rfl
 ·rw[List.getElem?_map,Array.getElem?_toList,Array.getElem?_eq_none J];rfl
theorem zZ(k:Nat)(v:Value)(l:List aD)(w0:World)(H:Heap)(h:aY k 9 H ft 1 v l)(Z:l.length<4611686018427387904):
 aE Tryz.prog w0 134 #[v] H (fun r G=>∃R:List aD,∃a_:Nat,r= .tuple #[]∧aY a_ 9 G ft 1 v R∧ae k H.size a_∧R=l.mergeSort (fun x y=>decide (x≤y))∧aa (ay [k]) H G):=by
 intro w A;rcases h.own.ex with⟨C,ag⟩|⟨d,cap,cur,C,O,P,S,ab,I,U⟩
 ·subst C ag
  exact(Any.slices_Sort_string_none Tryz.lays190 none 0 w).mono (fun e ai ⟨he,hw⟩=>⟨_,H,he,by rw[hw];exact A,[],k,o,h,ae.refl _ _,by simp,aa.refl _ _⟩)
 ·obtain⟨E,bz,Q⟩:=id P
  have F:w.heap[d]?=some (.cells cur 9 E):=by rw[A.heap];exact bz
  have hle:l.length≤cur.size:=by rw[I];omega
  have W:Holds encStr w d 0 l.toArray:=by
   intro j N;have Y:j<l.length:=by simpa using N
   have aq:cur[j]?=some (aN l[j]):=by
    have:(cur.toList.take (l.length*1))[j]?=(l.flatMap ft)[j]?:=by rw[U]
    rw[List.getElem?_take,aM J,Array.getElem?_toList,yq]at this;rw[this,List.getElem?_map,List.getElem?_eq_getElem Y];rfl
   refine⟨?_,?_⟩
   ·simp only[World.cell?,F,jL,Option.isSome_none,lF,if_false,id_eq]
    rw[aq,getElem!_pos l.toArray j N];rfl
   ·have:=Q.2 j J
    simp only[World.frozen?,F,jL]
    simpa using this
  have M:d<w.heap.size:=by rw[A.heap];exact P.lt
  have L:=Any.slices_Sort_string Tryz.lays190 d 0 cap l w W M Z;rw[←C]at L;refine L.mono ?_;rintro iP ai ⟨he,n,os,rfl⟩;have ah:(l.mergeSort fun x y=>decide (x≤y)).length=l.length:=List.length_mergeSort l;obtain⟨K,V⟩:=M4 (l.mergeSort fun x y=>decide (x≤y)).toArray cur (by simp;exact hle);have B:(grow (putRow encStr (Sort.ahead w n) d 0 (l.mergeSort fun x y=>decide (x≤y)).toArray) os).heap=w.heap.modify d (onCells (putCells encStr 0 (l.mergeSort fun x y=>decide (x≤y)).toArray))++os:=rfl
  have X:(grow (putRow encStr (Sort.ahead w n) d 0 (l.mergeSort fun x y=>decide (x≤y)).toArray) os).heap[d]?=some (.cells (putCells encStr 0 (l.mergeSort fun x y=>decide (x≤y)).toArray cur) 9 E):=by
   rw[B,Array.getElem?_append_left (by simpa using M),Array.getElem?_modify,aM o,F];rfl
  refine⟨_,(grow (putRow encStr (Sort.ahead w n) d 0 (l.mergeSort fun x y=>decide (x≤y)).toArray) os).heap,he,⟨o,A.os,A.tape,A.output,fg A.hg (Nat.le_add_right _ _)⟩,_,k,o,⟨⟨oL,py,.inr ⟨d,cap,_,by rw[ah];exact C,O,⟨E,X,by rw[K];exact Q⟩,by rw[ah];exact S,ab,by rw[K];exact I,?_⟩⟩,?_⟩,ae.refl _ _,o,?_,?_⟩
  ·simpa using V
  ·rw[B]
   have:=h.le;simp[A.heap];omega
  ·rw[B];simp[A.heap]
  ·intro b ao aB
   have af:d≠b:=fun q=>aB (by unfold ay;rw[←q];simp[O]);rw[B,Array.getElem?_append_left (by simp[A.heap,ao]),Array.getElem?_modify,aA af,A.heap]
end xw
namespace xx
open ho pf xw
def lM:Code→Code
 | .seq _ (.seq (.seq _ (.block _ c)) _)=>c
 |_=> .skip
def qi:Code→Code
 | .rangeFunc _ _ c _=>c
 |_=> .skip
def qm:Code→Code
 | .rangeFunc _ _ _ c=>c
 |_=> .skip
structure p8 (r:Loop) (bw:Nat):Prop where
 st:r.state= .ready
 wC:r.pending=none
 dh:r.params= #[7]
 A:r.assign=qi (lM (Tryz.f196.body.getD .skip))
 B:r.body=qm (lM (Tryz.f196.body.getD .skip))
 ta:Fr Tryz.f196.ntmps [(2,.pointer (some ⟨bw,0,none⟩))] {tmps:=r.tmps,defers:=[]}
theorem xN(r:Loop)(bw bb q:Nat)(af:Value)(R:List aD)(x:aD)(w0:World)(H:Heap)(B:p8 r bw)(G:gJ H bb r)(j:Var 69 H bw [af])(A:aY q 9 H ft 1 af R)(d1:ak (bb+1) (bw+1))(d2:ak (bb+1) q)(d3:ak (bw+1) q)(hlen:R.length≤1099511627776):
 sK Tryz.prog w0 bb [aN x] H (fun aF E=>∃ag:Value,∃Z:Nat,aF= .bool true∧gJ E bb r∧Var 69 E bw [ag]∧aY Z 9 E ft 1 ag (R++[x])∧ae q H.size Z∧aa (ay [bb+1,bw+1,q]) H E):=by
 have aB:=B.ta.put (d:=7) o (aN x);refine sK.of G B.st B.wC B.dh (B.A.trans o) (B.B.trans o) aB ?_;have W:bb≠bw:=d1.ne;have aK:=G.lt;have aH:=j.lt;have aL:=A.le;have hm:=aa.refl (ay [bb+1,bw+1,q]) H;refine fa.v gp (by intro c e;cases e) cS rfl rfl ?_;refine fa.nil (fun a w V M=>⟨o,_,H,V,M,G,?_⟩);have P:aa (fun c=>c=bb) H (H.setIfInBounds bb (.loop {r with state:= .busy})):=lb _;have n:gJ (H.setIfInBounds bb (.loop {r with state:= .busy})) bb {r with state:= .busy}:=⟨by simp[G.lt]⟩;obtain⟨F,az⟩:∃F,F=H.setIfInBounds bb (.loop {r with state:= .busy}):=⟨_,o⟩;rw[←az]at P n⊢;have Q:=P.e3;have hm:=hm.bt Q (ar.cons (an.root bl) ar.nil);have j:=j.aJ Q (au.cons (ak.of (kj W)) au.nil);have A:=A.aJ Q (au.T d2.symm);have aT:=P.size;refine fa.v (bf j.W uH) (by intro c e;cases e) cS rfl rfl ?_;refine fa.v gj (by intro c e;cases e) cS rfl rfl ?_;refine fa.z (dE _ ([x]) vt oL py) (by intro c e;cases e) cS rfl rfl ?_;rintro v10 U ⟨aE,I,aU,ax⟩;have aQ:U.size=F.size+1:=by rw[ax];simp
 have hm:=hm.q5 I;have n:=n.aR I;have j:=j.aR I;have A:=A.aR I;have aJ:ak q (F.size+1):=ak.new J;have aP:=A.le;refine fa.z (eO A aE.rd vt b2 b2) (by intro c e;cases e) cS rfl rfl ?_;rintro v11 aG ⟨K,L,C,X⟩;have C:ae q U.size K:=C;have N:=X.md;have hm:=hm.bt N (ar.cons (an.root bl) ar.nil);have n:=n.aJ N (au.T d2);have j:=j.aJ N (au.T d3);have aR:=X.size;have av:ak (bw+1) K:=ak.app d3 J C;have dl:ak (bb+1) K:=ak.app d2 J C;obtain⟨aV,aC⟩:∃s:aO,v11=s.v:=⟨cF v11,L.bA.symm⟩;refine fa.s (S.p5 j 0 ([v11]) o o o (by rw[aC];rfl) N5 bl o) (by intro c e;cases e) cS rfl ?_;rintro ai ⟨j,Y⟩;have O:=Y.e3;have hm:=hm.bt O (ar.cons (an.root bl) ar.nil);have n:=n.aJ O (au.T d1);have L:=L.aJ O (au.T av.symm);have aS:=Y.size;refine fa.nil (fun a w V M=>⟨o,ai,M,n,v11,K,o,?_,?_,?_,?_,?_⟩)
 ·exact⟨by simp[n.lt]⟩
 ·exact j.aJ (aa.e3 (lb (r:=bb) _)) (au.cons (ak.of (kj W)) au.nil)
 ·exact L.aJ (aa.e3 (lb (r:=bb) _)) (au.T dl.symm)
 ·unfold ae at C⊢;omega
 ·exact hm.bt (aa.e3 (lb (r:=bb) _)) (ar.cons (an.root bl) ar.nil)
theorem Fr.start{n:Nat}{args:List Value}(j:args.length≤n):Fr n (nF args 0) {tmps:=args.toArray++Array.replicate (n-args.toArray.size) undef,defers:=[]}:=by
 refine⟨o,?_,?_⟩
 ·simp;omega
 ·intro t v e
  obtain⟨_,ab⟩:=xQ args 0 t v e;simp only[td]at ab;simp only;have d:=(List.getElem?_eq_some_iff.1 ab).1;rw[Array.getElem?_append_left (by simpa using d)]
  simpa using ab
theorem re.v{P:Program}{w0:World}{Q:Exit→Act→World→Prop}{n:Nat}{l:cm}{H:Heap}{ops:Array Oper}{rest:List Oper}{T:Oper}{ds:List Deferred}{v:Value}{d:Nat}(hy:Y P w0 n l H T v)(x:∀c,T.op≠ .defer c)(hw:dr ops l T)(ah:T.dst=some d)(aB:Nat.blt d n=true)
 (h:∀a w,Fr n ((d,v)::l) a→At w0 H w→wpListIn (p_ none) 0 P ops Q rest {a with defers:=ds} w):∀a w,Fr n l a→At w0 H w→wpListIn (p_ none) 0 P ops Q (T::rest) {a with defers:=ds} w:=by
 intro a w j q;have r:=j.put aB v;rw[←ah]at r;unfold wpListIn;rw[aM (hw n a j)];refine⟨fun _ _=>trivial,?_⟩;rw[Oper.semAt_eq _ _ _ x];show Oper.uponIn _ _ _ _ _ _ _ ((execOp a.eval T).run P w);rw[hy a w j q,Oper.uponIn_value];have ab:=h _ w r q;have e:({a with defers:=ds}:Act).put T.dst v={(a.put T.dst v)with defers:=ds}:=by rw[ah];rfl
 rw[e];exact ab
theorem KS(Q:Loop)(bb bw F bE D A:Nat)(V:Value)(fv:Nat→Value)(L:List (aD×Nat))(w0:World)(N:Heap)
 (aH:Var 95 N F [.map (some bE)])(q:cW N aN fv bE L)(bG:iq N D)(n:gJ N bb Q)(j:Var 69 N bw [V])(d:aY A 9 N ft 1 V [])(bQ:p8 Q bw)(ca:L.length≤1099511627776)(bz:ak (bb+1) (bw+1))(bA:ak (bb+1) A)(bx:ak (bw+1) A)(b8:ak (F+1) (bb+1))(b7:ak (F+1) (bw+1))(b9:ak (F+1) A)(bD:ak (bE+1) (bb+1))(bC:ak (bE+1) (bw+1))(bF:ak (bE+1) A)(b5:ak (D+1) (bb+1))(b4:ak (D+1) (bw+1))(b6:ak (D+1) A):
 aE Tryz.prog w0 155 #[.func (.yield bb) #[] #[],.pointer (some ⟨F,0,none⟩)] N (fun r R=>∃aL:Value,∃aK:Nat,∃out:List aD,r= .tuple #[]∧gJ R bb Q∧Var 69 R bw [aL]∧aY aK 9 R ft 1 aL out∧ae A N.size aK∧(out.Nodup∧∀k,k∈out↔k∈L.map (·.1))∧aa (ay [(bb+1),(bw+1),A]) N R):=by
 refine aE.enter (args:=[.func (.yield bb) #[] #[],.pointer (some ⟨F,0,none⟩)]) Tryz.func155 o o o ?_;intro bX bR;have C:aa (ay [(bb+1),(bw+1),A]) N N:=aa.refl _ _;have b0:=aH.lt;have a7:=q.lt;have b1:=bG.lt;have bo:=ae.refl (bb+1) N.size;have b2:=n.lt;have bp:=ae.refl (bw+1) N.size;have b3:=j.lt;have ai:=ae.refl A N.size;have av:=d.le;refine I.O (fun aX=>?_);refine G.v1 (bf aH.W po) ?_;obtain⟨es,bu,q⟩:=q.raw;refine G.aU (Z.ey (Z.sq q o q7 o)) ?_;rintro v5 O ⟨rfl,it,aZ,_⟩;have W:=ak.new q.lt;have X:=ak.new n.lt;have af:=ak.new j.lt;have a6:=ak.new d.le;have ag:=ae.new C.size;obtain⟨q,n,j,d,C,_⟩:=dH aZ q n j d C;have bZ:=it.lt;refine G.nil (aX (I.aC (fun _ a8 _=>?_)))
 refine I.bb (fun(bU:(List aD)×Value×Nat)=>match bU with|(dn,M,E)=>[(0,.func (.yield bb) #[] #[]),(5,.pointer (some ⟨N.size,0,none⟩))])
  (fun(dn,M,E) (H:Heap)=>(h6 H N.size bE aN es bu dn)∧gJ H bb Q∧Var 69 H bw [M]∧aY E 9 H ft 1 M dn∧(dn.Nodup∧∀k∈dn,k∈L.map (·.1))∧ae A O.size E∧ak (N.size+1) E∧ak (bb+1) E∧ak (bw+1) E∧aa (ay [(N.size+1),(bb+1),(bw+1),A]) O H)
  (fun(dn,M,E)=>L.length-dn.length) ([],V,A) ⟨o,o,trivial⟩ ?_ ?_
 ·
  exact⟨it,n,j,d,⟨qB,by simp⟩,ae.refl _ _,a6.symm,bA,bx,aa.refl _ _⟩
 rintro⟨dn,M,E⟩ a2 a_ pb ba bc;obtain⟨it,n,j,d,K,ax,bq,bt,az,B⟩:=a_;have aO:=ae.O ai ax C.size;have q:=q.aJ B (au.cons W (au.cons bD (au.cons bC (au.T bF))));have C:=C.bt B (ar.cons (an.q ag) (ar.cons (an.r bo) (ar.cons (an.r bp) (ar.T (an.r ai)))));have a3:=B.size;have av:=d.le;have S:=bq;have aB:=bt;have aC:=az;have ac:=ae.refl (N.size+1) O.size;have ad:=ae.refl (bb+1) O.size;have bn:=ae.refl (bw+1) O.size;have aF:=ax;have bM:=jM K.1 K.2;rw[dg]at bM;refine I.O (fun bd=>?_);refine G.aU (Z.si it q gx.inj o o) ?_;rintro v6 bW ⟨cb,x,y,b_,rfl,it,bJ,bH,bg⟩;obtain⟨q,d,n,j,C,B,_⟩:=mn bg q W d S.symm n X j af C (an.q ag) B (an.r ac);refine G.v1 (Y.rF o o) (G.nil (bd ?_));refine I.t2 (fun bj bk=>?_);refine dm (fun c5=>?_) (fun c5=>?_)
 ·
  obtain⟨aJ,bO,aG⟩:=bJ c5;rw[aG]at it;refine I.skip (bj (I.aC (fun bl _ _=>I.O (fun bm=>?_))));refine G.v1 (Y.rE it q gx.inj aJ o o) ?_;refine G.v1 c3 ?_;refine G.aj ?_;refine bm (I.t1 (fun a0=>?_));refine I.zO ?_;refine fa.v gj (by intro c e;cases e) cS rfl rfl ?_;refine fa.v gj (by intro c e;cases e) cS rfl rfl ?_;refine fa.round o o o cS o o (xN Q bw bb _ _ dn x w0 _ bQ n j d bz aB aC J) (fun a4 a5 bB=>?_);have aP:=it.lt;have aQ:=n.lt;have aR:=j.lt;obtain⟨bV,bS,rfl,n,j,d,am,ap⟩:=bB;have aS:=ak.app S aP am;have aU:=ak.app aB aQ am;have aV:=ak.app aC aR am;have aW:=ae.O aF am B.size;have it:=it.aJ ap (au.cons X.symm (au.cons af.symm (au.T S)));have B:=B.bt ap (ar.cons (an.r ad) (ar.cons (an.r bn) (ar.T (an.r aF))));have bY:=ap.size;have av:=d.le;refine fa.v fB (by intro c e;cases e) cS rfl rfl ?_;refine fa.nil ?_;refine a0 ?_;refine dZ ?_;refine I.skip (bl ?_)
  have U:(dn++[x]).Nodup∧∀k∈dn++[x],k∈L.map (·.1):=by
   refine⟨?_,fun k P=>?_⟩
   ·rw[nY]
    exact⟨K.1,by simp,fun a bK b ao e=>by simp only[eU]at ao;subst ao;subst e;exact bO bK⟩
   ·rcases gG.1 P with P|P
    ·exact K.2 k P
    ·rw[eU.1 P];exact cN.2 ⟨_,aJ,o⟩
  have bN:=jM U.1 U.2;rw[bT,dg,iU]at bN;refine aT.sub (ba (dn++[x],bV,bS) _ ?_ ?_) ⟨o,o,trivial⟩
  ·exact⟨it,n,j,d,U,aW,aS,aU,aV,B⟩
  ·simp only[bT,iU];omega
 ·
  obtain⟨bL,aG⟩:=bH c5;refine I.exit (bk (bc (a8 ?_)));refine bR .normal (.inl o) _ _ _ (jt o) ?_;exact⟨M,E,dn,o,n,j,d,aO,⟨K.1,fun k=>⟨K.2 k,fun h=>by obtain⟨p,bP,rfl⟩:=cN.1 h;exact bL p bP⟩⟩,C⟩
theorem Hb(j bE:Nat)(fv:Nat→Value)(W:List (aD×Nat))(w0:World)(N:Heap)(E:Var 95 N j [.map (some bE)])(C:cW N aN fv bE W)(bw:W.length≤1099511627776):
 aE Tryz.prog w0 196 #[.slice none 0 0,.func (.func 155) #[] #[.pointer (some ⟨j,0,none⟩)]] N (fun r aP=>∃s:aO,∃k:Nat,∃out:List aD,r=s.v∧aY k 9 aP ft 1 s.v out∧ae 0 N.size k∧(out.Nodup∧∀k,k∈out↔k∈W.map (·.1))∧al N aP):=by
 intro w bj;refine callsIn_wide.1 (callsIn_of_wp_marks (n:=0) Tryz.func196 o trivial ?_);have bm:=Fr.start (n:=Tryz.f196.ntmps) (args:=[.slice none 0 0,.func (.func 155) #[] #[.pointer (some ⟨j,0,none⟩)]]) (iS o);refine wpIn_seq (wpIn_wide.2 ?_);refine(I.region (w0:=w0) (H:=N) (n:=Tryz.f196.ntmps) (l:=nF [.slice none 0 0,.func (.func 155) #[] #[.pointer (some ⟨j,0,none⟩)]] 0) ?_) _ w bm bj;refine G.aU (Z.nI o o o) ?_;rintro v2 H1 ⟨rfl,av,aK,bO,bd⟩;have bK:H1.size=N.size+1:=by rw[bd];simp
 have bJ:=E.lt;have bH:=C.lt;have E:=E.aR aK;have C:=C.aR aK;refine G.bB ?_;refine G.nil (fun bB aG bn bk=>?_);show(Code.seq _ _).wpIn Fence.wide 0 _ _ bB aG;refine wpIn_seq (wpIn_seq (wpIn_wide.2 ?_));refine(I.region (w0:=w0) (H:=H1) ?_) bB aG bn bk;refine G.af ?_;refine G.nil (fun a2 d L aT=>?_);show(Code.block _ _).wpIn Fence.wide 0 _ _ a2 d;refine wpIn_block (wpIn_rangeFunc (fun fn _=>?_));obtain⟨rc,aX⟩:∃rc:Loop,rc={state:= .ready,pending:=none,fn,tmps:=a2.tmps,params:= #[7],assign:=qi (lM (Tryz.f196.body.getD .skip)),body:=qm (lM (Tryz.f196.body.getD .skip)),defers:=d.heap.size}:=⟨_,o⟩
 have a7:(Instr.enterLoop fn a2.tmps #[7] (qi (lM (Tryz.f196.body.getD .skip))) (qm (lM (Tryz.f196.body.getD .skip))) none).run Tryz.prog d= .ok (d.heap.size+1,[{target:= .collected d.heap.size,args:= #[]}]) ((d.alloc (.deferred (some []))).alloc (.loop rc)):=by
  rw[aX];exact run_enterLoop_outer fn a2.tmps #[7] _ _
 have aB:At w0 ((H1.push (.deferred (some []))).push (.loop rc)) ((d.alloc (.deferred (some []))).alloc (.loop rc)):=(aT.alloc _).alloc _;obtain⟨O,bA⟩:∃O,O=(d.alloc (.deferred (some []))).alloc (.loop rc):=⟨_,o⟩;rw[←bA]at a7 aB;obtain⟨A,K⟩:∃A,A=(H1.push (.deferred (some []))).push (.loop rc):=⟨_,o⟩;rw[←K]at aB;have bL:A.size=H1.size+2:=by rw[K];simp
 have M:d.heap.size=H1.size:=by rw[aT.heap]
 have R:al H1 A:=by rw[K];exact(al.pu _ _).O (al.pu _ _)
 have E:=E.aR R;have C:=C.aR R;have av:=av.aR R;have aS:iq A H1.size:=⟨by rw[K,Array.getElem?_push,aA bl];exact Array.getElem?_push_size⟩
 have bp:gJ A (H1.size+1) rc:=⟨by
  have aR:=Array.getElem?_push_size (xs:=H1.push (.deferred (some []))) (x:=Obj.loop rc);rw[yU,←K]at aR;exact aR⟩
 have aH:p8 rc N.size:=by
  subst aX;exact⟨o,o,o,o,o,⟨o,L.size,fun t v e=>(L.sub (l':=[(2,.pointer (some ⟨N.size,0,none⟩))]) ⟨o,trivial⟩).get t v e⟩⟩
 have bC:∀w,(callFunc 155 #[.func (.yield (H1.size+1)) #[] #[],.pointer (some ⟨j,0,none⟩)]).run Tryz.prog w= .ok (.enter 155 #[.func (.yield (H1.size+1)) #[] #[],.pointer (some ⟨j,0,none⟩)]) w:=fun w=>enters_of Tryz.func155 bD o _ w;refine⟨d.heap.size+1,[{target:= .collected d.heap.size,args:= #[]}],O,{target:= .fn (.func 155) #[.pointer (some ⟨j,0,none⟩)],args:= #[.func (.yield (H1.size+1)) #[] #[]]},O,155,#[.func (.yield (H1.size+1)) #[] #[],.pointer (some ⟨j,0,none⟩)],O,a7,?_,fun _ _=>trivial,?_,fun h=>(by cases h),?_⟩
 ·have bb:=L.get 6 (.func (.func 155) #[] #[.pointer (some ⟨j,0,none⟩)]) o
  rw[M];simp[resolve,rangeCall,Deferred.ofValue,Act.eval,bb]
 ·exact bC _
 refine callsIn_wide.2 ((KS rc (H1.size+1) N.size j bE H1.size 0 (.slice none 0 0) fv W w0 A E C aS bp av (aY.nil oL py) aH bw gQ ak.z ak.z gQ gQ ak.z gQ gQ ak.z gQ gQ ak.z _ aB).mono ?_);rintro e aL ⟨fQ,F,rfl,aC,Y,a_,out,rfl,bq,ax,X,aW,bx,aJ⟩;have az:iq F H1.size:=aS.aJ aJ (au.cons gQ (au.cons gQ (au.T ak.z)));have bt:aL.heap[d.heap.size+1]?=some (.loop rc):=by rw[aC.heap,M];exact bq.at_
 have aZ:rc.pending=none:=aH.wC;have aV:=run_endLoop (P:=Tryz.prog) bt (by rw[aH.st];simp);rw[aZ]at aV;refine⟨none,_,aV,?_⟩;have U:aa (fun c=>c=H1.size+1) F (F.setIfInBounds (H1.size+1) (.loop {rc with state:= .exhausted})):=lb _
 have Q:At w0 (F.setIfInBounds (H1.size+1) (.loop {rc with state:= .exhausted})) (aL.putObj (d.heap.size+1) (.loop {rc with state:= .exhausted})):=by
  unfold World.putObj;rw[aC.heap,M];exact aC.set
 rw[aZ]at U Q;obtain⟨af,a8⟩:∃af,af=aL.putObj (d.heap.size+1) (.loop {rc with state:= .exhausted,pending:=none}):=⟨_,o⟩;obtain⟨B,bg⟩:∃B,B=F.setIfInBounds (H1.size+1) (.loop {rc with state:= .exhausted,pending:=none}):=⟨_,o⟩;rw[←a8]at Q;rw[←bg]at U Q;rw[←a8];have bM:=aJ.size;have bN:=U.size;have V:=U.e3;have aQ:∀c,c+1≤A.size→ak a_ (c+1):=fun c aq q bG ab=>by unfold ae at aW;omega
 have ax:=ax.aJ V (au.cons gQ au.nil);have X:=X.aJ V (au.cons (aQ _ J) au.nil);have az:=az.aJ V (au.cons gQ au.nil)
 have bu:aa (ay []) N B:=by
  have bF:=((aa.refl (S:=ay []) N).q5 aK).q5 R;have bh:=bF.bt aJ (ar.cons o6 (ar.cons (an.new (dz _)) (ar.cons an.z ar.nil)));exact bh.bt V (ar.cons o6 ar.nil)
 show(Code.seq _ _).wpIn Fence.wide 0 _ _ _ af;refine wpIn_seq (wpIn_region_lit ?_);refine re.v (w0:=w0) (H:=B) (bf ax.W uH) (by intro c e;cases e) cS rfl rfl ?_ a2 af L Q;refine re.v (w0:=w0) (H:=B) gp (by intro c e;cases e) cS rfl rfl ?_;intro ba ai bo aF;show Code.ret.wpIn Fence.wide 0 _ _ _ ai;refine wpIn_ret ?_;show LeavesInM Fence.wide 0 _ _ ba.tmps _ ([{target:= .collected d.heap.size,args:= #[]}]++a2.defers) .returning ai;rw[L.defers,hi];have bc:ai.heap[d.heap.size]?=some (.deferred (some [])):=by rw[aF.heap,M];exact az.at_
 refine⟨by simp,.inl ⟨_,_,o,run_takeDeferred (P:=Tryz.prog) bc,?_⟩⟩;have bz:aa (fun c=>c=H1.size) B (B.setIfInBounds H1.size (.deferred none)):=lb _
 have aU:At w0 (B.setIfInBounds H1.size (.deferred none)) (ai.putObj d.heap.size (.deferred none)):=by
  unfold World.putObj;rw[aF.heap,M];exact aF.set
 have a6:=bz.e3;obtain⟨s,ag⟩:∃s:aO,Y=s.v:=⟨cF Y,X.bA.symm⟩;refine⟨Y,wF o o _ _ bo aU,Y,_,o,aU,s,a_,out,ag,?_,?_,bx,?_⟩
 ·rw[←ag];exact X.aJ a6 (au.cons (aQ _ J) au.nil)
 ·unfold ae at aW⊢;omega
 ·exact(bu.bt a6 (ar.cons o6 ar.nil)).nil
theorem Jo(d bE:Nat)(fv:Nat→Value)(n:List (aD×Nat))(w0:World)(N:Heap)
 (L:Var 95 N d [.map (some bE)])(K:cW N aN fv bE n)(E:n.length≤1099511627776):
 aE Tryz.prog w0 133 #[.func (.func 155) #[] #[.pointer (some ⟨d,0,none⟩)]] N (fun r q=>∃s:aO,∃k:Nat,∃out:List aD,r=s.v∧aY k 9 q ft 1 s.v out∧ae 0 N.size k∧(out.Nodup∧∀k,k∈out↔k∈n.map (·.1))∧al N q):=by
 refine aE.aP [.func (.func 155) #[] #[.pointer (some ⟨d,0,none⟩)]] Tryz.func133 ?_;intro Q H;have j:al N N:=aa.refl _ _;refine I.O (fun x=>?_);refine G.aj ?_;refine x (I.O (fun A=>?_));refine G.af ?_;refine aW x1 (Hb d bE fv n w0 _ L K E) ?_;rintro v4 P ⟨ey,M,O,rfl,ac,ad,F,B⟩;have C:=ae.O (ae.refl 0 _) ad j.size;have j:=j.O B;refine G.aj ?_;refine A ?_;refine I.ret (H ?_);exact⟨ey,M,O,o,ac,C,F,j⟩
theorem KV(bE:Nat)(w0:World)(N:Heap)
 :
 aE Tryz.prog w0 76 #[.map (some bE)] N (fun r q=>∃d:Nat,r= .func (.func 155) #[] #[.pointer (some ⟨d,0,none⟩)]∧Var 95 q d [.map (some bE)]∧ae 0 N.size (d+1)∧al N q):=by
 refine aE.aP [.map (some bE)] Tryz.func76 ?_;intro C B;have j:al N N:=aa.refl _ _;refine I.O (fun x=>?_);refine G.aU (Z.nI o o o) ?_;rintro v1 H1 ⟨rfl,n,A,ad,E⟩;have j:=j.O A;have n:Var 95 H1 N.size ([.map (some bE)]):=n;refine G.aj ?_;refine x (I.O (fun ac=>?_));refine G.v1 (Y.makeFunc o o) ?_;refine G.aj ?_;refine ac ?_;refine I.ret (B ?_);exact⟨_,o,n,ae.new (dz _),j⟩
theorem Oi(j bE:Nat)(fv:Nat→Value)(q:List (aD×Nat))(w0:World)(N:Heap)
 (C:Var 95 N j [.map (some bE)])(B:cW N aN fv bE q)(Q:q.length≤1099511627776):
 aE Tryz.prog w0 57 #[.func (.func 155) #[] #[.pointer (some ⟨j,0,none⟩)]] N (fun r A=>∃s:aO,∃k:Nat,∃out:List aD,r=s.v∧aY k 9 A ft 1 s.v out∧ae 0 N.size k∧(h7 out∧∀k,k∈out↔k∈q.map (·.1))∧al N A):=by
 refine aE.aP [.func (.func 155) #[] #[.pointer (some ⟨j,0,none⟩)]] Tryz.func57 ?_;intro ak W;have d:al N N:=aa.refl _ _;have ax:=C.lt;have av:=B.lt;refine I.O (fun E=>?_);refine G.aj ?_;refine E (I.O (fun F=>?_));refine G.af ?_;refine aW uS (Jo j bE fv q w0 _ C B Q) ?_;rintro v5 ag ⟨af,X,Z,rfl,x,H,n,K⟩;have ad:=ae.O (ae.refl 0 _) H d.size;obtain⟨d,_⟩:=b6 K d;have ac:=x.le;have R:=jM n.1 (fun k P=>(n.2 k).1 P);rw[dg]at R;refine G.aj ?_;refine F (I.O (fun L=>?_));refine G.af ?_;refine aW xY (zZ X _ Z w0 _ x J) ?_;rintro ay ai ⟨Y,a_,rfl,x,M,V,O⟩;have az:=ae.O ad M d.size;have d:=d.gn O (ar.T (an.q ad));refine G.nil (L (I.O (fun am=>?_)));refine G.aZ 2 ?_;refine am ?_;refine I.ret (W ?_);obtain⟨S,U⟩:=z1 n.1 V;exact⟨af,a_,Y,o,x,az,⟨S,fun k=>by rw[U.mem_iff,n.2]⟩,d⟩
theorem KT(Q:Loop)(bb bw F bE D A:Nat)(V:Value)(fv:Nat→Value)(L:List (aD×Nat))(w0:World)(N:Heap)
 (aH:Var 168 N F [.map (some bE)])(q:cW N aN fv bE L)(bG:iq N D)(n:gJ N bb Q)(j:Var 69 N bw [V])(d:aY A 9 N ft 1 V [])(bQ:p8 Q bw)(ca:L.length≤1099511627776)(bz:ak (bb+1) (bw+1))(bA:ak (bb+1) A)(bx:ak (bw+1) A)(b8:ak (F+1) (bb+1))(b7:ak (F+1) (bw+1))(b9:ak (F+1) A)(bD:ak (bE+1) (bb+1))(bC:ak (bE+1) (bw+1))(bF:ak (bE+1) A)(b5:ak (D+1) (bb+1))(b4:ak (D+1) (bw+1))(b6:ak (D+1) A):
 aE Tryz.prog w0 157 #[.func (.yield bb) #[] #[],.pointer (some ⟨F,0,none⟩)] N (fun r R=>∃aL:Value,∃aK:Nat,∃out:List aD,r= .tuple #[]∧gJ R bb Q∧Var 69 R bw [aL]∧aY aK 9 R ft 1 aL out∧ae A N.size aK∧(out.Nodup∧∀k,k∈out↔k∈L.map (·.1))∧aa (ay [(bb+1),(bw+1),A]) N R):=by
 refine aE.enter (args:=[.func (.yield bb) #[] #[],.pointer (some ⟨F,0,none⟩)]) Tryz.func157 o o o ?_;intro bX bR;have C:aa (ay [(bb+1),(bw+1),A]) N N:=aa.refl _ _;have b0:=aH.lt;have a7:=q.lt;have b1:=bG.lt;have bo:=ae.refl (bb+1) N.size;have b2:=n.lt;have bp:=ae.refl (bw+1) N.size;have b3:=j.lt;have ai:=ae.refl A N.size;have av:=d.le;refine I.O (fun aX=>?_);refine G.v1 (bf aH.W oB) ?_;obtain⟨es,bu,q⟩:=q.raw;refine G.aU (Z.ey (Z.sq q o p0 o)) ?_;rintro v5 O ⟨rfl,it,aZ,_⟩;have W:=ak.new q.lt;have X:=ak.new n.lt;have af:=ak.new j.lt;have a6:=ak.new d.le;have ag:=ae.new C.size;obtain⟨q,n,j,d,C,_⟩:=dH aZ q n j d C;have bZ:=it.lt;refine G.nil (aX (I.aC (fun _ a8 _=>?_)))
 refine I.bb (fun(bU:(List aD)×Value×Nat)=>match bU with|(dn,M,E)=>[(0,.func (.yield bb) #[] #[]),(5,.pointer (some ⟨N.size,0,none⟩))])
  (fun(dn,M,E) (H:Heap)=>(h6 H N.size bE aN es bu dn)∧gJ H bb Q∧Var 69 H bw [M]∧aY E 9 H ft 1 M dn∧(dn.Nodup∧∀k∈dn,k∈L.map (·.1))∧ae A O.size E∧ak (N.size+1) E∧ak (bb+1) E∧ak (bw+1) E∧aa (ay [(N.size+1),(bb+1),(bw+1),A]) O H)
  (fun(dn,M,E)=>L.length-dn.length) ([],V,A) ⟨o,o,trivial⟩ ?_ ?_
 ·
  exact⟨it,n,j,d,⟨qB,by simp⟩,ae.refl _ _,a6.symm,bA,bx,aa.refl _ _⟩
 rintro⟨dn,M,E⟩ a2 a_ pb ba bc;obtain⟨it,n,j,d,K,ax,bq,bt,az,B⟩:=a_;have aO:=ae.O ai ax C.size;have q:=q.aJ B (au.cons W (au.cons bD (au.cons bC (au.T bF))));have C:=C.bt B (ar.cons (an.q ag) (ar.cons (an.r bo) (ar.cons (an.r bp) (ar.T (an.r ai)))));have a3:=B.size;have av:=d.le;have S:=bq;have aB:=bt;have aC:=az;have ac:=ae.refl (N.size+1) O.size;have ad:=ae.refl (bb+1) O.size;have bn:=ae.refl (bw+1) O.size;have aF:=ax;have bM:=jM K.1 K.2;rw[dg]at bM;refine I.O (fun bd=>?_);refine G.aU (Z.si it q gx.inj o o) ?_;rintro v6 bW ⟨cb,x,y,b_,rfl,it,bJ,bH,bg⟩;obtain⟨q,d,n,j,C,B,_⟩:=mn bg q W d S.symm n X j af C (an.q ag) B (an.r ac);refine G.v1 (Y.rF o o) (G.nil (bd ?_));refine I.t2 (fun bj bk=>?_);refine dm (fun c5=>?_) (fun c5=>?_)
 ·
  obtain⟨aJ,bO,aG⟩:=bJ c5;rw[aG]at it;refine I.skip (bj (I.aC (fun bl _ _=>I.O (fun bm=>?_))));refine G.v1 (Y.rE it q gx.inj aJ o o) ?_;refine G.v1 c3 ?_;refine G.aj ?_;refine bm (I.t1 (fun a0=>?_));refine I.zO ?_;refine fa.v gj (by intro c e;cases e) cS rfl rfl ?_;refine fa.v gj (by intro c e;cases e) cS rfl rfl ?_;refine fa.round o o o cS o o (xN Q bw bb _ _ dn x w0 _ bQ n j d bz aB aC J) (fun a4 a5 bB=>?_);have aP:=it.lt;have aQ:=n.lt;have aR:=j.lt;obtain⟨bV,bS,rfl,n,j,d,am,ap⟩:=bB;have aS:=ak.app S aP am;have aU:=ak.app aB aQ am;have aV:=ak.app aC aR am;have aW:=ae.O aF am B.size;have it:=it.aJ ap (au.cons X.symm (au.cons af.symm (au.T S)));have B:=B.bt ap (ar.cons (an.r ad) (ar.cons (an.r bn) (ar.T (an.r aF))));have bY:=ap.size;have av:=d.le;refine fa.v fB (by intro c e;cases e) cS rfl rfl ?_;refine fa.nil ?_;refine a0 ?_;refine dZ ?_;refine I.skip (bl ?_)
  have U:(dn++[x]).Nodup∧∀k∈dn++[x],k∈L.map (·.1):=by
   refine⟨?_,fun k P=>?_⟩
   ·rw[nY]
    exact⟨K.1,by simp,fun a bK b ao e=>by simp only[eU]at ao;subst ao;subst e;exact bO bK⟩
   ·rcases gG.1 P with P|P
    ·exact K.2 k P
    ·rw[eU.1 P];exact cN.2 ⟨_,aJ,o⟩
  have bN:=jM U.1 U.2;rw[bT,dg,iU]at bN;refine aT.sub (ba (dn++[x],bV,bS) _ ?_ ?_) ⟨o,o,trivial⟩
  ·exact⟨it,n,j,d,U,aW,aS,aU,aV,B⟩
  ·simp only[bT,iU];omega
 ·
  obtain⟨bL,aG⟩:=bH c5;refine I.exit (bk (bc (a8 ?_)));refine bR .normal (.inl o) _ _ _ (jt o) ?_;exact⟨M,E,dn,o,n,j,d,aO,⟨K.1,fun k=>⟨K.2 k,fun h=>by obtain⟨p,bP,rfl⟩:=cN.1 h;exact bL p bP⟩⟩,C⟩
theorem Hc(j bE:Nat)(fv:Nat→Value)(W:List (aD×Nat))(w0:World)(N:Heap)(E:Var 168 N j [.map (some bE)])(C:cW N aN fv bE W)(bw:W.length≤1099511627776):
 aE Tryz.prog w0 196 #[.slice none 0 0,.func (.func 157) #[] #[.pointer (some ⟨j,0,none⟩)]] N (fun r aP=>∃s:aO,∃k:Nat,∃out:List aD,r=s.v∧aY k 9 aP ft 1 s.v out∧ae 0 N.size k∧(out.Nodup∧∀k,k∈out↔k∈W.map (·.1))∧al N aP):=by
 intro w bj;refine callsIn_wide.1 (callsIn_of_wp_marks (n:=0) Tryz.func196 o trivial ?_);have bm:=Fr.start (n:=Tryz.f196.ntmps) (args:=[.slice none 0 0,.func (.func 157) #[] #[.pointer (some ⟨j,0,none⟩)]]) (iS o);refine wpIn_seq (wpIn_wide.2 ?_);refine(I.region (w0:=w0) (H:=N) (n:=Tryz.f196.ntmps) (l:=nF [.slice none 0 0,.func (.func 157) #[] #[.pointer (some ⟨j,0,none⟩)]] 0) ?_) _ w bm bj;refine G.aU (Z.nI o o o) ?_;rintro v2 H1 ⟨rfl,av,aK,bO,bd⟩;have bK:H1.size=N.size+1:=by rw[bd];simp
 have bJ:=E.lt;have bH:=C.lt;have E:=E.aR aK;have C:=C.aR aK;refine G.bB ?_;refine G.nil (fun bB aG bn bk=>?_);show(Code.seq _ _).wpIn Fence.wide 0 _ _ bB aG;refine wpIn_seq (wpIn_seq (wpIn_wide.2 ?_));refine(I.region (w0:=w0) (H:=H1) ?_) bB aG bn bk;refine G.af ?_;refine G.nil (fun a2 d L aT=>?_);show(Code.block _ _).wpIn Fence.wide 0 _ _ a2 d;refine wpIn_block (wpIn_rangeFunc (fun fn _=>?_));obtain⟨rc,aX⟩:∃rc:Loop,rc={state:= .ready,pending:=none,fn,tmps:=a2.tmps,params:= #[7],assign:=qi (lM (Tryz.f196.body.getD .skip)),body:=qm (lM (Tryz.f196.body.getD .skip)),defers:=d.heap.size}:=⟨_,o⟩
 have a7:(Instr.enterLoop fn a2.tmps #[7] (qi (lM (Tryz.f196.body.getD .skip))) (qm (lM (Tryz.f196.body.getD .skip))) none).run Tryz.prog d= .ok (d.heap.size+1,[{target:= .collected d.heap.size,args:= #[]}]) ((d.alloc (.deferred (some []))).alloc (.loop rc)):=by
  rw[aX];exact run_enterLoop_outer fn a2.tmps #[7] _ _
 have aB:At w0 ((H1.push (.deferred (some []))).push (.loop rc)) ((d.alloc (.deferred (some []))).alloc (.loop rc)):=(aT.alloc _).alloc _;obtain⟨O,bA⟩:∃O,O=(d.alloc (.deferred (some []))).alloc (.loop rc):=⟨_,o⟩;rw[←bA]at a7 aB;obtain⟨A,K⟩:∃A,A=(H1.push (.deferred (some []))).push (.loop rc):=⟨_,o⟩;rw[←K]at aB;have bL:A.size=H1.size+2:=by rw[K];simp
 have M:d.heap.size=H1.size:=by rw[aT.heap]
 have R:al H1 A:=by rw[K];exact(al.pu _ _).O (al.pu _ _)
 have E:=E.aR R;have C:=C.aR R;have av:=av.aR R;have aS:iq A H1.size:=⟨by rw[K,Array.getElem?_push,aA bl];exact Array.getElem?_push_size⟩
 have bp:gJ A (H1.size+1) rc:=⟨by
  have aR:=Array.getElem?_push_size (xs:=H1.push (.deferred (some []))) (x:=Obj.loop rc);rw[yU,←K]at aR;exact aR⟩
 have aH:p8 rc N.size:=by
  subst aX;exact⟨o,o,o,o,o,⟨o,L.size,fun t v e=>(L.sub (l':=[(2,.pointer (some ⟨N.size,0,none⟩))]) ⟨o,trivial⟩).get t v e⟩⟩
 have bC:∀w,(callFunc 157 #[.func (.yield (H1.size+1)) #[] #[],.pointer (some ⟨j,0,none⟩)]).run Tryz.prog w= .ok (.enter 157 #[.func (.yield (H1.size+1)) #[] #[],.pointer (some ⟨j,0,none⟩)]) w:=fun w=>enters_of Tryz.func157 bD o _ w;refine⟨d.heap.size+1,[{target:= .collected d.heap.size,args:= #[]}],O,{target:= .fn (.func 157) #[.pointer (some ⟨j,0,none⟩)],args:= #[.func (.yield (H1.size+1)) #[] #[]]},O,157,#[.func (.yield (H1.size+1)) #[] #[],.pointer (some ⟨j,0,none⟩)],O,a7,?_,fun _ _=>trivial,?_,fun h=>(by cases h),?_⟩
 ·have bb:=L.get 6 (.func (.func 157) #[] #[.pointer (some ⟨j,0,none⟩)]) o
  rw[M];simp[resolve,rangeCall,Deferred.ofValue,Act.eval,bb]
 ·exact bC _
 refine callsIn_wide.2 ((KT rc (H1.size+1) N.size j bE H1.size 0 (.slice none 0 0) fv W w0 A E C aS bp av (aY.nil oL py) aH bw gQ ak.z ak.z gQ gQ ak.z gQ gQ ak.z gQ gQ ak.z _ aB).mono ?_);rintro e aL ⟨fQ,F,rfl,aC,Y,a_,out,rfl,bq,ax,X,aW,bx,aJ⟩;have az:iq F H1.size:=aS.aJ aJ (au.cons gQ (au.cons gQ (au.T ak.z)));have bt:aL.heap[d.heap.size+1]?=some (.loop rc):=by rw[aC.heap,M];exact bq.at_
 have aZ:rc.pending=none:=aH.wC;have aV:=run_endLoop (P:=Tryz.prog) bt (by rw[aH.st];simp);rw[aZ]at aV;refine⟨none,_,aV,?_⟩;have U:aa (fun c=>c=H1.size+1) F (F.setIfInBounds (H1.size+1) (.loop {rc with state:= .exhausted})):=lb _
 have Q:At w0 (F.setIfInBounds (H1.size+1) (.loop {rc with state:= .exhausted})) (aL.putObj (d.heap.size+1) (.loop {rc with state:= .exhausted})):=by
  unfold World.putObj;rw[aC.heap,M];exact aC.set
 rw[aZ]at U Q;obtain⟨af,a8⟩:∃af,af=aL.putObj (d.heap.size+1) (.loop {rc with state:= .exhausted,pending:=none}):=⟨_,o⟩;obtain⟨B,bg⟩:∃B,B=F.setIfInBounds (H1.size+1) (.loop {rc with state:= .exhausted,pending:=none}):=⟨_,o⟩;rw[←a8]at Q;rw[←bg]at U Q;rw[←a8];have bM:=aJ.size;have bN:=U.size;have V:=U.e3;have aQ:∀c,c+1≤A.size→ak a_ (c+1):=fun c aq q bG ab=>by unfold ae at aW;omega
 have ax:=ax.aJ V (au.cons gQ au.nil);have X:=X.aJ V (au.cons (aQ _ J) au.nil);have az:=az.aJ V (au.cons gQ au.nil)
 have bu:aa (ay []) N B:=by
  have bF:=((aa.refl (S:=ay []) N).q5 aK).q5 R;have bh:=bF.bt aJ (ar.cons o6 (ar.cons (an.new (dz _)) (ar.cons an.z ar.nil)));exact bh.bt V (ar.cons o6 ar.nil)
 show(Code.seq _ _).wpIn Fence.wide 0 _ _ _ af;refine wpIn_seq (wpIn_region_lit ?_);refine re.v (w0:=w0) (H:=B) (bf ax.W uH) (by intro c e;cases e) cS rfl rfl ?_ a2 af L Q;refine re.v (w0:=w0) (H:=B) gp (by intro c e;cases e) cS rfl rfl ?_;intro ba ai bo aF;show Code.ret.wpIn Fence.wide 0 _ _ _ ai;refine wpIn_ret ?_;show LeavesInM Fence.wide 0 _ _ ba.tmps _ ([{target:= .collected d.heap.size,args:= #[]}]++a2.defers) .returning ai;rw[L.defers,hi];have bc:ai.heap[d.heap.size]?=some (.deferred (some [])):=by rw[aF.heap,M];exact az.at_
 refine⟨by simp,.inl ⟨_,_,o,run_takeDeferred (P:=Tryz.prog) bc,?_⟩⟩;have bz:aa (fun c=>c=H1.size) B (B.setIfInBounds H1.size (.deferred none)):=lb _
 have aU:At w0 (B.setIfInBounds H1.size (.deferred none)) (ai.putObj d.heap.size (.deferred none)):=by
  unfold World.putObj;rw[aF.heap,M];exact aF.set
 have a6:=bz.e3;obtain⟨s,ag⟩:∃s:aO,Y=s.v:=⟨cF Y,X.bA.symm⟩;refine⟨Y,wF o o _ _ bo aU,Y,_,o,aU,s,a_,out,ag,?_,?_,bx,?_⟩
 ·rw[←ag];exact X.aJ a6 (au.cons (aQ _ J) au.nil)
 ·unfold ae at aW⊢;omega
 ·exact(bu.bt a6 (ar.cons o6 ar.nil)).nil
theorem Jp(d bE:Nat)(fv:Nat→Value)(n:List (aD×Nat))(w0:World)(N:Heap)
 (L:Var 168 N d [.map (some bE)])(K:cW N aN fv bE n)(E:n.length≤1099511627776):
 aE Tryz.prog w0 133 #[.func (.func 157) #[] #[.pointer (some ⟨d,0,none⟩)]] N (fun r q=>∃s:aO,∃k:Nat,∃out:List aD,r=s.v∧aY k 9 q ft 1 s.v out∧ae 0 N.size k∧(out.Nodup∧∀k,k∈out↔k∈n.map (·.1))∧al N q):=by
 refine aE.aP [.func (.func 157) #[] #[.pointer (some ⟨d,0,none⟩)]] Tryz.func133 ?_;intro Q H;have j:al N N:=aa.refl _ _;refine I.O (fun x=>?_);refine G.aj ?_;refine x (I.O (fun A=>?_));refine G.af ?_;refine aW x1 (Hc d bE fv n w0 _ L K E) ?_;rintro v4 P ⟨ey,M,O,rfl,ac,ad,F,B⟩;have C:=ae.O (ae.refl 0 _) ad j.size;have j:=j.O B;refine G.aj ?_;refine A ?_;refine I.ret (H ?_);exact⟨ey,M,O,o,ac,C,F,j⟩
theorem KW(bE:Nat)(w0:World)(N:Heap)
 :
 aE Tryz.prog w0 81 #[.map (some bE)] N (fun r q=>∃d:Nat,r= .func (.func 157) #[] #[.pointer (some ⟨d,0,none⟩)]∧Var 168 q d [.map (some bE)]∧ae 0 N.size (d+1)∧al N q):=by
 refine aE.aP [.map (some bE)] Tryz.func81 ?_;intro C B;have j:al N N:=aa.refl _ _;refine I.O (fun x=>?_);refine G.aU (Z.nI o o o) ?_;rintro v1 H1 ⟨rfl,n,A,ad,E⟩;have j:=j.O A;have n:Var 168 H1 N.size ([.map (some bE)]):=n;refine G.aj ?_;refine x (I.O (fun ac=>?_));refine G.v1 (Y.makeFunc o o) ?_;refine G.aj ?_;refine ac ?_;refine I.ret (B ?_);exact⟨_,o,n,ae.new (dz _),j⟩
theorem Oj(j bE:Nat)(fv:Nat→Value)(q:List (aD×Nat))(w0:World)(N:Heap)
 (C:Var 168 N j [.map (some bE)])(B:cW N aN fv bE q)(Q:q.length≤1099511627776):
 aE Tryz.prog w0 57 #[.func (.func 157) #[] #[.pointer (some ⟨j,0,none⟩)]] N (fun r A=>∃s:aO,∃k:Nat,∃out:List aD,r=s.v∧aY k 9 A ft 1 s.v out∧ae 0 N.size k∧(h7 out∧∀k,k∈out↔k∈q.map (·.1))∧al N A):=by
 refine aE.aP [.func (.func 157) #[] #[.pointer (some ⟨j,0,none⟩)]] Tryz.func57 ?_;intro ak W;have d:al N N:=aa.refl _ _;have ax:=C.lt;have av:=B.lt;refine I.O (fun E=>?_);refine G.aj ?_;refine E (I.O (fun F=>?_));refine G.af ?_;refine aW uS (Jp j bE fv q w0 _ C B Q) ?_;rintro v5 ag ⟨af,X,Z,rfl,x,H,n,K⟩;have ad:=ae.O (ae.refl 0 _) H d.size;obtain⟨d,_⟩:=b6 K d;have ac:=x.le;have R:=jM n.1 (fun k P=>(n.2 k).1 P);rw[dg]at R;refine G.aj ?_;refine F (I.O (fun L=>?_));refine G.af ?_;refine aW xY (zZ X _ Z w0 _ x J) ?_;rintro ay ai ⟨Y,a_,rfl,x,M,V,O⟩;have az:=ae.O ad M d.size;have d:=d.gn O (ar.T (an.q ad));refine G.nil (L (I.O (fun am=>?_)));refine G.aZ 2 ?_;refine am ?_;refine I.ret (W ?_);obtain⟨S,U⟩:=z1 n.1 V;exact⟨af,a_,Y,o,x,az,⟨S,fun k=>by rw[U.mem_iff,n.2]⟩,d⟩
end xx
namespace xy
open ho jz pf
theorem MZ(x:Int){m:Nat}(hm:0<m):(x.tmod m+m).tmod m=x%m:=by
 have d:(0:Int)<m:=by omega
 have j:=yV x d;rw[Dw J,Int.add_emod_right,Int.tmod_def,Int.sub_mul_emod_self_left]
theorem E0(picks:List Int)(n:Nat){m:Nat}(hm:0<m):ht picks n m<m:=by
 unfold ht;split
 ·have d:=tr (picks.getD n 0) (show(m:Int)≠0 by omega)
  have ab:=yW (picks.getD n 0) (show(0:Int)<m by omega);omega
 ·exact hm
theorem MX{picks:List Int}{n m:Nat}(aB:n<picks.length)(hm:0<m):((ht picks n m:Nat):Int)=(picks[n].tmod m+m).tmod m:=by
 have d:=tr picks[n] (show(m:Int)≠0 by omega);unfold ht;rw[aM aB,MZ _ hm,List.getD_eq_getElem?_getD,List.getElem?_eq_getElem aB,Option.getD_some,yX d]
theorem MY{picks:List Int}{n m:Nat}(aB:¬n<picks.length):ht picks n m=0:=by unfold ht;rw[aA aB]
theorem Ey(aQ:Nat→Prop)(j n:Nat)(A:aO)(picks:List Int)(m:Nat)(w0:World)(N:Heap)
 (d:Var 164 N j [A.v,.int .i64 (n:Int)])(K:Rd aQ N pw 1 A.v picks)(ar:bp aQ N.size)(av:ax aQ (j+1))(hm:0<m∧m≤4611686018427387904)(aB:n≤1099511627776)(W:∀x∈picks,-9223372036854775808≤x∧x≤9223372036854775807):
 aE Tryz.prog w0 77 #[ptr j,.int .i64 (m:Int)] N (fun r B=>r= .int .i64 ((ht picks n m:Nat):Int)∧Var 164 B j [A.v,.int .i64 ((n+1:Nat):Int)]∧aa (ay [(j+1)]) N B):=by
 refine aE.aP [ptr j,.int .i64 (m:Int)] Tryz.func77 ?_;intro Z X;have q:aa (ay [(j+1)]) N N:=aa.refl _ _;have L:=ae.refl (j+1) N.size;have ag:=d.lt;refine I.O (fun Q=>?_);refine G.aj ?_;refine Q (I.O (fun az=>?_));refine G.aj ?_;refine az ?_
 refine I.cut (fun(_:Unit)=>[(0,ptr j),(5,.int .i64 ((ht picks n m:Nat):Int))])
  (fun(_:Unit) (H:Heap)=>True∧al N H) (fun _ E _=>?_) ?_
 ·
  have C:al N N:=aa.refl _ _;refine I.t1 (fun am=>?_);refine jk ?_;refine G.av 2 ?_;refine G.a6 d.W q6 b8 cX ?_;refine G.av 2 ?_;refine G.a6 d.W q6 Fz A7 ?_;refine G.v1 (bu K w7) ?_;refine G.v1 bZ (G.nil (am ?_));refine a8 (fun R=>?_) (fun R=>?_)
  ·
   have F:n<picks.length:=by omega
   have aG:=W picks[n] (cU F);have a7:=yV picks[n] (show(0:Int)<m by omega);have ak:=Int.tmod_lt_of_pos picks[n] (show(0:Int)<m by omega);have V:=MX (picks:=picks) F hm.1;refine jk ?_;refine G.av 2 ?_;refine G.a6 d.W q6 Fz A7 ?_;refine G.av 2 ?_;refine G.a6 d.W q6 b8 cX ?_;refine G.cn (Y.cg K n o w7 b8 o o) fun ap P=>?_;refine G.v1 (bf P.W cX) ?_;refine G.af ?_;refine G.v1 (Y.rem o o o J) ?_;refine G.af ?_;refine G.v1 bN ?_;refine G.af ?_;refine G.v1 (Y.cast (v2:= .int .i64 ((ht picks n m:Nat):Int)) (Y.rem o o o J) (by rw[V])) ?_;refine G.aj ?_;refine aT.sub (E () _ ?_) ⟨o,(aF J),trivial⟩;exact⟨trivial,C⟩
  ·
   refine I.skip ?_;have aC:=MY (m:=m) (show ¬n<picks.length by omega);refine aT.sub (E () _ ?_) ⟨o,(aF J),trivial⟩;exact⟨trivial,C⟩
 ·
  intro _ af ac;obtain⟨aD,M⟩:=ac;obtain⟨d,q,_⟩:=bO M d q;refine I.O (fun S=>?_);refine G.av 2 ?_;refine G.a6 d.W q6 b8 cX ?_;refine G.v1 (Y.cast (v2:= .int .i64 ((n+1:Nat):Int)) bN (eI J)) ?_;refine G.bs ?_;refine G.aV q6 b8 ?_;refine G.s1 (du d 1 _ b8 bl o) ?_;rintro ai ⟨d,O⟩;obtain⟨q,_⟩:=c0 O q (an.r L);refine G.nil (S (I.O (fun U=>?_)));refine G.aZ 2 ?_;refine U ?_;refine I.ret (X ?_);exact⟨o,d,q⟩
theorem JA(fv:Nat→Value)(bo cA:Nat)(m b5:cI)(w0:World)(N:Heap)
 (ah:cW N aN fv bo m)(ag:cW N aN fv cA b5)(P:ak (cA+1) (bo+1)):
 aE Tryz.prog w0 80 #[.map (some bo),.map (some cA)] N (fun r K=>∃V:cI,r= .tuple #[]∧cW K aN fv bo V∧(∀q,aH V q=match aH b5 q with|some i=>some i|none=>aH m q)∧aa (ay [(bo+1)]) N K):=by
 refine aE.enter (args:=[.map (some bo),.map (some cA)]) Tryz.func80 o o o ?_;intro a8 aX;have j:aa (ay [(bo+1)]) N N:=aa.refl _ _;have ad:=ae.refl (bo+1) N.size;have bc:=ah.lt;have bd:=ag.lt;refine I.O (fun az=>?_);refine G.af ?_;obtain⟨es,aJ,ag⟩:=ag.raw;refine G.aU (Z.ey (Z.sq ag o p0 o)) ?_;rintro bk B ⟨rfl,it,am,_⟩;have L:=ak.new ah.lt;have M:=ak.new ag.lt;have O:=ae.new j.size;obtain⟨ah,ag,j,_⟩:=cf am ah ag j;have bf:=it.lt;refine G.nil (az (I.aC (fun _ af _=>?_)))
 refine I.bb (fun(aZ:(List aD)×cI)=>match aZ with|(dn,n)=>[(0,.map (some bo)),(7,.pointer (some ⟨N.size,0,none⟩))])
  (fun(dn,n) (H:Heap)=>(h6 H N.size cA aN es aJ dn)∧cW H aN fv bo n∧(dn.Nodup∧∀k∈dn,k∈b5.map (·.1))∧(∀q,aH n q=if q∈dn then aH b5 q else aH m q)∧aa (ay [(N.size+1),(bo+1)]) B H)
  (fun(dn,n)=>b5.length-dn.length) ([],m) ⟨o,o,trivial⟩ ?_ ?_
 ·
  exact⟨it,ah,⟨qB,by simp⟩,fun q=>by simp,aa.refl _ _⟩
 rintro⟨dn,n⟩ ba ap pb ai av;obtain⟨it,ah,A,R,d⟩:=ap;have ag:=ag.aJ d (au.cons M (au.T P));have j:=j.bt d (ar.cons (an.q O) (ar.T (an.r ad)));have bb:=d.size;have W:=ae.refl (N.size+1) B.size;have ac:=ae.refl (bo+1) B.size;have aQ:=jM A.1 A.2;rw[dg]at aQ;refine I.O (fun ax=>?_);refine G.aU (Z.si it ag gx.inj o o) ?_;rintro bl a6 ⟨bj,x,y,bg,rfl,it,aL,aK,a7⟩;obtain⟨ah,ag,j,d,_⟩:=dT a7 ah L ag M j (an.q O) d (an.r W);refine G.v1 (Y.rF o o) (G.nil (ax ?_));refine I.t2 (fun aB aC=>?_);refine dm (fun C=>?_) (fun C=>?_)
 ·
  obtain⟨F,aW,aS⟩:=aL C;rw[aS]at it;refine I.skip (aB (I.aC (fun aF _ _=>I.O (fun aG=>?_))));refine G.v1 (Y.rE it ag gx.inj F o o) ?_;refine G.v1 c3 ?_;refine G.v1 c3 ?_;refine G.aZ 2 ?_;refine aG (I.region ?_);refine G.av 3 ?_;refine G.s1 (S.oZ y ah gx o p0 Tryz.underlying9 o o o) ?_;rintro a_ ⟨ah,X⟩;obtain⟨ag,it,d,_⟩:=dQ X ag P it L.symm d (an.r ac);refine G.nil (aF ?_)
  have E:(dn++[x]).Nodup∧∀k∈dn++[x],k∈b5.map (·.1):=by
   refine⟨?_,fun k aV=>?_⟩
   ·rw[nY]
    exact⟨A.1,by simp,fun a aO b ao e=>by simp only[eU]at ao;subst ao;subst e;exact aW aO⟩
   ·rcases gG.1 aV with h|h
    ·exact A.2 k h
    ·rw[eU.1 h];exact cN.2 ⟨_,F,o⟩
  have aR:=jM E.1 E.2;rw[bT,iU,dg]at aR;have aU:=n1 ag.fX.nodup F;refine aT.sub (ai (dn++[x],hk n x y) _ ?_ ?_) ⟨o,o,trivial⟩
  ·exact⟨it,ah,E,fun q=>by
    rw[nn,R];by_cases h:q=x
    ·subst h;simp[aU]
    ·simp[h],d⟩
  ·simp only[bT,iU];omega
 ·
  obtain⟨aP,_⟩:=aK C;refine I.exit (aC (av (af ?_)));refine aX .normal (.inl o) _ _ _ (jt o) ?_
  exact⟨n,o,ah,fun q=>by
   rw[R]
   cases U:aH b5 q with
   |some i=>rw[aM (aP (q,i) (sf U))]
   |none=>
    by_cases h:q∈dn
    ·have Q:=A.2 q h
     rw[←gF,U]at Q;cases Q
    ·rw[aA h],j⟩
end xy
namespace AW
open ho nC jz kE xy
theorem Pp(l:List l0):jj (l.map (·.1))=1+(l.map (fun y=>y.1.ways)).sum:=by unfold jj;rw[l9];rfl
theorem Pq{l:List l0}{i:Nat}(h:i<l.length):((l.take (i+1)).map (fun y=>y.1.ways)).sum=((l.take i).map (fun y=>y.1.ways)).sum+l[i].1.ways:=by
 rw[eP h,gg,r3];simp
theorem Po(l:List l0)(i:Nat):((l.take i).map (fun y=>y.1.ways)).sum≤(l.map (fun y=>y.1.ways)).sum:=by
 have e:l.map (fun y=>y.1.ways)=(l.take i).map (fun y=>y.1.ways)++(l.drop i).map (fun y=>y.1.ways):=by rw[←gg,hY]
 rw[e,r3];omega
theorem Mw{ws:List dF}{b:List UInt8}{i:Nat}(h:i<ws.length):jg (ws.take (i+1)) b=ws[i].on (jg (ws.take i) b) ws[i].d.length:=by
 unfold jg;rw[eP h,oU];rfl
theorem Gq{ws:List dF}{b:List UInt8}{i k:Nat}(h:i<ws.length):ik (ws.drop i) b k=if k=0 then b else if k≤ws[i].ways then ws[i].part b (k-1)else ik (ws.drop (i+1)) (ws[i].on b ws[i].d.length) (k-ws[i].ways):=by
 rw[oS h];rfl
theorem Pl(ws:List dF)(b:List UInt8):ik ws b 0=b:=by cases ws<;>simp[ik]
theorem dD{cs d:List Value}(h:cs.length=d.length):er cs 0 d=d:=by simp[er,h]
theorem KX{K:List Nat}{g:cQ}{H:Heap}{b:Nat}{D:aw}{d n:Nat}(h:bq K g H b D)(ao:∀c,c+1=d→g.ρ c= .h_∨n≤c):d=0∨d∈K∨n<d:=by
 rcases qE d with e|e
 ·exact .inl e
 ·rcases ao (d-1) J with ab|ab
  ·have:=h.mem ab bl
   rw[show d-1+1=d by omega]at this;exact .inr (.inl this)
  ·exact .inr (.inr J)
theorem Lu(K:List Nat)(g:cQ)(b:Nat)(D:aw)(aQ:Nat→Prop)(B n:Nat)(aP:aO)(picks:List Int)(i:Nat)(w0:World)(N:Heap)
 (A:bq K g N b D)(F:Var 164 N B [aP.v,.int .i64 (n:Int)])(bo:Rd aQ N pw 1 aP.v picks)(cT:bp aQ N.size)(c9:ax aQ (B+1))(av:au (B+1) K)(d_:aS aQ K)(bj:i<D.fs.length)(ej:(a1 D.fs i).w.length≤549755813888)(bQ:∀y∈(a1 D.fs i).w,y.d.length≤549755813888)(de:∀j,(jg ((a1 D.fs i).w.take j) (a1 D.fs i).stays).length≤549755813888)(ep:jj (a1 D.fs i).w≤2305843009213693952)(aB:n≤1099511627776)(df:∀x∈picks,-9223372036854775808≤x∧x≤9223372036854775807):
 aE Tryz.prog w0 82 #[gC g.fb i,ptr B] N (fun r aU=>∃bF:List Nat,∃g2:cQ,r= .tuple #[]∧bq bF g2 aU b (D.gm i ⟨ik (a1 D.fs i).w (a1 D.fs i).stays (ht picks n (jj (a1 D.fs i).w)),ik (a1 D.fs i).w (a1 D.fs i).stays (ht picks n (jj (a1 D.fs i).w)),[]⟩)∧bk K N.size bF∧Var 164 aU B [aP.v,.int .i64 ((n+1:Nat):Int)]∧(g2.fb=g.fb∧g2.cJ=g.cJ∧g2.bE=g.bE)∧aa (ay (K++[(B+1)])) N aU):=by
 refine aE.enter (args:=[gC g.fb i,ptr B]) Tryz.func82 o o o ?_;intro dm di;have L:aa (ay (K++[(B+1)])) N N:=aa.refl _ _;have bG:=bk.refl K N.size;have dB:=A.aC;have b8:=ae.refl (B+1) N.size;have dC:=F.lt;have bM:∀c,g.ρ c≠ .out→c<N.size:=A.lt;obtain⟨fO,bA,gi,kw,lw,af⟩:=A.gu i bj;have aK:=af.lw;have ei:lw.length=(a1 D.fs i).w.length:=by rw[←aK,dg]
 have bR:=Pp lw;rw[aK]at bR;obtain⟨aL,dh,bP⟩:=Nc af.ag;refine I.O (fun c6=>?_);refine G.aj ?_;refine c6 (I.seq (fun bF c8 _=>I.O (fun cc=>?_)));have d:=af.ah;have bH:bp (fun c=>g.ρ c= .h_) N.size:=fun c e=>A.lt c (by rw[e];simp);have R:=af.ez;have dx:=R.lt;have hw:=af.hw;have dE:=hw.le;have ao:=dh;have az:=ao.le;have cd:ak (B+1) (g.fb.getD i 0+1):=au.at av (A.nk af.cv bl);have cg:ak (B+1) kw:=au.at av (A.nZ af.kV bl);have ch:ak (B+1) aL:=au.at av (A.nZ bP bl);have ck:=(fun c e he=>av (c+1) (A.mem e bl) B o he.symm:ax (fun c=>g.ρ c= .h_) (B+1));refine G.av 2 ?_;refine G.a6 R.W jw mh sM ?_;refine G.v1 (bu hw.rd uk) ?_;refine G.af (G.nil (cc ?_));refine I.aC (fun _ cl _=>?_)
 refine I.bb (fun(i1:Nat)=>[(0,gC g.fb i),(1,ptr B),(4,.int .i64 ((1+((lw.take i1).map (fun y=>y.1.ways)).sum:Nat):Int)),(14,gi.v),(15,.int .i64 lw.length),(16,.int .i64 (i1:Int))])
  (fun(i1:Nat) (H:Heap)=>(i1≤lw.length)∧al N H)
  (fun(i1:Nat)=>lw.length-i1) 0 ⟨o,o,o,o,o,o,trivial⟩ ?_ ?_
 ·
  exact⟨J,aa.refl _ _⟩
 intro i1 cm cn dk cp cq;obtain⟨ef,P⟩:=cn;obtain⟨A,F,bo,d,R,hw,ao,L,_⟩:=fP P A F bo d R hw ao L;refine I.O (fun cr=>?_);refine G.v1 bZ (G.nil (cr ?_));refine I.t2 (fun ct cv=>?_);refine a8 (fun cw=>?_) (fun cw=>?_)
 ·
  have bn:i1<lw.length:=by omega
  have ek:=Pq bn;have eo:=Po lw (i1+1);have eb:=bQ lw[i1].1 (by rw[←aK];exact cN.2 ⟨_,cU bn,o⟩);refine I.skip (ct (I.t1 (fun cx=>I.aC (fun cy _ _=>I.O (fun bX=>?_)))));refine G.v1 (mo hw i1 uk j9) ?_;refine G.v1 (ba (hw.W (j:=i1) ic) lv j9 (kL _)) ?_;refine G.aU (Z.a7 GF) ?_;rintro v6 dj ⟨rfl,v6,cz,_⟩;have cA:=(ax.new (bH.mono J):ax _ (cm.size+1));have bY:=ae.new P.size;obtain⟨d,P,_⟩:=bO cz d P;refine G.s1 (et v6 _ (lB lw[i1]) (qt lw[i1]) j9 (kL _) ((dD (kL _).symm))) ?_;rintro dP ⟨v6,bW⟩;obtain⟨d,P,_⟩:=dW bW d cA P bY;refine G.nil (bX (I.region ?_));refine G.af ?_;refine G.v1 (ba v6.W lv j9 (kL _)) ?_;refine aW xZ (Aw lw[i1] w0 _ (d lw[i1] (cU bn)).any J) ?_;rintro dF dG ⟨rfl,b0⟩;obtain⟨P,_⟩:=b6 b0 P;refine G.v1 (Y.cast (v2:= .int .i64 ((1+((lw.take (i1+1)).map (fun y=>y.1.ways)).sum:Nat):Int)) bN (eI J)) ?_;refine G.aj ?_;refine cy (cx (I.region ?_));refine G.v1 bN ?_;refine G.af (G.nil ?_);refine aT.sub (cp (i1+1) _ ?_ ?_) ⟨o,o,(aF J),o,(aF J),(aF J),trivial⟩
  ·exact⟨J,P⟩
  ·first|omega|(simp only;omega)|(simp;omega)
 ·
  obtain rfl:i1=lw.length:=by omega
  refine I.exit (cv (cq (cl ?_)));refine c8 _ _ (I.O (fun b1=>?_));refine G.af ?_;refine G.v1 (Y.cast (v2:= .int .i64 ((jj (a1 D.fs i).w:Nat):Int)) gj (by rw[bR,eD])) ?_;refine aW B_ (Ey aQ B n aP picks (jj (a1 D.fs i).w) w0 _ F bo (cT.mono J) c9 J J df) ?_;rintro dI X ⟨rfl,F,b2⟩;obtain⟨A,d,R,hw,ao,L,_⟩:=mn b2 A (iv av) d ck R cd.symm hw cg.symm ao ch.symm L (an.r b8);obtain⟨kg,a7⟩:∃kg,kg=ht picks n (jj (a1 D.fs i).w):=⟨_,o⟩;have b3:=E0 picks n (m:=jj (a1 D.fs i).w) J;rw[←a7]at b3;obtain⟨W,bJ⟩:∃W,W=ik (a1 D.fs i).w (a1 D.fs i).stays kg:=⟨_,o⟩;refine G.aj ?_;refine b1 (I.O (fun b4=>?_));refine G.av 2 ?_;refine G.aV jw mZ ?_;refine G.a6 R.W m0 dt fe ?_;refine G.aj ?_;refine b4 ?_
  refine I.cut (fun(bt:aO×Nat)=>match bt with|(aR,S)=>[(0,gC g.fb i),(8,aR.v)])
   (fun(aR,S) (H:Heap)=>(k0 S H bd 1 aR.v W)∧(∀c,c+1=S→g.ρ c= .h_∨N.size≤c)∧ae aL X.size S∧al X H) (fun _ bb _=>?_) ?_
  ·
   have C:al X X:=aa.refl _ _;have b7:=ae.refl aL X.size;refine I.O (fun a0=>?_);refine G.av 2 ?_;refine G.a6 R.W jw mh sM ?_;refine G.v1 (bu hw.rd uk) ?_;refine G.af (G.nil (a0 ?_));refine I.aC (fun _ bc _=>?_)
   refine I.bb (fun(bt:Nat×Nat×aO×Nat×(List UInt8))=>match bt with|(i2,k,Q,U,O)=>[(0,gC g.fb i),(7,.int .i64 (k:Int)),(8,Q.v),(36,gi.v),(37,.int .i64 lw.length),(38,.int .i64 (i2:Int))])
    (fun(i2,k,Q,U,O) (H:Heap)=>(i2≤lw.length)∧k0 U H bd 1 Q.v O∧(∀c,c+1=U→g.ρ c= .h_∨N.size≤c)∧O=jg ((a1 D.fs i).w.take i2) (a1 D.fs i).stays∧ik ((a1 D.fs i).w.drop i2) O k=W∧k≤kg∧ae aL X.size U∧al X H)
    (fun(i2,k,Q,U,O)=>lw.length-i2) (0,kg,bA,aL,(a1 D.fs i).stays) ⟨o,(by rw[a7];rfl),o,o,o,o,trivial⟩ ?_ ?_
   ·
    exact⟨J,ao,fun c e=> .inl (bP c e),o,bJ.symm,dz _,ae.refl _ _,aa.refl _ _⟩
   rintro⟨i2,k,Q,U,O⟩ cB cF dJ bB bf;obtain⟨eg,ao,aC,bL,aN,eh,am,E⟩:=cF;have bw:=ae.O b7 am C.size;obtain⟨d,hw,C,_⟩:=cf E d hw C;have az:=ao.le;have db:=de i2;rw[←bL]at db;refine I.O (fun a2=>?_);refine G.v1 bZ (G.nil (a2 ?_));refine I.t2 (fun a3 a4=>?_);refine a8 (fun cG=>?_) (fun cG=>?_)
   ·
    have ag:i2<lw.length:=by omega
    have bm:i2<(a1 D.fs i).w.length:=by omega
    have aJ:(a1 D.fs i).w[i2]=lw[i2].1:=by simp only[←aK,oV]
    have ec:=bQ lw[i2].1 (by rw[←aK];exact cN.2 ⟨_,cU ag,o⟩);have ee:=d lw[i2] (cU ag);refine I.skip (a3 (I.t2 (fun a5 bx=>I.aC (fun bT _ bz=>I.O (fun bU=>?_)))));refine G.v1 (mo hw i2 uk j9) ?_;refine G.v1 (ba (hw.W (j:=i2) ic) lv j9 (kL _)) ?_;refine G.aU (Z.a7 GF) ?_;rintro M dK ⟨rfl,M,bV,_⟩;have a9:=(ax.new (bH.mono J):ax _ (cB.size+1));have b5:=ak.new ao.le;have cL:=ae.new C.size;have cO:=ae.new E.size;obtain⟨d,ao,C,E,_⟩:=ed bV d ao C E;refine G.s1 (et M _ (lB lw[i2]) (qt lw[i2]) j9 (kL _) ((dD (kL _).symm))) ?_;rintro bv ⟨M,b9⟩;obtain⟨d,ao,C,E,_⟩:=dT b9 d a9 ao b5 C cL E cO;refine G.nil (bU (I.t2 (fun cP cR=>I.O (fun be=>?_))));refine G.af ?_;refine G.v1 cC (G.nil (be ?_));refine a8 (fun cH=>?_) (fun cH=>?_)
    ·
     refine I.exit (cR (bz (bx (bf (bc ?_)))));have aG:W=O:=by rw[←aN,show k=0 by omega,Pl]
     refine aT.sub (bb (Q,U) _ ?_) ⟨o,o,trivial⟩;exact⟨by rw[aG];exact ao,aC,bw,C⟩
    ·
     refine I.skip (cP (I.t2 (fun cD cV=>I.O (fun cW=>?_))));refine G.af ?_;refine G.v1 (ba M.W lv j9 (kL _)) ?_;refine aW xZ (Aw lw[i2] w0 _ (d lw[i2] (cU ag)).any J) ?_;rintro dL dM ⟨rfl,bi⟩;obtain⟨d,ao,M,C,E,_⟩:=dH bi d ao M C E;refine G.v1 fK (G.nil (cW ?_));refine a8 (fun cI=>?_) (fun cI=>?_)
     ·
      refine I.O (fun cX=>?_);refine G.v1 (ba M.W lv j9 (kL _)) ?_;refine G.av 2 ?_;refine G.v1 (Y.cast (v2:= .int .i64 ((k-1:Nat):Int)) gq (eI J)) ?_;refine aW H2 (zH lw[i2] Q O (k-1) w0 _ (d lw[i2] (cU ag)).any ao.rd.any J J) ?_;rintro dN dQ ⟨cJ,cK,rfl,bg,bC,cY⟩;have cZ:=ae.O (ae.refl 0 _) bC C.size;obtain⟨C,_⟩:=b6 cY C;have dp:=bg.le;refine G.aj ?_;refine cX ?_;refine I.exit (cV (bz (bx (bf (bc ?_)))));have aG:W=lw[i2].1.part O (k-1):=by rw[←aN,Gq bm,aA J,aM (by simp only[aJ];omega)];simp only[aJ]
      rw[←aG]at bg;refine aT.sub (bb (cJ,cK) _ ?_) ⟨o,o,trivial⟩;exact⟨bg.q,fun c e=> .inr (by unfold ae at bC;omega),(ae.z cZ),C⟩
     ·
      refine I.skip (cD (I.O (fun c2=>?_)));refine G.af ?_;refine G.v1 (ba M.W lv j9 (kL _)) ?_;refine aW xZ (Aw lw[i2] w0 _ (d lw[i2] (cU ag)).any J) ?_;rintro dU dX ⟨rfl,c3⟩;obtain⟨d,ao,M,E,_⟩:=ed c3 d ao M E;refine G.v1 (Y.cast (v2:= .int .i64 ((k-lw[i2].1.ways:Nat):Int)) gq (eI J)) ?_;refine G.aj ?_;refine c2 (I.region ?_);refine G.v1 (ba M.W lv j9 (kL _)) ?_;refine G.af ?_;refine G.a6 M.W ln dt fe ?_;refine G.v1 (bu (d lw[i2] (cU ag)) dV) ?_;refine aW rv (sl lw[i2] Q O lw[i2].1.d.length w0 _ (d lw[i2] (cU ag)).any ao.rd.any (dz _) J) ?_;rintro dY dZ ⟨ca,cb,rfl,bD,bE,c4⟩;have br:=ae.O (ae.refl 0 _) bE E.size;obtain⟨E,_⟩:=b6 c4 E;have dq:=bD.le;refine G.aj ?_;refine bT (a5 (I.region ?_));refine G.v1 bN ?_;refine G.af (G.nil ?_);refine aT.sub (bB (i2+1,k-lw[i2].1.ways,ca,cb,lw[i2].1.on O lw[i2].1.d.length) _ ?_ ?_) ⟨o,(aF J),o,o,(aF J),(aF J),trivial⟩
      ·exact⟨J,bD.q,fun c e=> .inr (by unfold ae at bE;omega),by rw[Mw bm,←bL];simp only[aJ],by rw[←aN,Gq bm,aA J,aA (by simp only[aJ];omega)];simp only[aJ],J,(ae.z br),E⟩
      ·first|omega|(simp only;omega)|(simp;omega)
   ·
    refine I.exit (a4 (bf (bc ?_)));have aG:W=O:=by rw[←aN,th J];rfl
    refine aT.sub (bb (Q,U) _ ?_) ⟨o,o,trivial⟩;exact⟨by rw[aG];exact ao,aC,bw,C⟩
  ·
   rintro⟨aR,S⟩ a_ b_;obtain⟨ao,aC,am,ap⟩:=b_;obtain⟨A,F,L,_⟩:=cf ap A F L;have az:=ao.le;obtain⟨ev,ew,ey,er,eu,aH⟩:=A.gu i bj;have ai:aa (ay [(g.fb.getD i 0+1)]) a_ a_:=aa.refl _ _;have bS:hO K (g.fb.getD i 0+1):=(A.nk aH.cv bl);have V:=aH.ez;have dy:=V.lt;have aV:=au.at av bS;have aX:an (K++[(B+1)]) N.size (g.fb.getD i 0+1):=ar.at (ar.cO bG (by intro k dc;simp[dc])) bS;have aZ:=ae.refl (g.fb.getD i 0+1) a_.size
   have a6:ak S (g.fb.getD i 0+1):=fun c da ab=>by
    rcases aC c da with q|q
    ·rw[show c=g.fb.getD i 0 by omega,aH.cv]at q;cases q
    ·have:=bM _ (show g.ρ (g.fb.getD i 0)≠ .out by rw[aH.cv];simp);omega
   refine I.region ?_;refine G.av 6 ?_;refine G.aV jw mZ ?_;refine G.aV m0 dt ?_;refine G.s1 (du V 0 _ dt bl o) ?_;rintro dS ⟨V,aD⟩;have aD:=aD.e3;obtain⟨F,ao,_⟩:=dW aD F aV ao a6;have L:=L.bt aD (ar.cons aX ar.nil);obtain⟨ai,_⟩:=c0 aD ai (an.r aZ);refine G.bs ?_;refine G.aV jw mZ ?_;refine G.aV m0 dt ?_;refine G.s1 (du V 1 _ dt bl o) ?_;rintro bK ⟨V,ac⟩;have ac:=ac.e3;obtain⟨F,ao,_⟩:=dW ac F aV ao a6;have L:=L.bt ac (ar.cons aX ar.nil);obtain⟨ai,_⟩:=c0 ac ai (an.r aZ);refine G.bs ?_;refine G.aV jw mh ?_;refine G.s1 (du V 2 _ mh bl o) ?_;rintro dR ⟨V,ad⟩;have ad:=ad.e3;obtain⟨F,ao,_⟩:=dW ad F aV ao a6;have L:=L.bt ad (ar.cons aX ar.nil);obtain⟨ai,_⟩:=c0 ad ai (an.r aZ);refine G.nil ?_;have c5:bk K N.size (S::K):=(bk.Js bG (KX A aC));have A:=A.Kj bj aH o ai V ao (fun c e=>(aC c e).imp id (fun h=>mb (fun q=>by have:=bM c q;omega)));refine di .normal (.inl o) _ _ _ (jt o) ?_;exact⟨_,{g with ρ:=gy g.ρ S .h_},rfl,by rw[←a7,←bJ];exact A,c5,F,⟨o,o,o⟩,L⟩
end AW
namespace xz
open jz m3 kE pf
theorem Bq{c:c_}{n q:aD}{T:Option Nat}(x:∀i,c.f=some i→bV c.n=n)(j:c.g≠[]→bV c.g=n)(d:bV q≠n):c.at q T=T:=by
 unfold c_.at
 cases r:c.f with
 |none=>
  simp only
  rw[aA (fun e=>d (by rw[e.2];exact j e.1))]
 |some i=>
  simp only;rw[aA (fun e=>d (by rw[e];exact x i r)),aA (fun e=>d (by rw[e.2];exact j e.1))]
theorem CB{c:c_}(h:c.g≠[]):bV c.g=c.dir:=by unfold c_.dir;rw[aA h]
theorem uL{n q:aD}(r:bV q≠n):∀(cs:List c_) (l:cI),(∀c∈cs,c.dir=n∧∀i,c.f=some i→bV c.n=c.dir)→aH (jc cs l) q=aH l q
 |[],l,_=>rfl
 |c::cs,l,h=>by
  have j:=h c gw;show aH (jc cs (c.ap l)) q=_;rw[uL r cs _ (fun d ah=>h d (hj _ ah)),qM];exact Bq (fun i A=>by rw[j.2 i A];exact j.1) (fun x=>by rw[CB x];exact j.1) r
theorem Bb{m:Nat}:∀(cs:List c_) (l:cI),(∀p i,aH l p=some i→i<m)→(∀c∈cs,∀i,c.f=some i→i<m)→∀p i,aH (jc cs l) p=some i→i<m
 |[],l,h,_=>h
 |c::cs,l,h,aq=>by
  show ∀p i,aH (jc cs (c.ap l)) p=some i→i<m;refine Bb cs _ (fun p i e=>?_) (fun d ah=>aq d (hj _ ah));rw[qM]at e;unfold c_.at at e
  cases n:c.f with
  |none=>
   rw[n]at e;simp only at e;split at e
   ·cases e
   ·exact h p i e
  |some j=>
   rw[n]at e;simp only at e;split at e
   ·cases e;exact aq c gw _ n
   ·split at e
    ·cases e
    ·exact h p i e
theorem nO{picks:List Int}{D:aw}{s:cI×Nat}{n:aD}:(eG picks D s n).1=jc ((D.de n).take (ht picks s.2 ((D.de n).length+1))) s.1:=by
 unfold eG;split
 ·rename_i h;rw[h,List.take_nil];rfl
 ·rfl
theorem rC{D:aw}{n:aD}{c:c_}(h:c∈D.de n):c∈D.log∧c.dir=n:=by
 unfold aw.de at h;rw[jZ]at h;exact⟨h.1,by simpa using h.2⟩
structure ov (picks:List Int) (D bH:aw) (L:List aD):Prop where
 same:bH.cap=D.cap∧bH.most=D.most∧bH.fs=D.fs∧bH.ops=D.ops∧bH.left=D.left∧bH.dead=D.dead
 st:bH.stays=(L.foldl (eG picks D) (D.stays,0)).1
 aj:eW bH.now
 jX:eW bH.stays
 b6:∀q,bV q∈L→aH bH.now q=aH bH.stays q
 bO:∀q,bV q∉L→aH bH.now q=aH D.now q
 eF:∀n,bH.de n=if n∈L then[]else D.de n
 eg:∀c∈bH.log,c∈D.log
theorem ov.start{picks:List Int}{D:aw}(d:eW D.now)(ab:eW D.stays):ov picks D D []:=
 ⟨⟨o,o,o,o,o,o⟩,o,d,ab,fun q h=>(by cases h),fun q _=>rfl,fun n=>by simp,fun c h=>h⟩
def sy(picks:List Int)(bH:aw)(at_:Nat)(n:aD):aw:=
 {bH with stays:=(eG picks bH (bH.stays,at_) n).1,now:=merge (eG picks bH (bH.stays,at_) n).1 bH.now n,log:=bH.log.filter (fun c=> !decide (c.dir=n))}
theorem JB{picks:List Int}{D bH:aw}{s:cI×Nat}{n:aD}(h:bH.de n=D.de n):eG picks bH s n=eG picks D s n:=by unfold eG;rw[h]
theorem ov.step{picks:List Int}{D bH:aw}{L:List aD}{n:aD}(h:ov picks D bH L)(aB:n∉L)(F:∀c∈D.log,∀i,c.f=some i→bV c.n=c.dir):
 ov picks D (sy picks bH (L.foldl (eG picks D) (D.stays,0)).2 n) (L++[n])∧(eG picks bH (bH.stays,(L.foldl (eG picks D) (D.stays,0)).2) n).2=((L++[n]).foldl (eG picks D) (D.stays,0)).2:=by
 have E:bH.de n=D.de n:=by rw[h.eF,aA aB]
 have ag:(bH.stays,(L.foldl (eG picks D) (D.stays,0)).2)=L.foldl (eG picks D) (D.stays,0):=by rw[h.st]
 have A:eG picks bH (bH.stays,(L.foldl (eG picks D) (D.stays,0)).2) n=(L++[n]).foldl (eG picks D) (D.stays,0):=by
  rw[JB E,ag,oU];rfl
 have C:∀c∈(bH.de n).take (ht picks (L.foldl (eG picks D) (D.stays,0)).2 ((bH.de n).length+1)),c.dir=n∧∀i,c.f=some i→bV c.n=c.dir:=fun c aq=>by
  have:=rC (kQ aq);exact⟨this.2,F c (h.eg c this.1)⟩
 have r:eW (eG picks bH (bH.stays,(L.foldl (eG picks D) (D.stays,0)).2) n).1:=by rw[nO];exact xS h.jX _
 have G:∀q,bV q≠n→aH (eG picks bH (bH.stays,(L.foldl (eG picks D) (D.stays,0)).2) n).1 q=aH bH.stays q:=fun q d=>by
  rw[nO];exact uL d _ _ C
 refine⟨⟨h.same,?_,Bl h.aj n,r,fun q d=>?_,fun q d=>?_,fun m=>?_,fun c aq=>h.eg c (jZ.1 aq).1⟩,by rw[A]⟩
 ·show(eG picks bH _ n).1=_;rw[A]
 ·show aH (merge _ bH.now n) q=aH (eG picks bH _ n).1 q
  rw[qN r];by_cases e:bV q=n
  ·rw[aM e]
  ·rw[aA e,G q e]
   refine h.b6 q ?_;rcases gG.1 d with j|j
   ·exact j
   ·exact absurd (eU.1 j) e
 ·show aH (merge _ bH.now n) q=_
  have e:bV q≠n:=fun e=>d (by rw[e];simp);rw[qN r,aA e];exact h.bO q (fun j=>d (yY _ j))
 ·show(bH.log.filter _).filter _=_
  by_cases e:m=n
  ·subst e
   rw[aM bl,r8,r6];intro c _;simp
  ·have B:(bH.log.filter (fun c=> !decide (c.dir=n))).filter (fun c=>decide (c.dir=m))=bH.de m:=by
    unfold aw.de;rw[r8];refine vP (fun c _=>?_);by_cases x:c.dir=m
    ·simp[x,e]
    ·simp[x]
   rw[B,h.eF];simp[e]
theorem ov.fin{picks:List Int}{D bH:aw}{L:List aD}(h:ov picks D bH L)(A:h7 L)(aq:∀n,D.de n≠[]→n∈L)(x:∀q,bV q∉L→aH D.now q=none∧aH D.stays q=none)(E:∀c∈D.log,∀i,c.f=some i→bV c.n=c.dir):
 bH.stays=(D.hF picks).1∧bH.now=(D.hF picks).1∧bH.log=[]∧(L.foldl (eG picks D) (D.stays,0)).2=(D.hF picks).2:=by
 have e:=D.Cv picks A aq;have ag:bH.stays=(D.hF picks).1:=by rw[h.st,e]
 have C:∀q,bV q∉L→aH bH.stays q=none:=fun q d=>by
  rw[h.st]
  have:∀(M:List aD) (s:cI×Nat),(∀n∈M,n∈L)→aH s.1 q=none→aH (M.foldl (eG picks D) s).1 q=none:=by
   intro M
   induction M with
   |nil=>intro s _ h;exact h
   |cons m M ih=>
    intro s r h;refine ih _ (fun n aB=>r n (hj _ aB)) ?_;rw[nO,uL (n:=m) (fun e=>d (by rw[e];exact r m gw)) _ _ (fun c aq=>?_)]
    ·exact h
    ·have:=rC (kQ aq)
     exact⟨this.2,E c this.1⟩
  exact this L _ (fun n aB=>aB) (x q d).2
 refine⟨ag,?_,?_,by rw[e]⟩
 ·rw[←ag]
  refine Hh h.aj h.jX (fun q=>?_);by_cases d:bV q∈L
  ·exact h.b6 q d
  ·rw[h.bO q d,(x q d).1,C q d]
 ·refine List.eq_nil_iff_forall_not_mem.2 (fun c B=>?_)
  have j:=h.eF c.dir;have hm:c∈bH.de c.dir:=by unfold aw.de;rw[jZ];exact⟨B,by simp⟩
  by_cases d:c.dir∈L
  ·rw[j,aM d]at hm;cases hm
  ·rw[j,aA d]at hm
   exact absurd (aq c.dir (fun e=>by rw[e]at hm;cases hm)) d
section
variable {ρ ρ' : Nat → gL} {fb : List Nat} {H V : Heap} {D D' : aw} {p : aD} {bo cu cA k i b : Nat} {bA fO gi : aO} {b5 fJ : cI} {S : Nat → Prop} {K hN : List Nat} {g : cQ}
theorem JJ{picks:List Int}{at_ d r:Nat}{j:cI}(h:bq K g H b D)(R:au r K)(P:aH g.cJ p=some bo)(ah:oq g.ρ g.fb H D p bo cu cA k bA b5 fJ)(G:eW D.stays)(N:∀c∈D.log,∀i,c.f=some i→bV c.n=c.dir)(s:aa (ay [bo+1,cA+1,k,r]) H V)
 (Q:Var 173 V bo [.map (some d),.map (some cA),.slice none 0 0])(ag:cW V aN (gC g.fb) cA j)(aB:cW V aN (gC g.fb) d j)(F:∀q,aH j q=if bV q=p then aH (eG picks D (D.stays,at_) p).1 q else none)(M:au (d+1) K):
 bq ((d+1)::K) {g with ρ:=gy g.ρ (d+1) (.now p)} V b (sy picks D at_ p):=by
 have I:∀x,ay [bo+1,cA+1,k,r] x→g.ρ x= .dir p∨g.ρ x= .pZ p∨g.ρ x= .pt p∨g.ρ x= .out:=fun x e=>by
  have:x+1=bo+1∨x+1=cA+1∨x+1=k∨x+1=r:=by simpa[ay]using e
  rcases this with e|e|e|e
  ·exact .inl (by rw[show x=bo by omega];exact ah.rd)
  ·exact .inr (.inl (by rw[show x=cA by omega];exact ah.rs))
  ·exact .inr (.inr (.inl (ah.rc x e)))
  ·exact .inr (.inr (.inr (h.tH R x e)))
 have C:Ext g.ρ (gy g.ρ (d+1) (.now p)):=Ext.gy (fun c e=> .inl (h.tH M c e))
 have L:∀c∈(D.de p).take (ht picks at_ ((D.de p).length+1)),c.dir=p∧∀i,c.f=some i→bV c.n=c.dir:=fun c aq=>by
  have:=rC (kQ aq);exact⟨this.2,N c this.1⟩
 have A:eW (eG picks D (D.stays,at_) p).1:=by rw[nO];exact xS G _
 have O:∀q,bV q≠p→aH (eG picks D (D.stays,at_) p).1 q=aH D.stays q:=fun q B=>by rw[nO];exact uL B _ _ L
 have E:∀q i,aH (eG picks D (D.stays,at_) p).1 q=some i→i<D.fs.length:=by
  rw[nO];exact Bb _ _ h.ids.2.1 (fun c aq=>h.ids.2.2 c (rC (kQ aq)).1)
 refine h.wK s (fun x e=>?_) C (qx h.ec bl) (qK h.lt s.size aB.lt) P ⟨d,cA,0,⟨none,0,0⟩,j,j,?_⟩ ⟨o,o,o,o,o,o⟩ (fun q B=>?_) O (fun n aB=>?_) ⟨fun q i e=>?_,E,fun c aq i e=>h.ids.2.2 c (jZ.1 aq).1 i e⟩
 ·rcases I x e with e|e|e|e
  ·exact .inl e
  ·exact .inr (.inr (.inl e))
  ·exact .inr (.inr (.inr (.inl e)))
  ·exact .inr (.inr (.inr (.inr e)))
 ·exact{rd:=C.of ah.rd bl,cV:=Q,iC:=q8 o,aB:=aB,rs:=C.of ah.rs bl,ag:=ag
        iP:=fun q=>by
         rw[F];show _=if bV q=p then aH (merge _ D.now p) q else none;rw[qN A];split<;>rfl
        es:=F
        aq:=by
         have:(sy picks D at_ p).de p=[]:=by unfold sy aw.de;rw[r8,r6];intro c _;simp
         rw[this];exact aY.nil (oJ _) (rG _)
        rc:=fun c e=>J}
 ·show aH (merge _ D.now p) q=_
  rw[qN A,aA B]
 ·unfold sy aw.de
  rw[r8];refine vP (fun c _=>?_);by_cases e:c.dir=n
  ·simp[e,aB]
  ·simp[e]
 ·have e:aH (merge (eG picks D (D.stays,at_) p).1 D.now p) q=some i:=e
  rw[qN A]at e;split at e
  ·exact E q i e
  ·exact h.ids.1 q i e
end
section
variable {w0 : World} {n : Nat} {l : cm} {H : Heap} {T : Oper} {K : List Nat} {g : cQ} {b c9 : Nat} {D : aw} {x y : Operand} {t : TypeId}
theorem MV(h:bq K g H b D)(j:g.c9=D.left)(q:T.op= .store t x y)(r:aK l x=some (.pointer (some ⟨b,5,none⟩)))(hy:aK l y=some (.bool false))(ag:∀w,(sizeOf t).run Tryz.prog w= .ok 1 w):
 S Tryz.prog w0 n l H T (fun V=>bq K g V b {D with dead:=false}∧aa (ay K) H V):=
 (S.p5 h.cy 5 _ q r hy o ag bl o).mono fun V ⟨d,ab⟩=>⟨h.wM ab.e3 ⟨o,o,o,o⟩ d (fun _=>j) h.kR ⟨o,o,o,o,o,o⟩ (dz _),h.ms ab (fun c e=>by rw[e,h.b0];simp)⟩
end
theorem Ct(picks:List Int)(fs:List fi):∀(L:cI) (s:List fi×Nat),(∀i,a1 s.1 i=a1 fs i∨(a1 s.1 i).w=[])→∀i,a1 (L.foldl (hE picks) s).1 i=a1 fs i∨(a1 (L.foldl (hE picks) s).1 i).w=[]
 |[],s,h=>h
 |x::L,s,h=>by
  refine Ct picks fs L _ (fun i=>?_);unfold hE;simp only;split
  ·exact h i
  ·by_cases e:x.2=i
   ·subst e
    by_cases d:x.2<s.1.length
    ·exact .inr (by simp[a1,List.getD,d])
    ·have:s.1.set x.2 ⟨ik (a1 s.1 x.2).w (a1 s.1 x.2).stays (ht picks s.2 (jj (a1 s.1 x.2).w)),ik (a1 s.1 x.2).w (a1 s.1 x.2).stays (ht picks s.2 (jj (a1 s.1 x.2).w)),[]⟩=s.1:=tj J
     rw[this];exact h _
   ·have:a1 (s.1.set x.2 ⟨ik (a1 s.1 x.2).w (a1 s.1 x.2).stays (ht picks s.2 (jj (a1 s.1 x.2).w)),ik (a1 s.1 x.2).w (a1 s.1 x.2).stays (ht picks s.2 (jj (a1 s.1 x.2).w)),[]⟩) i=a1 s.1 i:=by simp[a1,List.getD,List.getElem?_set,e]
    rw[this];exact h i
theorem yc(picks:List Int):∀(L:cI) (s:List fi×Nat),(L.foldl (hE picks) s).1.length=s.1.length
 |[],s=>rfl
 |x::L,s=>by
  rw[gX,yc picks L];unfold hE;simp only;split
  ·rfl
  ·simp
theorem Cr(picks:List Int):∀(L:cI) (s:List fi×Nat),(L.foldl (hE picks) s).2≤s.2+L.length
 |[],s=>dz _
 |x::L,s=>by
  have h:=Cr picks L (hE picks s x);rw[gX,fx];have:(hE picks s x).2≤s.2+1:=by unfold hE;simp only;split<;>simp
  omega
theorem Co(picks:List Int)(D:aw):∀(L:List aD) (s:cI×Nat),(L.foldl (eG picks D) s).2≤s.2+L.length
 |[],s=>dz _
 |x::L,s=>by
  have h:=Co picks D L (eG picks D s x);rw[gX,fx];have:(eG picks D s x).2≤s.2+1:=by unfold eG;split<;>simp
  omega
theorem CD{ρ:Nat→gL}{a k:Nat}{eM fh:gL}(j:∀c,c+1=a→ρ c=eM)(ab:∀c,c+1=k→ρ c=fh)(n:eM≠fh):ak a k:=fun c aP d=>n ((j c aP).symm.trans (ab c d))
theorem zN{ρ:Nat→gL}{b:Nat}{r:gL}(h:ρ b=r):∀c,c+1=b+1→ρ c=r:=fun c e=>by rw[show c=b by omega];exact h
theorem Ci(L:List aD)(aB:L.Nodup):∀l:List c_,(L.map (fun n=>(l.filter (fun c=>decide (c.dir=n))).length)).sum≤l.length
 |[]=>by
  have:∀L:List aD,(L.map (fun n=>(([]:List c_).filter (fun c=>decide (c.dir=n))).length)).sum=0:=by
   intro L
   induction L with
   |nil=>rfl
   |cons n L ih=>rw[dk,ib,ih];rfl
  rw[this];exact iT _
 |c::l=>by
  have ih:=Ci L aB l
  have e:L.map (fun n=>((c::l).filter (fun c=>decide (c.dir=n))).length)=L.map (fun n=>(if c.dir=n then 1 else 0)+(l.filter (fun c=>decide (c.dir=n))).length):=by
   refine mK (fun n _=>?_);by_cases h:c.dir=n
   ·rw[mM (by simpa using h),aM h,fx];omega
   ·rw[mL (by simpa using h),aA h];omega
  rw[e,sum_add,fx]
  have:(L.map (fun n=>if c.dir=n then 1 else 0)).sum≤1:=by
   by_cases h:c.dir∈L
   ·rw[FW L aB _ _ h];exact dz _
   ·have:L.map (fun n=>if c.dir=n then 1 else 0)=L.map (fun _=>0):=mK (fun n aB=>aA (fun e=>h (by rw[e];exact aB)))
    rw[this]
    have d:∀L:List aD,(L.map (fun _=>0)).sum=0:=by
     intro L
     induction L with
     |nil=>rfl
     |cons n L ih=>rw[dk,ib,ih]
    rw[d];exact iT _
  omega
theorem Mj(l:cI)(p:aD)(i:Nat):(hJ l p i).length≤l.length+1:=by
 induction l with
 |nil=>simp[hJ]
 |cons x l ih=>
  unfold hJ;split
  ·simp only[fx];omega
  ·split<;>simp
theorem G3(c:c_)(l:cI):(c.ap l).length≤l.length+1:=by
 unfold c_.ap
 have d:(if c.g=[]then l else e4 l c.g).length≤l.length:=by
  split
  ·exact dz _
  ·exact r9 _ _
 cases c.f with
 |none=>simp only;omega
 |some i=>simp only;have:=Mj (if c.g=[]then l else e4 l c.g) c.n i;omega
theorem Bc:∀(cs:List c_) (l:cI),(jc cs l).length≤l.length+cs.length
 |[],l=>dz _
 |c::cs,l=>by
  have d:=Bc cs (c.ap l);have ab:=G3 c l;show(jc cs (c.ap l)).length≤_;rw[fx];omega
theorem Cq(picks:List Int)(D:aw):∀(L:List aD) (s:cI×Nat),(L.foldl (eG picks D) s).1.length≤s.1.length+(L.map (fun n=>(D.de n).length)).sum
 |[],s=>by simp
 |n::L,s=>by
  have h:=Cq picks D L (eG picks D s n);rw[gX,dk,ib]
  have ab:(eG picks D s n).1.length≤s.1.length+(D.de n).length:=by
   rw[nO];have:=Bc ((D.de n).take (ht picks s.2 ((D.de n).length+1))) s.1;have d:((D.de n).take (ht picks s.2 ((D.de n).length+1))).length≤(D.de n).length:=by rw[eJ];omega
   omega
  omega
theorem JC(D:aw)(picks:List Int):(D.hF picks).1.length≤D.stays.length+D.log.length:=by
 have d:=Cq picks D D.oI (D.stays,0);have ab:=Ci D.oI (tU D.CC) D.log;unfold aw.hF;simp only at d;unfold aw.de at d;omega
end xz
namespace AX
open ho jz m3 kE pf ox sI xx xy AW xz
theorem JE(K:List Nat)(g:cQ)(b:Nat)(D:aw)(aQ:Nat→Prop)(aG:aO)(picks:List Int)(w0:World)(N:Heap)
 (d:bq K g N b D)(Q:Rd aQ N pw 1 aG.v picks)(bb:bp aQ N.size)(db:aS aQ K)(ag:h5 274877906944 D)(gM:∀i,jj (a1 D.fs i).w≤2305843009213693952)(dE:∀x∈picks,-9223372036854775808≤x∧x≤9223372036854775807):
 aE Tryz.prog w0 30 #[ptr b,aG.v] N (fun r cC=>∃bF:List Nat,∃g2:cQ,r= .int .i64 ((D.gr picks).2:Int)∧bq bF g2 cC b (D.fk picks)∧bk K N.size bF∧aa (ay K) N cC):=by
 refine aE.aP [ptr b,aG.v] Tryz.func30 ?_;intro gU gL;have C:aa (ay K) N N:=aa.refl _ _;have c3:=bk.refl K N.size;have am:=d.aC;have cl:=d.abs;have iw:=d.kd;have iH:=ag.op;have iG:=d.hm.fX.nodup;have iE:=ag.eg;have iI:=ag.j_;have iu:=JC D picks;refine I.seq (fun S fz _=>I.region ?_);refine G.aj ?_;refine fz _ _ (I.seq (fun bF fB _=>I.region ?_));refine G.af ?_;refine G.v1 (Y.build (v:= .agg #[aG.v,.int .i64 ((0:Nat):Int)]) o o fy) ?_;refine G.aU Z.bv ?_;rintro hI fC ⟨rfl,A,eo,_⟩;have e9:=au.hU d.aC;have bP:=ax.new (bb.mono C.size);have c8:=ae.new C.size;obtain⟨d,Q,C,_⟩:=cf eo d Q C;have A:Var 164 fC N.size ([aG.v,.int .i64 ((0:Nat):Int)]):=A;refine G.aj ?_;refine fB _ _ (I.O (fun fD=>?_));refine G.av 2 ?_;refine G.a6 d.cy.W hL q0 po ?_;have b0:=d.hm;have gZ:=b0.lt;refine aW IS (KV g.bE w0 _) ?_;rintro hJ hM ⟨e7,rfl,dJ,iC,er⟩;obtain⟨d,Q,A,b0,C,_⟩:=dH er d Q A b0 C;have gW:=dJ.le;refine aW x5 (Oi e7 g.bE ptr g.cJ w0 _ dJ b0 J) ?_;rintro hN a7 ⟨aV,fW,L,rfl,ows,cO,bd,eu⟩;have dd:au fW K:=au.qh au.lT d.aC cO;have ev:=ak.app ak.z A.lt cO;obtain⟨d,Q,A,C,_⟩:=ed eu d Q A C;have hb:=ows.le;have ck:=tU bd.1;have gk:=jM ck (fun k R=>(bd.2 k).1 R);rw[dg]at gk
 have cz:∀q,q∉L→aH g.cJ q=none:=fun q B=>by
  cases hm:aH g.cJ q with
  |none=>rfl
  |some x=>exact absurd ((bd.2 q).2 (gF.1 (by rw[hm];rfl))) B
 refine G.aj ?_;refine fD (I.seq (fun aJ fX _=>I.O (fun h9=>?_)));refine G.af ?_;refine G.v1 (bu ows.rd jR) ?_;refine G.af (G.nil (h9 ?_));refine I.aC (fun _ fY _=>?_)
 refine I.bb (fun(aK:Nat×(List Nat)×cQ×aw×Nat)=>match aK with|(i,S,g1,bH,bB)=>[(0,ptr b),(5,.pointer (some ⟨N.size,0,none⟩)),(6,aV.v),(27,aV.v),(28,.int .i64 (L.length:Int)),(29,.int .i64 (i:Int))])
  (fun(i,S,g1,bH,bB) (H:Heap)=>(bq S g1 H b bH)∧Var 164 H N.size [aG.v,.int .i64 (bB:Int)]∧i≤L.length∧ov picks D bH (L.take i)∧bB=((L.take i).foldl (eG picks D) (D.stays,0)).2∧(g1.fb=g.fb∧g1.cJ=g.cJ)∧bk K a7.size S∧au (N.size+1) S∧aa (ay (K++[(N.size+1)])) a7 H)
  (fun(i,S,g1,bH,bB)=>L.length-i) (0,K,g,D,0) ⟨o,o,o,o,o,o,trivial⟩ ?_ ?_
 ·
  exact⟨d,A,J,ov.start ag.aj ag.jX,o,⟨o,o⟩,bk.refl _ _,e9,aa.refl _ _⟩
 rintro⟨i,S,g1,bH,bB⟩ M fZ gS f_ ga;obtain⟨d,A,ix,ai,bA,bn,aX,cc,ac⟩:=fZ;have cT:=aS.ej db (bb.mono C.size) aX;have cY:=bk.O c3 aX C.size;have Q:=Q.aJ ac (aS.app db (aS.T bP));have ows:=ows.aJ ac (au.app dd (au.T ev.symm));have C:=C.bt ac (ar.app (ar.cO c3 (by intro k R;simp[R])) (ar.T (an.q c8)));have hP:=ac.size;have am:=d.aC;have a6:=cc;have b7:=aX;have dX:=ae.refl (N.size+1) a7.size;have dk:=Co picks D (L.take i) (D.stays,0);rw[←bA,eJ]at dk;simp only at dk;refine I.O (fun gb=>?_);refine G.v1 bZ (G.nil (gb ?_));refine I.t2 (fun dl dn=>?_);refine a8 (fun gd=>?_) (fun gd=>?_)
 ·
  have bX:i<L.length:=by omega
  have dC:L[i]∉L.take i:=fun B=>by
   have O:=ck;rw[←hY i L,nY]at O;exact O.2.2 _ B _ (by rw[oS bX];exact gw) o
  have dF:=ai.step dC ag.la;have cv:L[i]∈g.cJ.map (·.1):=(bd.2 _).1 (cU bX)
  obtain⟨bo,gp⟩:∃bo,aH g.cJ L[i]=some bo:=by
   rw[←gF]at cv
   cases B:aH g.cJ L[i]with
   |none=>rw[B]at cv;cases cv
   |some bo=>exact⟨bo,o⟩
  have cp:aH g1.cJ L[i]=some bo:=by rw[bn.2];exact gp
  have ir:(bH.de L[i]).length≤D.log.length:=by rw[ai.eF,aA dC];exact r9 _ _
  refine I.skip (dl (I.t1 (fun ew=>I.aC (fun ey _ _=>I.O (fun ez=>?_)))));refine G.v1 (mo ows i jR b3) ?_;refine G.v1 (bf (ows.W (j:=i) ic) cd) ?_;refine G.aj ?_;refine ez (I.t1 (fun eB=>?_));obtain⟨iL,V,cA,gR,iM,dN,af⟩:=d.hG _ bo cp;have aD:aa (ay [(bo+1),(V+1),cA,(N.size+1)]) M M:=aa.refl _ _;have dK:hO S (bo+1):=(d.nk af.rd bl);have cV:=af.cV;have gX:=cV.lt;have aR:=au.at a6 dK;have cZ:an (K++[(N.size+1)]) a7.size (bo+1):=ar.at (ar.cO b7 (by intro k R;simp[R])) dK;have a0:=ae.refl (bo+1) M.size;have dL:hO S (V+1):=(d.nk af.rs bl);have F:=af.ag;have hc:=F.lt;have a3:=au.at a6 dL;have eC:an (K++[(N.size+1)]) a7.size (V+1):=ar.at (ar.cO b7 (by intro k R;simp[R])) dL;have eE:=ae.refl (V+1) M.size;have gN:hO S cA:=(d.nZ af.rc bl);have bg:=af.aq;have br:=bg.le;have b9:=au.at a6 gN;have eF:=ae.refl (N.size+1) M.size;have bG:ak (bo+1) (V+1):=CD (zN af.rd) (zN af.rs) bl;have eM:ak (V+1) cA:=CD (zN af.rs) af.rc bl;refine I.region ?_;refine G.av 2 ?_;refine G.a6 d.cy.W hL q0 po ?_;refine G.af ?_;refine G.v1 (Y.cast (v2:=ptr bo) (sc uK d.hm.fX (fun _=>rfl) gx o q7 Tryz.underlying9 xa o o) (by rw[cp];rfl)) ?_;refine G.aj ?_;refine eB ?_
  refine I.cut (fun(aK:cI×Nat)=>match aK with|(bC,a2)=>[(0,ptr b),(5,.pointer (some ⟨N.size,0,none⟩)),(6,aV.v),(9,ptr bo),(27,aV.v),(28,.int .i64 (L.length:Int)),(29,.int .i64 (i:Int))])
   (fun(bC,a2) (H:Heap)=>(cW H aN (gC g1.fb) V bC)∧Var 164 H N.size [aG.v,.int .i64 (a2:Int)]∧(∀q,aH bC q=if bV q=L[i]then aH (eG picks bH (bH.stays,bB) L[i]).1 q else none)∧a2=(eG picks bH (bH.stays,bB) L[i]).2∧aa (ay [(V+1),(N.size+1)]) M H) (fun _ a5 _=>?_) ?_
  ·
   have az:aa (ay [(V+1),(N.size+1)]) M M:=aa.refl _ _;have dS:=ae.refl (V+1) M.size;have dU:=ae.refl (N.size+1) M.size;refine I.O (fun eN=>?_);refine G.av 2 ?_;refine G.a6 cV.W jP mY uE ?_;refine G.v1 (bu bg.rd ui) ?_;refine G.v1 fA (G.nil (eN ?_));refine a8 (fun cg=>?_) (fun cg=>?_)
   ·
    refine I.t1 (fun eO=>?_);refine eA (fun aL=>aa (ay [(N.size+1)]) M aL) [] ?_;have ap:aa (ay [(N.size+1)]) M M:=aa.refl _ _;have cF:=ae.refl (N.size+1) M.size;refine U.af 0 o ap ?_;refine U.bs 1 o ap ?_;refine U.t1 2 o (fun aL B=>Y.fieldAddr (cV.aJ B (au.T aR.symm)).W o jP o o mY bc o) ap ?_;refine U.t1 3 o (fun aL B=>bf ((cV.aJ B (au.T aR.symm)).W.drop 2) uE) ap ?_;refine U.af 4 o ap ?_;refine U.af 5 o ap ?_;refine U.bs 6 o ap ?_;refine U.t1 7 o (fun aL B=>Y.fieldAddr (cV.aJ B (au.T aR.symm)).W o jP o o mY bc o) ap ?_;refine U.t1 8 o (fun aL B=>bf ((cV.aJ B (au.T aR.symm)).W.drop 2) uE) ap ?_;refine U.t1 9 o (fun aL B=>Y.len (bg.aJ B (au.T b9.symm)).rd o ui o) ap ?_;refine U.t1 10 o (fun aL B=>Y.cast (v2:= .int .i64 (((bH.de L[i]).length+1:Nat):Int)) (Y.xH (a:=((bH.de L[i]).length:Int)) (b:=1) o o o J) (eI J)) ap ?_;refine U.af 14 o ap ?_;refine U.bg 11 ?_;refine cP B_ (Ey aQ N.size bB aG picks ((bH.de L[i]).length+1) w0 _ A Q (bb.mono J) bP J J dE) ?_;rintro hR bE ⟨rfl,A,eQ⟩;obtain⟨cV,F,bg,az,ap,_⟩:=g_ eQ cV aR.symm F a3.symm bg b9.symm az (an.r dU) ap (an.r cF);obtain⟨fG,ct⟩:∃fG,fG=ht picks bB ((bH.de L[i]).length+1):=⟨_,o⟩;have gD:=E0 picks bB (m:=(bH.de L[i]).length+1) J;rw[←ct]at gD;refine U.b5 ap (ar.T (an.r cF)) ?_;have ap:aa (ay [(N.size+1)]) bE bE:=aa.refl _ _;refine U.e (g:=fun v=>v) 12 bD o bD bD bD (Y.slice bg.rd (0) fG o ui qZ o (.inl ⟨o,o⟩) (.inr ⟨_,_,_,o,o,(by rw[ct])⟩) J J) cS o o ap (fun gf b4=>?_);refine U.t1 13 o (fun aL B=>Y.cast (v2:= .int .i64 (fG:Int)) (bu (b4.aJ B (aS.cons (ax.of b9.symm) aS.nil)) ui) (eI b2)) ap ?_;refine dB ?_;refine eO (I.aC (fun _ eR _=>?_))
    refine I.bb (fun(aK:Nat×cI)=>match aK with|(i2,aU)=>[(0,ptr b),(5,.pointer (some ⟨N.size,0,none⟩)),(6,aV.v),(9,ptr bo),(27,aV.v),(28,.int .i64 (L.length:Int)),(29,.int .i64 (i:Int)),(57,gf),(58,.int .i64 (fG:Int)),(59,.int .i64 (i2:Int))])
     (fun(i2,aU) (H:Heap)=>(cW H aN (gC g1.fb) V aU)∧i2≤fG∧(∀q,aH aU q=if bV q=L[i]then aH (jc (((bH.de L[i]).take fG).take i2) bH.stays) q else none)∧aa (ay [(V+1)]) bE H)
     (fun(i2,aU)=>fG-i2) (0,dN) ⟨o,o,o,o,o,o,o,o,o,o,trivial⟩ ?_ ?_
    ·
     exact⟨F,J,fun q=>af.es q,aa.refl _ _⟩
    rintro⟨i2,aU⟩ hT hg hU eS eT;obtain⟨F,iy,dy,av⟩:=hg;obtain⟨A,cV,_⟩:=dW av A a3 cV bG;have b4:=b4.aJ av (aS.cons (ax.of eM.symm) aS.nil);obtain⟨az,_⟩:=c0 av az (an.r dS);have dV:=ae.refl (V+1) bE.size;refine I.O (fun eV=>?_);refine G.v1 bZ (G.nil (eV ?_));refine I.t2 (fun eW eY=>?_);refine a8 (fun ds=>?_) (fun ds=>?_)
    ·
     have iz:i2<fG:=by omega
     have dx:i2<((bH.de L[i]).take fG).length:=by rw[eJ];omega
     obtain⟨W,cm⟩:∃W,W=((bH.de L[i]).take fG)[i2]:=⟨_,o⟩;have cn:=rC (kQ (cm▸cU dx:W∈(bH.de L[i]).take fG));have dp:(W.g≠[]→bV W.g=L[i])∧∀j,W.f=some j→bV W.n=L[i]:=⟨fun gu=>by rw[CB gu];exact cn.2,fun j bY=>by rw[ag.la W (ai.eg W cn.1) j bY];exact cn.2⟩;refine I.skip (eW (I.t1 (fun eZ=>I.aC (fun dZ _ _=>I.O (fun d_=>?_)))));refine G.cn (Y.pC b4 i2 o ui qZ o o gP b2) fun ib eb=>?_;refine G.v1 (Y.cast (v2:= .agg (jn g1.fb W).toArray) (ba eb.W uF qZ (oJ _ _)) (by rw[cm];simp)) ?_;refine G.aU (Z.a7 PJ) ?_;rintro bK hW ⟨rfl,bK,ec,_⟩;have ef:=ak.new cV.lt;have eg:=ak.new F.lt;have eh:=ae.new av.size;obtain⟨cV,F,av,_⟩:=cf ec cV F av;refine G.s1 (et bK _ (jn g1.fb W) (rG _ _) qZ (oJ _ _) ((dD (oJ _ _).symm))) ?_;rintro hs ⟨bK,dR⟩;obtain⟨cV,F,av,_⟩:=dQ dR cV ef F eg av (an.q eh);refine G.nil (d_ ?_);refine ka 6 (fun gV gm=>?_);refine G.av 2 ?_;refine G.aV jP nt ?_;refine G.a6 cV.W nu lN oB ?_;refine G.v1 (ba bK.W uF qZ (oJ _ _)) ?_;refine G.nil (gm _ ?_);refine aW Ca (E3 g1.fb V aU W w0 _ F) ?_;rintro hX hZ ⟨F,ei⟩;obtain⟨av,_⟩:=c0 ei av (an.r dV);refine G.nil (dZ (eZ (I.region ?_)));refine G.v1 bN ?_;refine G.af (G.nil ?_);refine aT.sub (eS (i2+1,c_.rk W aU) _ ?_ ?_) ⟨o,o,o,o,o,(aF J),(aF J),o,(aF J),(aF J),trivial⟩
     ·exact⟨F,J,fun q=>by
       rw[D9,dy,eP dx,G6,←cm];by_cases B:bV q=L[i]
       ·rw[aM B,aM B];exact(qM W _ q).symm
       ·rw[aA B,aA B];exact Bq (fun j bY=>dp.2 j bY) dp.1 B,av⟩
     ·first|omega|(simp only;omega)|(simp;omega)
    ·
     refine I.exit (eY (eT (eR ?_)));have b1:bH.de L[i]≠[]:=fun e=>by rw[e]at cg;simp at cg
     have gv:i2=fG:=by omega
     refine aT.sub (a5 (aU,bB+1) _ ?_) ⟨o,o,o,o,o,(aF J),(aF J),trivial⟩;exact⟨F,A,fun q=>by rw[dy,nO,gv,←ct,r2,Nat.min_self],by unfold eG;rw[aA b1],az⟩
   ·
    refine I.skip ?_;have b1:bH.de L[i]=[]:=mH J;refine aT.sub (a5 (dN,bB) _ ?_) ⟨o,o,o,o,o,(aF J),(aF J),trivial⟩;exact⟨F,A,fun q=>by rw[yb b1];exact af.es q,by rw[yb b1],az⟩
  ·
   rintro⟨bC,a2⟩ hd dP;obtain⟨F,A,gJ,gn,bM⟩:=dP;have cV:=cV.aJ bM (au.cons bG (au.T aR.symm));have ac:=ac.bt bM (ar.cons eC (ar.T (an.r dX)));have aD:=aD.bt bM (ar.cons (an.r eE) (ar.T (an.r eF)));have ie:=bM.size;refine I.region ?_;refine G.av 4 ?_;refine G.aV jP nt ?_;refine G.a6 cV.W nu lN oB ?_;refine aW x6 (za V bC w0 _ F) ?_;rintro h2 h3 ⟨a_,rfl,bj,bJ,ej⟩;have ek:=ak.app ak.z A.lt bJ;have cG:=ak.app ak.z cV.lt bJ;have e0:=ae.O (ae.refl 0 _) bJ ac.size;have fE:=ae.O (ae.refl 0 _) bJ aD.size;obtain⟨A,cV,F,ac,aD,_⟩:=dH ej A cV F ac aD;have a9:=bj.le;refine G.bs ?_;refine G.aV jP nt ?_;refine G.aV nu lN ?_;refine G.s1 (du cV 0 ([.map (some a_),.map (some V),gR.v]) lN bl o) ?_;rintro hz ⟨cV,bt⟩;have bt:=bt.e3;obtain⟨A,F,bj,_⟩:=dQ bt A aR F bG.symm bj cG.symm;have ac:=ac.bt bt (ar.cons cZ ar.nil);obtain⟨aD,_⟩:=c0 bt aD (an.r a0);refine G.bs ?_;refine G.aV jP mY ?_;refine G.s1 (du cV 2 ([.map (some a_),.map (some V),.slice none 0 0]) mY bl o) ?_;rintro hA ⟨cV,bw⟩;have bw:=bw.e3;obtain⟨A,F,bj,_⟩:=dQ bw A aR F bG.symm bj cG.symm;have ac:=ac.bt bw (ar.cons cZ ar.nil);obtain⟨aD,_⟩:=c0 bw aD (an.r a0);refine G.nil ?_;have fF:au (N.size+1) ((a_+1)::S):=(au.cons ek a6);have ce:bk K a7.size ((a_+1)::S):=(bk.cons e0 b7);have d:=JJ d a6 cp af ai.jX (fun c aq=>ag.la c (ai.eg c aq)) aD cV F bj gJ (au.tK d.aC fE);have am:=d.aC;refine ey (ew (I.region ?_));refine G.v1 bN ?_;refine G.af (G.nil ?_);refine aT.sub (f_ (i+1,(a_+1)::S,{g1 with ρ:=gy g1.ρ (a_+1) (.now L[i])},sy picks bH bB L[i],a2) _ ?_ ?_) ⟨rfl,rfl,rfl,rfl,(aF J),(aF J),trivial⟩
   ·exact⟨d,A,J,by rw[eP bX,bA];exact dF.1,by rw[eP bX,←dF.2,←bA];exact gn,bn,ce,fF,ac⟩
   ·first|omega|(simp only;omega)|(simp;omega)
 ·
  have gA:i=L.length:=by omega
  rw[gA,eD]at ai bA;obtain⟨aP,bR,dc,gi⟩:=ai.fin bd.1 (fun n aB=>mb (fun h=>aB (cl n (cz n h)).2)) (fun q B=>(cl _ (cz _ B)).1 q o) ag.la;have im:bH.now.length≤549755813888:=by rw[bR];omega
  refine I.exit (dn (ga (fY ?_)));refine fX _ _ (I.O (fun fH=>?_));refine G.aU (Z.ey (Z.qL aN (gC g.fb) o)) ?_;rintro h4 c9 ⟨rfl,X,fI,_⟩;have b_:=au.hU d.aC;have ci:=ax.new (bb.mono C.size);have fJ:=ak.new ows.le;have c2:=ak.new A.lt;have fK:=ae.new C.size;obtain⟨d,Q,ows,A,C,_⟩:=dH fI d Q ows A C;have gY:=X.lt;refine G.aj ?_;refine fH (I.t1 (fun dG=>I.O (fun fL=>?_)));refine G.af ?_;refine G.v1 (bu ows.rd jR) ?_;refine G.af (G.nil (fL ?_));refine I.aC (fun _ fM _=>?_)
  refine I.bb (fun(aK:Nat×cI)=>match aK with|(i3,mc)=>[(0,ptr b),(5,.pointer (some ⟨N.size,0,none⟩)),(12,.map (some M.size)),(86,aV.v),(87,.int .i64 (L.length:Int)),(88,.int .i64 (i3:Int))])
   (fun(i3,mc) (H:Heap)=>(cW H aN (gC g.fb) M.size mc)∧i3≤L.length∧(∀q,aH mc q=if bV q∈L.take i3 then aH bH.now q else none)∧aa (ay [(M.size+1)]) c9 H)
   (fun(i3,mc)=>L.length-i3) (0,[]) ⟨o,o,o,o,o,o,trivial⟩ ?_ ?_
  ·
   exact⟨X,J,fun q=>by simp[aH],aa.refl _ _⟩
  rintro⟨i3,mc⟩ h6 gg h7 co fN;obtain⟨X,iA,aZ,bL⟩:=gg;obtain⟨d,Q,ows,A,C,_⟩:=g_ bL d (iv b_) Q ci ows fJ A c2 C (an.q fK);have dT:=ae.refl (M.size+1) c9.size;refine I.O (fun fO=>?_);refine G.v1 bZ (G.nil (fO ?_));refine I.t2 (fun fP cs=>?_);refine a8 (fun gh=>?_) (fun gh=>?_)
  ·
   have cq:i3<L.length:=by omega
   have gK:L[i3]∉L.take i3:=fun B=>by
    have O:=ck;rw[←hY i3 L,nY]at O;exact O.2.2 _ B _ (by rw[oS cq];exact gw) o
   have cx:L[i3]∈g.cJ.map (·.1):=(bd.2 _).1 (cU cq)
   obtain⟨eH,gq⟩:∃eH,aH g.cJ L[i3]=some eH:=by
    rw[←gF]at cx
    cases B:aH g.cJ L[i3]with
    |none=>rw[B]at cx;cases cx
    |some eH=>exact⟨eH,o⟩
   have dq:aH g1.cJ L[i3]=some eH:=by rw[bn.2];exact gq
   obtain⟨cB,iO,iJ,iQ,dM,iP,bS⟩:=d.hG _ eH dq;refine I.skip (fP (I.t1 (fun fQ=>I.aC (fun bQ _ _=>I.O (fun fl=>?_)))));refine G.v1 (mo ows i3 jR b3) ?_;refine G.v1 (bf (ows.W (j:=i3) ic) cd) ?_;refine G.aj ?_;refine fl (I.region ?_);refine G.av 3 ?_;refine G.a6 d.cy.W hL q0 po ?_;refine G.af ?_;refine G.v1 (Y.cast (v2:=ptr eH) (sc uK d.hm.fX (fun _=>rfl) gx o q7 Tryz.underlying9 xa o o) (by rw[dq];rfl)) ?_;refine G.bs ?_;refine G.aV jP nt ?_;refine G.a6 (bS.cV.W.drop 0) nu lN oB ?_;have dz:=(show cW _ aN (gC g.fb) cB dM from bn.1▸bS.aB);have hf:=dz.lt;have fR:ak (cB+1) (M.size+1):=(au.at b_ (d.nk bS.iC bl)).symm;refine aW IT (JA (gC g.fb) M.size cB mc dM w0 _ X dz fR) ?_;rintro ig ij ⟨gQ,rfl,X,gH,e1⟩;obtain⟨bL,_⟩:=c0 e1 bL (an.r dT);refine G.nil (bQ (fQ (I.region ?_)));refine G.v1 bN ?_;refine G.af (G.nil ?_);refine aT.sub (co (i3+1,gQ) _ ?_ ?_) ⟨o,o,o,o,(aF J),(aF J),trivial⟩
   ·exact⟨X,J,fun q=>by
     have cy:bV q∈L.take (i3+1)↔bV q∈L.take i3∨bV q=L[i3]:=by rw[eP cq,gG,eU]
     rw[gH,bS.iP,aZ];by_cases B:bV q=L[i3]
     ·have O:bV q∉L.take i3:=by rw[B];exact gK
      rw[aM B,aA O,aM (cy.2 (.inr B))];cases aH bH.now q<;>rfl
     ·rw[aA B];by_cases O:bV q∈L.take i3
      ·rw[aM O,aM (cy.2 (.inl O))]
      ·rw[aA O,aA (fun h=>(cy.1 h).elim O B)],bL⟩
   ·first|omega|(simp only;omega)|(simp;omega)
  ·
   have gz:i3=L.length:=by omega
   rw[gz,eD]at aZ
   have aZ:∀q,aH mc q=aH bH.now q:=fun q=>by
    rw[aZ];by_cases h:bV q∈L
    ·rw[aM h]
    ·rw[aA h,ai.bO q h,((cl _ (cz _ h)).1 q o).1]
   have iF:mc.length≤bH.now.length:=by
    have O:=jM (b:=bH.now.map (·.1)) X.fX.nodup (fun k R=>by rw[←gF]at R⊢;rw[←aZ];exact R);rwa[dg,dg]at O
   refine I.exit (cs (fN (fM ?_)));refine dG (I.t1 (fun fS=>I.O (fun fT=>?_)));refine G.af ?_;refine aW IU (KW M.size w0 _) ?_;rintro il hB ⟨e8,rfl,da,iD,e2⟩;obtain⟨d,Q,A,X,C,_⟩:=dH e2 d Q A X C;have hh:=da.le;refine aW x5 (Oj e8 M.size (gC g.fb) mc w0 _ da X J) ?_;rintro hC ca ⟨fU,e_,P,rfl,bm,cL,di,cR⟩;have fa:au e_ S:=au.qh au.lT d.aC cL;have fc:=ak.app ak.z A.lt cL;obtain⟨d,Q,A,X,C,_⟩:=dH cR d Q A X C;have hi:=bm.le;have dj:P=bH.now.map (·.1):=wG di.1 ai.aj.qX (fun q=>by rw[di.2,←gF,←gF,aZ]);have iq:P.length=bH.now.length:=by rw[dj,dg]
   refine G.v1 (bu bm.rd jR) ?_;refine G.af (G.nil (fT ?_));refine I.aC (fun _ fe _=>?_)
   refine I.bb (fun(aK:Nat×(List Nat)×cQ×(List fi)×Nat)=>match aK with|(j,aJ,g4,E,a4)=>[(0,ptr b),(5,.pointer (some ⟨N.size,0,none⟩)),(12,.map (some M.size)),(107,fU.v),(108,.int .i64 (P.length:Int)),(109,.int .i64 (j:Int))])
    (fun(j,aJ,g4,E,a4) (H:Heap)=>(bq aJ g4 H b {bH with fs:=E})∧Var 164 H N.size [aG.v,.int .i64 (a4:Int)]∧j≤P.length∧(E,a4)=(bH.now.take j).foldl (hE picks) (D.fs,bB)∧g4.fb=g.fb∧bk S ca.size aJ∧au (N.size+1) aJ∧aa (ay (S++[(N.size+1)])) ca H)
    (fun(j,aJ,g4,E,a4)=>P.length-j) (0,S,g1,D.fs,bB) ⟨o,o,o,o,o,o,trivial⟩ ?_ ?_
   ·
    exact⟨(by have O:=ai.same.2.2.1;rw[←O];exact d),A,J,o,bn.1,bk.refl _ _,a6,aa.refl _ _⟩
   rintro⟨j,aJ,g4,E,a4⟩ h_ fV ia be ff;obtain⟨d,A,bY,bz,bO,aX,cc,aC⟩:=fV;have cD:=aS.ej cT (bb.mono C.size) aX;have b5:=bk.O cY aX C.size;have Q:=Q.aJ aC (aS.app cT (aS.T bP));have X:=X.aJ aC (au.app b_ (au.T c2.symm));have bm:=bm.aJ aC (au.app fa (au.T fc.symm));have C:=C.bt aC (ar.app (ar.cO cY (by intro k R;simp[R])) (ar.T (an.q c8)));have hD:=aC.size;have am:=d.aC;have bx:=cc;have b6:=aX;have dY:=ae.refl (N.size+1) ca.size;have dh:=yc picks (bH.now.take j) (D.fs,bB);have df:=Cr picks (bH.now.take j) (D.fs,bB);have ch:=Ct picks D.fs (bH.now.take j) (D.fs,bB) (fun i=> .inl o);rw[←bz]at dh df ch;simp only[eJ]at dh df ch;refine I.O (fun fg=>?_);refine G.v1 bZ (G.nil (fg ?_));refine I.t2 (fun fh fj=>?_);refine a8 (fun fk=>?_) (fun fk=>?_)
   ·
    have iB:j<P.length:=by omega
    have cr:j<bH.now.length:=by omega
    have gl:P[j]=bH.now[j].1:=by simp only[dj,oV]
    have dt:=n1 ai.aj.nodup (show(bH.now[j].1,bH.now[j].2)∈bH.now from cU cr);have hid:=d.ids.1 _ _ dt;have dm:g4.fb.getD bH.now[j].2 0=g.fb.getD bH.now[j].2 0:=by rw[bO]
    obtain⟨iN,iR,iS,iK,gO,bU⟩:=d.gu _ hid;have gE:gO.length=(a1 E bH.now[j].2).w.length:=by have O:=aI List.length bU.lw;rw[dg]at O;exact O
    refine I.skip (fh (I.t1 (fun c4=>I.aC (fun c6 _ _=>I.O (fun fm=>?_)))));refine G.v1 (mo bm j jR b3) ?_;refine G.v1 (bf (bm.W (j:=j) ic) cd) ?_;refine G.aj ?_;refine fm (I.O (fun fo=>?_));refine G.av 2 ?_;refine G.v1 (Y.cast (v2:=gC g.fb bH.now[j].2) (sc (fun i=>⟨g.fb.getD i 0,0,none⟩) X.fX (fun _=>rfl) gx o p0 Tryz.underlying9 GD o o) (by rw[gl,aZ,dt];rfl)) ?_;refine G.aj ?_;refine fo (I.O (fun fp=>?_));refine G.av 2 ?_;refine G.v1 (Y.fieldAddr (bU.qj dm).W o jw o o mh bc o) ?_;refine G.v1 (bf ((bU.qj dm).W.drop 2) sM) ?_;refine G.v1 (Y.cast (v2:= .int .i64 ((a1 E bH.now[j].2).w.length:Int)) (bu bU.hw.rd uk) (by rw[gE])) ?_;refine G.v1 fA (G.nil (fp ?_));refine a8 (fun cb=>?_) (fun cb=>?_)
    ·
     have dI:(a1 E bH.now[j].2).w≠[]:=fun e=>by rw[e]at cb;simp at cb
     have bT:a1 E bH.now[j].2=a1 D.fs bH.now[j].2:=(ch _).resolve_right dI;refine I.region ?_;refine G.v1 (Y.cast (v2:=gC g4.fb bH.now[j].2) gj (by rw[bO])) ?_;refine G.af ?_;refine aW IV (Lu aJ g4 b {bH with fs:=E} aQ N.size a4 aG picks bH.now[j].2 w0 _ d A Q (bb.mono J) bP bx cD hid (by show(a1 E _).w.length≤_;rw[bT];have:=ag.w bH.now[j].2;omega) (by show ∀y∈(a1 E _).w,_;rw[bT];intro y hy;have:=ag.wd _ y hy;omega) (by show ∀q,(jg ((a1 E _).w.take q) (a1 E _).stays).length≤_;rw[bT];intro q;have:=ag.eh bH.now[j].2 q;omega) (by show jj (a1 E _).w≤_;rw[bT];exact gM _) J dE) (fun hF hG fq=>?_);have bi:=A.lt;obtain⟨fr,ft,rfl,d,cH,A,e3,cN⟩:=fq;have e4:=au.ej bx bi cH;have e6:=bk.O b6 cH aC.size;have aC:=aC.bt cN (ar.app (ar.cO b6 (by intro k R;simp[R])) (ar.T (an.r dY)));have hH:=cN.size;have am:=d.aC;refine G.nil (c6 (c4 (I.region ?_)));refine G.v1 bN ?_;refine G.af (G.nil ?_);refine aT.sub (be (j+1,fr,ft,E.set bH.now[j].2 ⟨ik (a1 E bH.now[j].2).w (a1 E bH.now[j].2).stays (ht picks a4 (jj (a1 E bH.now[j].2).w)),ik (a1 E bH.now[j].2).w (a1 E bH.now[j].2).stays (ht picks a4 (jj (a1 E bH.now[j].2).w)),[]⟩,a4+1) _ ?_ ?_) ⟨o,o,o,o,(aF J),(aF J),trivial⟩
     ·exact⟨d,A,J,by rw[eP cr,oU,←bz];show _=hE picks (E,a4) bH.now[j];unfold hE;simp only;rw[aA dI],e3.1.trans bO,e6,e4,aC⟩
     ·first|omega|(simp only;omega)|(simp;omega)
    ·
     refine I.skip (c6 (c4 (I.region ?_)));refine G.v1 bN ?_;refine G.af (G.nil ?_);refine aT.sub (be (j+1,aJ,g4,E,a4) _ ?_ ?_) ⟨o,o,o,o,(aF J),(aF J),trivial⟩
     ·exact⟨d,A,J,by rw[eP cr,oU,←bz];show _=hE picks (E,a4) bH.now[j];unfold hE;simp only;rw[aM (mH J)],bO,b6,bx,aC⟩
     ·first|omega|(simp only;omega)|(simp;omega)
   ·
    have gB:j=bH.now.length:=by omega
    rw[gB,eD]at bz;have de:(E,a4)=D.gr picks:=by rw[bz];unfold aw.gr;rw[bR,bA,gi]
    refine I.exit (fj (ff (fe ?_)));refine fS (I.O (fun fw=>?_));refine G.av 3 ?_;refine G.aV hL b8 ?_;refine G.s1 (zI d 0 o o o b8 J) ?_;rintro hv ⟨d,cJ⟩;have A:=A.aJ cJ bx;have C:=C.bt cJ (ar.cO b5 (by intro k R;simp[R]));refine G.bs ?_;refine G.aV hL ee ?_;refine G.s1 (MV d o o o o ee) ?_;rintro hx ⟨d,cK⟩;have A:=A.aJ cK bx;have C:=C.bt cK (ar.cO b5 (by intro k R;simp[R]));refine G.nil (fw (I.O (fun fx=>?_)));refine G.av 2 ?_;refine G.a6 A.W q6 b8 cX ?_;refine G.aj ?_;refine fx ?_;refine I.ret (gL ?_)
    exact⟨_,_,by rw[←de],by
     have O:(D.fk picks)={{{bH with fs:=E}with left:=0}with dead:=false}:=by
      unfold aw.fk;rw[←de,←aP];obtain⟨bh,bW,cw,ep,gT,j6⟩:=ai.same;obtain⟨hj,W,eK,hk,hl,hn,c5,ho,hp⟩:=bH;simp only at bh bW cw ep gT j6 aP bR dc;subst bh bW ep dc;simp only[aw.mk.injEq,true_and,and_true];rw[bR,aP]
     rw[O];exact d,b5,C⟩
end AX
namespace mz
open nC m3 pf ox sI xz
def ir(n:Nat)(x:fi):Prop:=x.now.length≤n∧x.stays.length≤n∧x.w.length≤n∧(∀y∈x.w,y.d.length≤n)∧∀j,(jg (x.w.take j) x.stays).length≤n
theorem ir.mono{n m:Nat}{x:fi}(h:ir n x)(hm:n≤m):ir m x:=⟨fg h.1 hm,fg h.2.1 hm,fg h.2.2.1 hm,fun y hy=>fg (h.2.2.2.1 y hy) hm,fun j=>fg (h.2.2.2.2 j) hm⟩
theorem ir.nil(n:Nat):ir n ⟨[],[],[]⟩:=⟨iT _,iT _,iT _,nofun,fun j=>by simp[jg]⟩
theorem ir.flat{n:Nat}{l:List UInt8}(h:l.length≤n):ir n ⟨l,l,[]⟩:=⟨h,h,iT _,nofun,fun j=>by simpa[jg]using h⟩
def ot(gb:List aD)(l:cI):Prop:=∀q,(aH l q).isSome=true→q∈gb
structure bw (n:Nat) (D:aw):Prop where
 aj:eW D.now
 jX:eW D.stays
 eg:D.log.length≤n
 op:D.ops≤n
 a6:D.fs.length≤n
 f:∀i,ir n (a1 D.fs i)
 un:∃gb:List aD,gb.length≤n∧ot gb D.now∧ot gb D.stays∧∀c∈D.log,∀i,c.f=some i→c.n∈gb
 la:∀c∈D.log,∀i,c.f=some i→bV c.n=c.dir
theorem bw.mono{n m:Nat}{D:aw}(h:bw n D)(hm:n≤m):bw m D:=⟨h.aj,h.jX,fg h.eg hm,fg h.op hm,fg h.a6 hm,fun i=>(h.f i).mono hm,by obtain⟨gb,d,ab⟩:=h.un;exact⟨gb,fg d hm,ab⟩,h.la⟩
theorem Gm{fs:List fi}{n:Nat}(h:∀i,(a1 fs i).now.length≤n):∀l:cI,kW fs l≤l.length*n
 |[]=>by simp[kW]
 |x::l=>by
  have d:=Gm h l;have ab:=h x.2;unfold kW at d⊢;rw[dk,ib,fx,hH];omega
theorem Dv{gb:List aD}{l:cI}(d:eW l)(h:ot gb l):l.length≤gb.length:=by
 have:=jM d.nodup (fun k j=>h k (gF.2 j));rwa[dg]at this
theorem bw.cR{n:Nat}{D:aw}(h:bw n D)(aB:n≤1073741824):h5 274877906944 D:=by
 obtain⟨gb,A,ab,d,B⟩:=h.un;have aP:=Dv h.aj ab;have q:=Dv h.jX d;have r:=Gm (fun i=>(h.f i).1) D.now;have x:D.now.length*n≤1073741824*1073741824:=Nat.mul_le_mul J aB;exact⟨h.aj,h.jX,by unfold aw.used;omega,by have:=h.eg;omega,by have:=h.op;omega,fun i=>by have:=(h.f i).1;omega,fun i=>by have:=(h.f i).2.1;omega,fun i=>by have:=(h.f i).2.2.1;omega,fun i y hy=>by have:=(h.f i).2.2.2.1 y hy;omega,by omega,by omega,by have:=h.a6;omega,fun i j=>by have:=(h.f i).2.2.2.2 j;omega,h.la⟩
theorem Gr{n:Nat}:∀{ws:List dF},(∀y∈ws,y.d.length≤n)→(ws.map dF.ways).sum≤ws.length*(2*n+1)
 |[],_=>by simp
 |w::ws,h=>by
  have d:=Gr (ws:=ws) (fun y hy=>h y (hj _ hy));have ab:=h w gw;have j:w.ways≤2*n+1:=by unfold dF.ways;omega
  rw[dk,ib,fx,hH];omega
theorem bw.PI{n:Nat}{D:aw}(h:bw n D)(aB:n≤536870912)(i:Nat):jj (a1 D.fs i).w≤2305843009213693952:=by
 unfold jj;have d:=Gr (h.f i).2.2.2.1;have ab:(a1 D.fs i).w.length*(2*n+1)≤536870912*1073741825:=Nat.mul_le_mul (by have:=(h.f i).2.2.1;omega) J;omega
theorem bw.empty(cap most:Nat):bw 0 (aw.empty cap most):=
 ⟨List.Pairwise.nil,List.Pairwise.nil,dz _,dz _,dz _,fun i=>by show ir 0 (List.getD [] i _);simpa using ir.nil 0,⟨[],dz _,nofun,nofun,nofun⟩,nofun⟩
theorem bw.begin{n:Nat}{D:aw}(h:bw n D):bw (n+1) D.begin.2:=by
 obtain⟨aP,x,j,q,r,d,A⟩:=Bs D;have h:=h.mono (pF n);exact⟨by rw[q];exact h.aj,by rw[r];exact h.jX,by rw[d];exact h.eg,by have:=bw.op ‹bw n D›;omega,by rw[j];exact h.a6,by rw[j];exact h.f,by rw[q,r,d];exact h.un,by rw[d];exact h.la⟩
theorem Dt{gb:List aD}{l:cI}{c:c_}(h:ot gb l)(aq:∀i,c.f=some i→c.n∈gb):ot gb (c.ap l):=fun q d=>by
 rw[qM]at d;unfold c_.at at d
 cases j:c.f with
 |none=>
  rw[j]at d;simp only at d;split at d
  ·cases d
  ·exact h q d
 |some i=>
  rw[j]at d;simp only at d;split at d
  ·rename_i e;rw[e];exact aq i j
  ·split at d
   ·cases d
   ·exact h q d
theorem Du{gb:List aD}:∀{cs:List c_} {l:cI},ot gb l→(∀c∈cs,∀i,c.f=some i→c.n∈gb)→ot gb (jc cs l)
 |[],l,h,_=>h
 |c::cs,l,h,aq=>Du (cs:=cs) (Dt h (aq c gw)) (fun d ah=>aq d (hj _ ah))
theorem bw.put{n:Nat}{D:aw}(h:bw n D)(i:Nat){x:fi}(q:ir n x):bw n (D.gm i x):=
 ⟨h.aj,h.jX,h.eg,h.op,by rw[yo];exact h.a6,fun j=>by
  by_cases d:i<D.fs.length
  ·by_cases e:j=i
   ·subst e;rw[s9 d];exact q
   ·show ir n ((D.fs.set i x).getD j _)
    rw[List.getD_eq_getElem?_getD,List.getElem?_set_ne (kj e),←List.getD_eq_getElem?_getD];exact h.f j
  ·show ir n ((D.fs.set i x).getD j _)
   rw[tj J];exact h.f j,h.un,h.la⟩
theorem bw.change{n:Nat}{D:aw}(h:bw n D)(c:c_)(ah:∀i,c.f=some i→bV c.n=c.dir):bw (n+1) (D.change c):=by
 obtain⟨gb,C,ab,A,B⟩:=h.un;refine⟨Bk h.aj c,h.jX,by show(D.log++[c]).length≤_;have:=h.eg;simp;omega,rU h.op,rU h.a6,fun i=>(h.f i).mono (pF _),⟨c.n::gb,by simp;omega,Dt (fun q x=>hj _ (ab q x)) (fun _ _=>gw),fun q x=>hj _ (A q x),fun d j i r=>?_⟩,fun d j i r=>?_⟩
 ·rcases gG.1 j with j|j
  ·exact hj _ (B d j i r)
  ·rw[eU.1 j];exact gw
 ·rcases gG.1 j with j|j
  ·exact h.la d j i r
  ·rw[eU.1 j]at r⊢;exact ah i r
theorem bw.GY{n:Nat}{D:aw}(h:bw n D):bw (n+1) ({D with fs:=D.fs++[⟨[],[],[]⟩]}:aw):=
 ⟨h.aj,h.jX,rU h.eg,rU h.op,by have:=h.a6;simp;omega,fun i=>by
  show ir (n+1) ((D.fs++[(⟨[],[],[]⟩:fi)]).getD i ⟨[],[],[]⟩);rw[List.getD_eq_getElem?_getD,List.getElem?_append];split
  ·rw[←List.getD_eq_getElem?_getD];exact(h.f i).mono (pF _)
  ·by_cases e:i-D.fs.length=0
   ·rw[e];exact ir.nil _
   ·rw[List.getElem?_eq_none b2];exact ir.nil _,(h.mono (pF _)).un,h.la⟩
theorem bw.make{n:Nat}{D:aw}(h:bw n D)(p:aD):bw (n+2) (D.make p).1:=by
 unfold aw.make;split
 ·exact h.mono J
 ·refine h.GY.change _ (fun i _=>?_)
  simp[c_.dir]
theorem ir.laid{n:Nat}{x:fi}(h:ir n x)(w:dF):ir (n+w.d.length+1) ⟨w.on x.now w.d.length,x.stays,x.w++[w]⟩:=by
 obtain⟨A,ab,B,q,d⟩:=h;have C:=zz w x.now w.d.length;refine⟨by show(w.on x.now w.d.length).length≤_;omega,by show x.stays.length≤_;omega,by show(x.w++[w]).length≤_;simp;omega,fun y hy=>?_,fun j=>?_⟩
 ·rcases gG.1 hy with hy|hy
  ·have:=q y hy;omega
  ·rw[eU.1 hy];omega
 ·show(jg ((x.w++[w]).take j) x.stays).length≤_
  rw[vA];by_cases E:j≤x.w.length
  ·rw[show j-x.w.length=0 by omega,ni,hi];have:=d j;omega
  ·obtain⟨k,r⟩:∃k,j-x.w.length=k+1:=⟨j-x.w.length-1,by omega⟩
   rw[r]
   have e:jg (x.w.take j++[w].take (k+1)) x.stays=w.on (jg (x.w.take j) x.stays) w.d.length:=by
    unfold jg;rw[oU,pG,List.take_nil];rfl
   rw[e];have:=zz w (jg (x.w.take j) x.stays) w.d.length;have:=d j;omega
theorem bw.write{n:Nat}{D:aw}(h:bw n D)(p:aD)(w:dF):bw (n+w.d.length+3) (D.write p w):=by
 unfold aw.write;have d:=h.make p;exact(d.mono J).put _ (((d.f _).laid w).mono J)
theorem bw.lay{n:Nat}{D:aw}(h:bw n D)(p:aD)(w:dF):bw (n+w.d.length+4) (D.lay p w).2:=by
 unfold aw.lay;have d:=h.begin;simp only;split
 ·exact d.mono J
 ·simp only;split
  ·exact(d.write p w).mono J
  ·exact d.mono J
theorem bw.sync{n:Nat}{D:aw}(h:bw n D)(p:aD):bw (n+1) (D.sync p).2:=by
 unfold aw.sync;have d:=h.begin;simp only;split
 ·exact d
 ·simp only;split
  ·exact d.put _ (ir.flat (d.f _).1)
  ·exact d
theorem bw.rename{n:Nat}{D:aw}(h:bw n D)(a b:aD):bw (n+2) (D.rename a b).2:=by
 unfold aw.rename;have d:=h.begin;simp only;split
 ·exact d.mono J
 ·simp only;split
  ·rename_i ab
   refine d.change _ (fun i _=>?_)
   have j:cH a=true∧bV a=bV b:=by
    have:=ab.1;unfold aw.mg at this;split at this
    ·cases this
    ·rename_i q;split at this
     ·cases this
     ·rename_i r;exact⟨by cases aB:cH a with
       |true=>rfl
       |false=>exact absurd (.inl aB) q,by simpa using r⟩
   unfold c_.dir;rw[aA (Ew j.1)];exact j.2.symm
  ·exact d.mono J
theorem bw.iG{n:Nat}{D:aw}(h:bw n D)(p:aD):bw (n+1) (D.iG p).2:=by
 unfold aw.iG;have d:=h.begin;simp only;split
 ·exact d
 ·simp only;split
  ·obtain⟨gb,aP,r,x,A⟩:=d.un
   refine⟨d.aj,Bl d.jX _,fg (r9 _ _) d.eg,d.op,d.a6,d.f,⟨gb,aP,r,fun q j=>?_,fun c aq=>A c (jZ.1 aq).1⟩,fun c aq=>d.la c (jZ.1 aq).1⟩;have j:(aH (merge D.begin.2.now D.begin.2.stays p) q).isSome=true:=j;rw[qN d.aj]at j;split at j
   ·exact r q j
   ·exact x q j
  ·exact d
theorem bw.stop{n:Nat}{D:aw}(h:bw n D)(k:Nat):bw n (D.stop k):=⟨h.aj,h.jX,h.eg,h.op,h.a6,h.f,h.un,h.la⟩
theorem MU(w:dF)(b:List UInt8)(k:Nat)(d:k<w.ways):(w.part b k).length≤(w.on b w.d.length).length:=by
 unfold dF.part;have h:=qV w b
 have ab:∀m,m≤w.d.length→(w.on b m).length=(if w.b=true then b.length else 0)+m:=fun m hm=>by
  unfold dF.on;rw[bT,eJ,kl hm];split<;>simp
 unfold dF.ways at d;split
 ·rw[ab _ (Nat.min_le_right _ _),h];omega
 ·rw[bT,ab _ J,nV,h];omega
theorem Av{n:Nat}:∀(ws:List dF) (b:List UInt8) (k:Nat),(∀j,(jg (ws.take j) b).length≤n)→(ik ws b k).length≤n
 |[],b,k,h=>by simpa[jg,ik]using h 0
 |w::ws,b,k,h=>by
  have d:(w.on b w.d.length).length≤n:=by simpa[jg]using h 1
  unfold ik;split
  ·simpa[jg]using h 0
  ·split
   ·exact fg (MU w b (k-1) (by unfold dF.ways at*;omega)) d
   ·exact Av ws _ _ (fun j=>by simpa[jg]using h (j+1))
theorem Cp{gb:List aD}{picks:List Int}{D:aw}(j:∀c∈D.log,∀i,c.f=some i→c.n∈gb):∀(L:List aD) (s:cI×Nat),ot gb s.1→eW s.1→ot gb (L.foldl (eG picks D) s).1∧eW (L.foldl (eG picks D) s).1
 |[],s,h,d=>⟨h,d⟩
 |x::L,s,h,d=>by
  rw[gX];refine Cp j L _ ?_ ?_
  ·rw[nO];exact Du h (fun c aq=>j c (rC (kQ aq)).1)
  ·rw[nO];exact xS d _
theorem Cu{n:Nat}(picks:List Int):∀(L:cI) (s:List fi×Nat),(∀i,ir n (a1 s.1 i))→∀i,ir n (a1 (L.foldl (hE picks) s).1 i)
 |[],s,h=>h
 |x::L,s,h=>by
  rw[gX];refine Cu picks L _ (fun i=>?_);unfold hE;simp only;split
  ·exact h i
  ·have d:=Av (n:=n) (a1 s.1 x.2).w (a1 s.1 x.2).stays (ht picks s.2 (jj (a1 s.1 x.2).w)) (h x.2).2.2.2.2
   show ir n ((s.1.set x.2 _).getD i _);by_cases j:x.2<s.1.length
   ·by_cases e:i=x.2
    ·rw[e,List.getD_eq_getElem?_getD,List.getElem?_set_self j];exact ir.flat d
    ·rw[List.getD_eq_getElem?_getD,List.getElem?_set_ne (kj e),←List.getD_eq_getElem?_getD];exact h i
   ·rw[tj J];exact h i
theorem bw.fk{n:Nat}{D:aw}(h:bw n D)(picks:List Int):bw n (D.fk picks):=by
 obtain⟨gb,q,ab,r,x⟩:=h.un;obtain⟨d,j⟩:=Cp (picks:=picks) x D.oI (D.stays,0) r h.jX;exact⟨j,j,iT _,h.op,by show(D.gr picks).1.length≤n;unfold aw.gr;rw[yc];exact h.a6,Cu picks _ _ h.f,⟨gb,q,d,d,nofun⟩,nofun⟩
end mz
namespace m4
open ho
theorem L3{cE:World}(h:cE.ShapedOpen Tryz.prog):∃m,fj m cE.heap∧bp (fun b=>b=0) cE.heap.size:=by
 obtain⟨m,hm⟩:=cell_of_shapedOpen_int (g:=0) (t:=3) (zero:= #[.int .i64 0]) h bc bD o bD bD Tryz.underlying3;have aq:E.cell cE.heap ⟨0,0,none⟩=some (.int .i64 m):=by rw[←(At.cell (w0:=cE) ⟨o,o,o,o,dz _⟩ _)];exact hm
 refine⟨m,⟨⟨o,fun j c d=>?_⟩,o⟩,fun b ao=>?_⟩
 ·cases j with
  |zero=>cases d;exact aq
  |succ j=>cases d
 ·have:=World.block_lt_of_cell? cE _ hm;simp only at ao;omega
section
variable {P : Program} {w0 : World} {n : Nat} {l : cm} {H : Heap} {T : Oper}
theorem _root_.Go.Proofs.YtfjmpninmdjcaaaGreatDoor.E.Y.Hw{x y:Operand}{t u:TypeId}{a b:Bool}(j:T.op= .binOp .neq t x y u)(q:P.underlying t=some .bool)(r:aK l x=some (.bool a))(hy:aK l y=some (.bool b)):Y P w0 n l H T (.bool (decide (a≠b))):=by
 intro ac w d A;have h:=run_equalIn_bool' w 9999 t a b q;have ab:(a==b)=decide (a=b):=by cases a<;>cases b<;>rfl
 rw[ab]at h;simp[execOp,j,d.eval r,d.eval hy,binOp,eqGuard,Op.equal,Op.maxDepth,h]
end
theorem aS.of{k:Nat}{K:List Nat}(d:au k K):aS (fun b=>b+1=k) K:=fun j n=>ax.of (d j n)
def p6(a:Int)(n:Nat):Nat:=(a%(n:Int)).toNat
theorem Pt{a:Int}{n:Nat}(h:0<n):p6 a n<n:=by
 unfold p6;have:=yW a (show(0:Int)<n by omega);have:=tr a (show(n:Int)≠0 by omega);omega
theorem Pu{a:Int}{n:Nat}(h:0<n)(ab:a.tmod n<0):((p6 a n:Nat):Int)=a.tmod n+n:=by
 unfold p6;have d:=tr a (show(n:Int)≠0 by omega);rw[yX d];rw[Int.tmod_eq_emod]at ab⊢;split at ab
 ·omega
 ·rename_i j;rw[aA j];simp
theorem Pv{a:Int}{n:Nat}(h:0<n)(ab:¬a.tmod n<0):((p6 a n:Nat):Int)=a.tmod n:=by
 unfold p6;have j:=tr a (show(n:Int)≠0 by omega);have q:=yW a (show(0:Int)<n by omega);rw[yX j];rw[Int.tmod_eq_emod]at ab⊢;split at ab
 ·rename_i d;rw[aM d];simp
 ·rename_i d
  simp only[Int.natAbs_natCast]at ab;omega
end m4
namespace lZ
open ho jz kE ox sI mz m4 lY pg ph
section
variable {P : Program} {w0 : World} {n : Nat} {l : cm} {H H1 : Heap} {T : Oper}
theorem Y.C5{x:Operand}{s:TypeId}{k off d:Nat}{ad:Addr}{cs:List Value}{fs:Array Field}{fd:Field}(h:cz H1 ad cs)(r:T.op= .fieldAddr s x k)(hu:∀w,(underlying s).run P w= .ok (.struct fs) w)(q:fs[k]?=some fd)(A:fd.offset=off)
 (B:∀w,(sizeOf fd.type).run P w= .ok d w)(E:d≠0)(C:aK l x=some (.pointer (some ad))):Y P w0 n l H T (.pointer (some (ad.add off))):=by
 intro ac w j F;simp[execOp,r,j.eval C,Instr.fieldAt,Instr.sureAddr,fieldPlace,hu,q,A,B,E]
end
def bG(p:aD):aD:=p++[46,110,101,119]
abbrev kb:=aw→Nat×aw
def dS:List kb→aw→Nat×aw
 |[],D=>(0,D)
 |f::fs,D=>if(f D).1=0 then dS fs (f D).2 else f D
def uf(Fs:List kb)(i:Nat):kb:=Fs.getD i (fun D=>(0,D))
theorem zT:∀(a b:List kb) (D:aw),dS (a++b) D=if(dS a D).1=0 then dS b (dS a D).2 else dS a D
 |[],b,D=>by simp[dS]
 |f::a,b,D=>by
  rw[kO,dS,dS];by_cases h:(f D).1=0
  ·rw[aM h,aM h,zT a b]
  ·rw[aA h,aA h,aA h]
theorem NP(f:kb)(D:aw):dS [f] D=f D:=by
 unfold dS dS;split
 ·rename_i h;exact Prod.ext h.symm o
 ·rfl
theorem NR{Fs:List kb}{i:Nat}{D:aw}(h:i<Fs.length)(d:(dS (Fs.take i) D).1=0):dS (Fs.take (i+1)) D=uf Fs i (dS (Fs.take i) D).2:=by
 rw[eP h,zT,aM d,NP];unfold uf;rw[List.getD_eq_getElem?_getD,List.getElem?_eq_getElem h];rfl
theorem NQ{Fs:List kb}{i:Nat}{D:aw}(h:(dS (Fs.take i) D).1≠0):dS Fs D=dS (Fs.take i) D:=by
 conv=>lhs;rw[←hY i Fs]
 rw[zT,aA h]
theorem sR{k:Nat}:∀{fs:List kb} {cp:Nat} {D:aw},(∀f∈fs,∀cp D,bw cp D→bw (cp+k) (f D).2)→bw cp D→bw (cp+k*fs.length) (dS fs D).2
 |[],cp,D,_,h=>by simpa[dS]using h
 |f::fs,cp,D,j,h=>by
  have d:=j f gw cp D h;unfold dS;split
  ·have:=sR (fs:=fs) (fun g n=>j g (hj _ n)) d
   rw[fx];exact this.mono (by rw[Nat.mul_add];omega)
  ·rw[fx];exact d.mono (by rw[Nat.mul_add];omega)
theorem BC{k:Nat}{fs:List kb}{cp:Nat}{D:aw}(i:Nat)(d:∀f∈fs,∀cp D,bw cp D→bw (cp+k) (f D).2)(h:bw cp D):bw (cp+k*fs.length) (dS (fs.take i) D).2:=by
 have:=sR (fs:=fs.take i) (fun f hm=>d f (kQ hm)) h;exact this.mono (Nat.add_le_add_left (yZ _ (by rw[eJ];omega)) _)
def lC(p:aD)(l:List Rec):List kb:=[fun D=>D.lay (bG p) ⟨false,c1 l⟩,fun D=>D.sync (bG p),fun D=>D.rename (bG p) p,fun D=>D.iG (bV p)]
def hX(p:aD)(n:Nat)(r:Rec):List kb:=[fun D=>D.lay p ⟨true,gl n r⟩,fun D=>D.sync p,fun D=>D.lay p ⟨true,[67]⟩,fun D=>D.sync p]
theorem Dg(p:aD)(l:List Rec):∀f∈lC p l,∀cp D,bw cp D→bw (cp+((c1 l).length+20)) (f D).2:=by
 intro f d cp D h;simp only[lC,dU,nf,or_false]at d;rcases d with rfl|rfl|rfl|rfl
 ·exact(h.lay (bG p) ⟨false,c1 l⟩).mono (by simp only;omega)
 ·exact(h.sync _).mono J
 ·exact(h.rename _ _).mono J
 ·exact(h.iG _).mono J
theorem xK(p:aD)(n:Nat)(r:Rec):∀f∈hX p n r,∀cp D,bw cp D→bw (cp+(r.length+20)) (f D).2:=by
 intro f d cp D h;simp only[hX,dU,nf,or_false]at d;rcases d with rfl|rfl|rfl|rfl
 ·exact(h.lay p ⟨true,gl n r⟩).mono (by simp only[n0];omega)
 ·exact(h.sync _).mono J
 ·exact(h.lay p ⟨true,[67]⟩).mono (by simp only[iU];omega)
 ·exact(h.sync _).mono J
def fW(D:aw)(p:aD)(l:List Rec):Nat×aw:=dS (lC p l) D
theorem rq{cp:Nat}{D:aw}(h:bw cp D)(p:aD)(l:List Rec):bw (cp+4*((c1 l).length+20)) (fW D p l).2:=(sR (Dg p l) h).mono (by simp[lC];omega)
theorem JK(p:aD):(bV p).length≤p.length:=by
 unfold bV qy;split
 ·exact List.length_take_le' _ _
 ·exact iT _
theorem tG(p:aD):(bG p).length=p.length+4:=by simp[bG]
abbrev mu:=Nat×List Value
abbrev yj(x:mu):List Value:=[.func (.func x.1) #[] x.2.toArray]
theorem CV(x:mu):(yj x).length=1:=rfl
theorem CW(x:mu):∀u∈yj x,u.oneCell'=true:=by intro u hu;simp only[eU]at hu;subst hu;rfl
def xe(w0:World)(b:Nat)(f:kb)(v:Value)(K:List Nat)(H:Heap)(D:aw):Prop:=
 im Tryz.prog w0 v [] H (fun r d=>∃(bF:List Nat) (g2:cQ),r= .int .i64 ((f D).1:Int)∧bq bF g2 d b (f D).2∧bk K H.size bF∧aa (ay K) H d)
theorem C7(K:List Nat)(g:cQ)(b:Nat)(D:aw)(v:Value)(l:List mu)(Fs:List kb)(F:Nat→Prop)(w0:World)(N:Heap)
 (d:bq K g N b D)(B:Rd F N yj 1 v l)(bn:bp F N.size)(aW:aS F K)(bt:l.length=Fs.length)(a6:∀(i:Nat) (h:i<l.length) (hN:List Nat) (aX:cQ) (V:Heap),bq hN aX V b (dS (Fs.take i) D).2→bk K N.size hN→aa (ay K) N V→xe w0 b (uf Fs i) (.func (.func l[i].1) #[] l[i].2.toArray) hN V (dS (Fs.take i) D).2):
 aE Tryz.prog w0 108 #[v] N (fun r Q=>∃bF:List Nat,∃g2:cQ,r= .int .i64 ((dS Fs D).1:Int)∧bq bF g2 Q b (dS Fs D).2∧bk K N.size bF∧aa (ay K) N Q):=by
 refine aE.aP [v] Tryz.func108 ?_;intro bb Z;have j:aa (ay K) N N:=aa.refl _ _;have R:=bk.refl K N.size;have ac:=d.aC;have bw:=B.len;refine I.O (fun aO=>?_);refine G.aj ?_;refine aO (I.seq (fun bF a7 aP=>I.O (fun aQ=>?_)));refine G.af ?_;refine G.v1 (bu B Gh) ?_;refine G.af (G.nil (aQ ?_));refine I.aC (fun _ aR aU=>?_)
 refine I.bb (fun(a_:Nat×(List Nat)×cQ)=>match a_ with|(i,q,x)=>[(6,v),(7,.int .i64 (l.length:Int)),(8,.int .i64 (i:Int))])
  (fun(i,q,x) (H:Heap)=>(bq q x H b (dS (Fs.take i) D).2)∧i≤l.length∧(dS (Fs.take i) D).1=0∧bk K N.size q∧aa (ay K) N H)
  (fun(i,q,x)=>l.length-i) (0,K,g) ⟨o,o,o,trivial⟩ ?_ ?_
 ·
  exact⟨d,J,o,bk.refl _ _,aa.refl _ _⟩
 rintro⟨i,q,x⟩ bd ae ba af ap;obtain⟨d,bo,M,S,n⟩:=ae;have C:=bk.O R S j.size;have B:=B.aJ n aW;have j:=j.bt n (ar.cO R (by intro k A;simp[A]));have bg:=n.size;have ac:=d.aC;have W:=S;refine I.O (fun ag=>?_);refine G.v1 bZ (G.nil (ag ?_));refine I.t2 (fun ai ak=>?_);refine a8 (fun aV=>?_) (fun aV=>?_)
 ·
  have O:i<l.length:=by omega
  have E:=NR (Fs:=Fs) (D:=D) (i:=i) J M;refine I.skip (ai (I.t2 (fun an av=>I.aC (fun ax _ aB=>I.O (fun aJ=>?_)))));refine G.cn (Y.cg B i o Gh N4 o o) fun bc aK=>?_;refine G.v1 (bf aK.W GM) ?_;refine G.aj ?_;refine aJ (I.O (fun aL=>?_));refine G.af ?_;refine G.qp o o o cS o o (a6 i O q x _ d C j) ?_;rintro bj bl ⟨X,aC,rfl,d,U,L⟩;have aD:=bk.O C U j.size;have aG:=bk.O W U n.size;have j:=j.bt L (ar.cO C (by intro k A;simp[A]));have n:=n.bt L (ar.cO W (by intro k A;simp[A]));have bm:=L.size;have ac:=d.aC;refine G.aj ?_;refine aL (I.O (fun az=>?_));refine G.af ?_;refine G.v1 dX (G.nil (az ?_));refine a8 (fun aH=>?_) (fun aH=>?_)
  ·
   have aZ:(dS (Fs.take (i+1)) D).1≠0:=by rw[E];omega
   have P:=NQ aZ;rw[E]at P;refine I.seq (fun X am _=>I.region ?_);refine G.aZ 2 ?_;refine am _ _ ?_;refine I.ret (aB (av (ap (aU (aP .ret nofun _ _ (Z ?_))))));exact⟨_,_,by rw[P],by rw[P];exact d,aD,j⟩
  ·
   refine I.skip (ax (an (I.region ?_)));refine G.v1 bN ?_;refine G.af (G.nil ?_);refine aT.sub (af (i+1,X,aC) _ ?_ ?_) ⟨o,(aF J),(aF J),trivial⟩
   ·exact⟨by rw[E];exact d,J,by rw[E];omega,aG,n⟩
   ·first|omega|(simp only;omega)|(simp;omega)
 ·
  refine I.exit (ak (ap (aR ?_)));refine a7 _ _ (I.O (fun aN=>?_));refine G.aj ?_;refine aN ?_;refine I.ret (Z ?_);have O:i=Fs.length:=by omega
  rw[O,eD]at d M;exact⟨_,_,by rw[M];rfl,d,C,j⟩
structure qa (K:List Nat) (H:Heap) (bC:Int) (b c bn:Nat) (p:aD) (n:Nat) (br:Bool):Prop where
 aL:fj bC H
 nH:bp (fun b=>b=0) H.size
 ek:aS (fun b=>b=0) K
 fl:Var 103 H c [ptr bn]
 eg:Var 206 H bn [ptr b,aN p,.int .i64 (n:Int),.bool br]
 eH:au (c+1) K
 dl:au (bn+1) K
theorem qa.up{K bF:List Nat}{H d:Heap}{bC:Int}{b c bn n:Nat}{p:aD}{br:Bool}(h:qa K H bC b c bn p n br)(s:aa (ay K) H d)(x:bk K H.size bF):qa bF d bC b c bn p n br:=
 ⟨h.aL.aJ s h.ek,fun b ao=>by have:=h.nH b ao;have:=s.size;omega,aS.ej h.ek h.nH x,h.fl.aJ s h.eH,h.eg.aJ s h.dl,au.ej h.eH h.fl.lt x,au.ej h.dl h.eg.lt x⟩
structure qd {α:Type} (K:List Nat) (F:Nat→Prop) (H:Heap) (f:α→List Value) (v:Value) (l:List α):Prop where
 rd:Rd F H f 1 v l
 cD:bp F H.size
 h9:aS F K
theorem qd.up{α:Type}{K bF:List Nat}{F:Nat→Prop}{H d:Heap}{f:α→List Value}{v:Value}{l:List α}(h:qd K F H f v l)(s:aa (ay K) H d)(x:bk K H.size bF):qd bF F d f v l:=
 ⟨h.rd.aJ s h.h9,fun b ao=>by have:=h.cD b ao;have:=s.size;omega,aS.ej h.h9 h.cD x⟩
structure oz (K:List Nat) (H:Heap) (e:TypeId) (c:Nat) (cs:List Value):Prop where
 v:Var e H c cs
 d:au (c+1) K
theorem oz.up{K bF:List Nat}{H d:Heap}{e:TypeId}{c:Nat}{cs:List Value}(h:oz K H e c cs)(s:aa (ay K) H d)(x:bk K H.size bF):oz bF d e c cs:=⟨h.v.aJ s h.d,au.ej h.d h.v.lt x⟩
set_option maxHeartbeats 2000000 in
theorem Bn(bC:Int)(K:List Nat)(g:cQ)(b:Nat)(D:aw)(c bn:Nat)(p:aD)(n:Nat)(br:Bool)(w0:World)(N:Heap)
 (d:bq K g N b D)(aL:fj bC N)(L:bp (fun b=>b=0) N.size)(ek:aS (fun b=>b=0) K)(aq:Var 103 N c [ptr bn])(q:Var 206 N bn [ptr b,aN p,.int .i64 (n:Int),.bool br])(eH:au (c+1) K)(dl:au (bn+1) K)(Q:p.length≤4294967280)(M:h5 274877906944 D):
 aE Tryz.prog w0 106 #[ptr c] N (fun r x=>∃bF:List Nat,∃g2:cQ,r= .int .i64 ((D.sync p).1:Int)∧bq bF g2 x b (D.sync p).2∧bk K N.size bF∧aa (ay K) N x):=by
 refine aE.aP [ptr c] Tryz.func106 ?_;intro S R;have j:aa (ay K) N N:=aa.refl _ _;have A:=bk.refl K N.size;have ad:=d.aC;have V:=aq.lt;have ac:=q.lt;refine I.O (fun E=>?_);refine G.aj ?_;refine E (I.seq (fun bF F _=>?_));refine ka 8 (fun U O=>?_);refine G.v1 (bf aq.W jl) ?_;refine G.bs ?_;refine G.a6 q.W h4 pW pn ?_;refine G.v1 (bf aq.W jl) ?_;refine G.bs ?_;refine G.a6 q.W h4 b3 cd ?_;refine G.nil (O _ ?_);refine aW BH (FX bC K g b D p w0 _ d aL (L.mono J) ek Q M) ?_;rintro W X ⟨az,am,rfl,d,B,C⟩;have H:=bk.O A B j.size;have j:=j.bt C (ar.cO A (by intro k P;simp[P]));refine G.aj ?_;refine F _ _ ?_;refine I.ret (R ?_);exact⟨_,_,o,d,H,j⟩
set_option maxHeartbeats 2000000 in
theorem GZ(bC:Int)(K:List Nat)(g:cQ)(b:Nat)(D:aw)(c bn:Nat)(p:aD)(n:Nat)(br:Bool)(eK:Nat)(s:aO)(rc:List UInt8)(F:Nat→Prop)(w0:World)(N:Heap)
 (x:bq K g N b D)(aL:fj bC N)(ax:bp (fun b=>b=0) N.size)(ek:aS (fun b=>b=0) K)(aq:Var 103 N c [ptr bn])(B:Var 206 N bn [ptr b,aN p,.int .i64 (n:Int),.bool br])(eH:au (c+1) K)(dl:au (bn+1) K)(V:Var 57 N eK [s.v])(d3:au (eK+1) K)(aF:Rd F N bd 1 s.v rc)(aV:bp F N.size)(aW:aS F K)(aH:rc.length≤4294967000)(aC:p.length≤4294967280)(aB:h5 274877906944 D):
 aE Tryz.prog w0 109 #[ptr c,ptr eK] N (fun r M=>∃bF:List Nat,∃g2:cQ,r= .int .i64 ((D.lay p ⟨true,gl n rc⟩).1:Int)∧bq bF g2 M b (D.lay p ⟨true,gl n rc⟩).2∧bk K N.size bF∧aa (ay K) N M):=by
 refine aE.aP [ptr c,ptr eK] Tryz.func109 ?_;intro aJ aG;have E:aa (ay K) N N:=aa.refl _ _;have O:=bk.refl K N.size;have am:=x.aC;have aU:=aq.lt;have aT:=B.lt;have az:=V.lt;refine I.O (fun ai=>?_);refine G.aj ?_;refine ai (I.seq (fun bF ak _=>?_));refine eA (fun q=>aa (ay K) N q) [] ?_;have d:aa (ay K) N N:=aa.refl _ _;have av:=bk.refl K N.size;refine U.t1 0 o (fun q j=>Y.gO (aq.aJ j eH).W o jl o) d ?_;refine U.bs 1 o d ?_;refine U.t1 2 o (fun q j=>Y.fieldAddr (B.aJ j dl).W o h4 o o pW bc o) d ?_;refine U.t1 3 o (fun q j=>Y.gO (B.aJ j dl).W o pn o) d ?_;refine U.t1 4 o (fun q j=>Y.gO (aq.aJ j eH).W o jl o) d ?_;refine U.bs 5 o d ?_;refine U.t1 6 o (fun q j=>Y.fieldAddr (B.aJ j dl).W o h4 o o b3 bc o) d ?_;refine U.t1 7 o (fun q j=>bf ((B.aJ j dl).W.drop 1) cd) d ?_;refine U.t1 8 o (fun q j=>Y.gO (aq.aJ j eH).W o jl o) d ?_;refine U.bs 9 o d ?_;refine U.t1 10 o (fun q j=>Y.fieldAddr (B.aJ j dl).W o h4 o o b8 bc o) d ?_;refine U.t1 11 o (fun q j=>bf ((B.aJ j dl).W.drop 2) cX) d ?_;refine U.t1 12 o (fun q j=>Y.gO (V.aJ j d3).W o fe o) d ?_;refine U.bg 13 ?_;refine cP BK (Gu n s rc w0 _ aF.any aH) ?_;rintro aK H ⟨W,C,rfl,ad,P,ap⟩;have X:au C K:=au.qh au.lT x.aC P;have Z:=ae.O (ae.refl 0 _) P d.size;obtain⟨x,aL,E,d,_⟩:=ed ap x aL E d;have aR:=ad.le;refine⟨.inr d,U.narrow (SH2:=fun q=>aa (ay (K++[C])) H q) (fun q j=>d.bt j (ar.app (ar.cO av (by intro k A;simp[A])) (ar.T (an.q Z)))) ?_⟩;have d:aa (ay (K++[C])) H H:=aa.refl _ _;have Q:=bk.refl K H.size;have af:=ae.refl C H.size;refine U.bg 14 ?_;refine cP BJ (Be bC K g b D p W (gl n rc) _ w0 _ x aL (ax.mono J) ek ad.rd (bp.of ad.le) (aS.of X) aC aB (by rw[n0];omega)) ?_;rintro aP L ⟨S,aQ,rfl,x,ac,R⟩;have ag:=bk.O O ac E.size;have a7:=bk.O Q ac d.size;have E:=E.bt R (ar.cO O (by intro k A;simp[A]));have d:=d.bt R (ar.cO Q (by intro k A;simp[A]));refine⟨.inr d,U.narrow (SH2:=fun q=>aa (ay (S++[C])) L q) (fun q j=>d.bt j (ar.app (ar.cO a7 (by intro k A;simp[A])) (ar.T (an.r af)))) ?_⟩;have d:aa (ay (S++[C])) L L:=aa.refl _ _;refine U.t1 15 o (fun q j=>gp) d ?_;refine dB ?_;refine ak _ _ ?_;refine I.ret (aG ?_);exact⟨_,_,o,x,ag,E⟩
set_option maxHeartbeats 2000000 in
theorem G0(bC:Int)(K:List Nat)(g:cQ)(b:Nat)(D:aw)(c bn:Nat)(p:aD)(n:Nat)(br:Bool)(w0:World)(N:Heap)
 (x:bq K g N b D)(aL:fj bC N)(ag:bp (fun b=>b=0) N.size)(ek:aS (fun b=>b=0) K)(aq:Var 103 N c [ptr bn])(E:Var 206 N bn [ptr b,aN p,.int .i64 (n:Int),.bool br])(eH:au (c+1) K)(dl:au (bn+1) K)(ak:p.length≤4294967280)(ai:h5 274877906944 D):
 aE Tryz.prog w0 112 #[ptr c] N (fun r H=>∃bF:List Nat,∃g2:cQ,r= .int .i64 ((D.lay p ⟨true,[67]⟩).1:Int)∧bq bF g2 H b (D.lay p ⟨true,[67]⟩).2∧bk K N.size bF∧aa (ay K) N H):=by
 refine aE.aP [ptr c] Tryz.func112 ?_;intro ax av;have B:aa (ay K) N N:=aa.refl _ _;have L:=bk.refl K N.size;have aG:=x.aC;have aH:=aq.lt;have aF:=E.lt;refine I.O (fun R=>?_);refine G.aj ?_;refine R (I.seq (fun bF S _=>?_));refine eA (fun q=>aa (ay K) N q) [] ?_;have d:aa (ay K) N N:=aa.refl _ _;have a7:=bk.refl K N.size;refine U.t1 0 o (fun q j=>Y.gO (aq.aJ j eH).W o jl o) d ?_;refine U.bs 1 o d ?_;refine U.t1 2 o (fun q j=>Y.fieldAddr (E.aJ j dl).W o h4 o o pW bc o) d ?_;refine U.t1 3 o (fun q j=>Y.gO (E.aJ j dl).W o pn o) d ?_;refine U.t1 4 o (fun q j=>Y.gO (aq.aJ j eH).W o jl o) d ?_;refine U.bs 5 o d ?_;refine U.t1 6 o (fun q j=>Y.fieldAddr (E.aJ j dl).W o h4 o o b3 bc o) d ?_;refine U.t1 7 o (fun q j=>bf ((E.aJ j dl).W.drop 1) cd) d ?_;refine U.bg 8 ?_;refine fC o (Z.c2 (dE _ ([(67:UInt8)]) fw fM hh)) ?_;rintro O C ⟨ad,Q,_⟩;have V:=au.hU x.aC;have W:=ae.new d.size;obtain⟨x,aL,B,d,_⟩:=ed Q x aL B d;obtain⟨X,rfl⟩:∃s:aO,O=s.v:=⟨cF O,ad.bA.symm⟩;refine⟨.inr d,U.narrow (SH2:=fun q=>aa (ay (K++[(N.size+1)])) C q) (fun q j=>d.bt j (ar.app (ar.cO a7 (by intro k A;simp[A])) (ar.T (an.q W)))) ?_⟩;have d:aa (ay (K++[(N.size+1)])) C C:=aa.refl _ _;have ap:=bk.refl K C.size;have af:=ae.refl (N.size+1) C.size;refine U.bg 9 ?_;refine cP BJ (Be bC K g b D p X [67] _ w0 _ x aL (ag.mono J) ek ad.rd (bp.of ad.le) (aS.of V) ak ai bc) ?_;rintro aB F ⟨P,aC,rfl,x,ac,M⟩;have az:=bk.O L ac B.size;have am:=bk.O ap ac d.size;have B:=B.bt M (ar.cO L (by intro k A;simp[A]));have d:=d.bt M (ar.cO ap (by intro k A;simp[A]));refine⟨.inr d,U.narrow (SH2:=fun q=>aa (ay (P++[(N.size+1)])) F q) (fun q j=>d.bt j (ar.app (ar.cO am (by intro k A;simp[A])) (ar.T (an.r af)))) ?_⟩;have d:aa (ay (P++[(N.size+1)])) F F:=aa.refl _ _;refine U.t1 10 o (fun q j=>gp) d ?_;refine dB ?_;refine S _ _ ?_;refine I.ret (av ?_);exact⟨_,_,o,x,az,B⟩
set_option maxHeartbeats 2000000 in
theorem JI(bC:Int)(K:List Nat)(g:cQ)(b:Nat)(D:aw)(c bn:Nat)(p:aD)(n:Nat)(br:Bool)(c5:Nat)(eK:Nat)(s:aO)(l:List (aO×Rec))(F:Nat→Prop)(w0:World)(N:Heap)
 (A:bq K g N b D)(aL:fj bC N)(aF:bp (fun b=>b=0) N.size)(ek:aS (fun b=>b=0) K)(aq:Var 103 N c [ptr bn])(L:Var 206 N bn [ptr b,aN p,.int .i64 (n:Int),.bool br])(eH:au (c+1) K)(dl:au (bn+1) K)(W:Var 9 N c5 [aN (bG p)])(d7:au (c5+1) K)(V:Var 104 N eK [s.v])(d3:au (eK+1) K)(aH:Rd F N kI 1 s.v l)(aZ:bp F N.size)(a8:aS F K)(aP:∀x∈l,Rd F N bd 1 x.1.v x.2)(a6:bp F N.size)(a_:aS F K)(aK:∀x∈l,x.2.length≤1048576)(bb:(gf 0 (dp l)).length≤274877900000)(bf:p.length≤4294960000)(aG:h5 274877906944 D):
 aE Tryz.prog w0 169 #[ptr c,ptr c5,ptr eK] N (fun r M=>∃bF:List Nat,∃g2:cQ,r= .int .i64 ((D.lay (bG p) ⟨false,c1 (dp l)⟩).1:Int)∧bq bF g2 M b (D.lay (bG p) ⟨false,c1 (dp l)⟩).2∧bk K N.size bF∧aa (ay K) N M):=by
 refine aE.aP [ptr c,ptr c5,ptr eK] Tryz.func169 ?_;intro aQ aJ;have E:aa (ay K) N N:=aa.refl _ _;have O:=bk.refl K N.size;have aX:=A.aC;have ap:=aq.lt;have aW:=L.lt;have az:=W.lt;have am:=V.lt;refine I.O (fun aC=>?_);refine G.aj ?_;refine aC (I.seq (fun bF X _=>?_));refine eA (fun q=>aa (ay K) N q) [] ?_;have d:aa (ay K) N N:=aa.refl _ _;have Z:=bk.refl K N.size;refine U.t1 0 o (fun q j=>Y.gO (aq.aJ j eH).W o jl o) d ?_;refine U.bs 1 o d ?_;refine U.t1 2 o (fun q j=>Y.fieldAddr (L.aJ j dl).W o h4 o o pW bc o) d ?_;refine U.t1 3 o (fun q j=>Y.gO (L.aJ j dl).W o pn o) d ?_;refine U.t1 4 o (fun q j=>Y.gO (W.aJ j d7).W o cd o) d ?_;refine U.t1 5 o (fun q j=>Y.gO (V.aJ j d3).W o xD o) d ?_;refine U.bg 6 ?_;refine cP H6 (JX s l w0 _ aH.any (fun x h=>(aP x h).any) aK J) ?_;rintro aR H ⟨af,C,rfl,ad,P,ai⟩;have ag:au C K:=au.qh au.lT A.aC P;have ak:=ae.O (ae.refl 0 _) P d.size;obtain⟨A,aL,E,d,_⟩:=ed ai A aL E d;have aV:=ad.le;refine⟨.inr d,U.narrow (SH2:=fun q=>aa (ay (K++[C])) H q) (fun q j=>d.bt j (ar.app (ar.cO Z (by intro k B;simp[B])) (ar.T (an.q ak)))) ?_⟩;have d:aa (ay (K++[C])) H H:=aa.refl _ _;have Q:=bk.refl K H.size;have av:=ae.refl C H.size;refine U.bg 7 ?_;refine cP H5 (w_ bC K g b D (bG p) af (c1 (dp l)) _ w0 _ A aL (aF.mono J) ek ad.rd (bp.of ad.le) (aS.of ag) (by rw[tG];omega) aG (by unfold c1;rw[bT];have ba:hQ.length=8:=rfl;omega)) ?_;rintro aT a7 ⟨S,aU,rfl,A,ac,R⟩;have ax:=bk.O O ac E.size;have aB:=bk.O Q ac d.size;have E:=E.bt R (ar.cO O (by intro k B;simp[B]));have d:=d.bt R (ar.cO Q (by intro k B;simp[B]));refine⟨.inr d,U.narrow (SH2:=fun q=>aa (ay (S++[C])) a7 q) (fun q j=>d.bt j (ar.app (ar.cO aB (by intro k B;simp[B])) (ar.T (an.r av)))) ?_⟩;have d:aa (ay (S++[C])) a7 a7:=aa.refl _ _;refine U.t1 8 o (fun q j=>gp) d ?_;refine dB ?_;refine X _ _ ?_;refine I.ret (aJ ?_);exact⟨_,_,o,A,ax,E⟩
set_option maxHeartbeats 2000000 in
theorem JH(bC:Int)(K:List Nat)(g:cQ)(b:Nat)(D:aw)(c bn:Nat)(p:aD)(n:Nat)(br:Bool)(c5:Nat)(w0:World)(N:Heap)
 (d:bq K g N b D)(aL:fj bC N)(M:bp (fun b=>b=0) N.size)(ek:aS (fun b=>b=0) K)(aq:Var 103 N c [ptr bn])(B:Var 206 N bn [ptr b,aN p,.int .i64 (n:Int),.bool br])(eH:au (c+1) K)(dl:au (bn+1) K)(A:Var 9 N c5 [aN (bG p)])(d7:au (c5+1) K)(Z:p.length≤4294960000)(O:h5 274877906944 D):
 aE Tryz.prog w0 172 #[ptr c,ptr c5] N (fun r q=>∃bF:List Nat,∃g2:cQ,r= .int .i64 ((D.sync (bG p)).1:Int)∧bq bF g2 q b (D.sync (bG p)).2∧bk K N.size bF∧aa (ay K) N q):=by
 refine aE.aP [ptr c,ptr c5] Tryz.func172 ?_;intro V R;have j:aa (ay K) N N:=aa.refl _ _;have x:=bk.refl K N.size;have ad:=d.aC;have Y:=aq.lt;have X:=B.lt;have ac:=A.lt;refine I.O (fun E=>?_);refine G.aj ?_;refine E (I.seq (fun bF F _=>?_));refine ka 5 (fun W P=>?_);refine G.v1 (bf aq.W jl) ?_;refine G.bs ?_;refine G.a6 B.W h4 pW pn ?_;refine G.v1 (bf A.W cd) ?_;refine G.nil (P _ ?_);refine aW BH (FX bC K g b D (bG p) w0 _ d aL (M.mono J) ek (by rw[tG];omega) O) ?_;rintro ae S ⟨U,g8,rfl,d,C,H⟩;have L:=bk.O x C j.size;have j:=j.bt H (ar.cO x (by intro k Q;simp[Q]));refine G.aj ?_;refine F _ _ ?_;refine I.ret (R ?_);exact⟨_,_,o,d,L,j⟩
set_option maxHeartbeats 2000000 in
theorem JF(bC:Int)(K:List Nat)(g:cQ)(b:Nat)(D:aw)(c bn:Nat)(p:aD)(n:Nat)(br:Bool)(c5:Nat)(w0:World)(N:Heap)
 (d:bq K g N b D)(aL:fj bC N)(M:bp (fun b=>b=0) N.size)(ek:aS (fun b=>b=0) K)(aq:Var 103 N c [ptr bn])(q:Var 206 N bn [ptr b,aN p,.int .i64 (n:Int),.bool br])(eH:au (c+1) K)(dl:au (bn+1) K)(B:Var 9 N c5 [aN (bG p)])(d7:au (c5+1) K)(Z:p.length≤4294960000)(O:h5 274877906944 D):
 aE Tryz.prog w0 173 #[ptr c,ptr c5] N (fun r x=>∃bF:List Nat,∃g2:cQ,r= .int .i64 ((D.rename (bG p) p).1:Int)∧bq bF g2 x b (D.rename (bG p) p).2∧bk K N.size bF∧aa (ay K) N x):=by
 refine aE.aP [ptr c,ptr c5] Tryz.func173 ?_;intro S R;have j:aa (ay K) N N:=aa.refl _ _;have A:=bk.refl K N.size;have V:=d.aC;have W:=aq.lt;have ac:=q.lt;have ad:=B.lt;refine I.O (fun F=>?_);refine G.aj ?_;refine F (I.seq (fun bF H _=>?_));refine ka 9 (fun U P=>?_);refine G.v1 (bf aq.W jl) ?_;refine G.bs ?_;refine G.a6 q.W h4 pW pn ?_;refine G.v1 (bf B.W cd) ?_;refine G.v1 (bf aq.W jl) ?_;refine G.bs ?_;refine G.a6 q.W h4 b3 cd ?_;refine G.nil (P _ ?_);refine aW H9 (Nx bC K g b D (bG p) p w0 _ d aL (M.mono J) ek (by rw[tG];omega) J O) ?_;rintro X az ⟨am,Y,rfl,d,C,E⟩;have L:=bk.O A C j.size;have j:=j.bt E (ar.cO A (by intro k Q;simp[Q]));refine G.aj ?_;refine H _ _ ?_;refine I.ret (R ?_);exact⟨_,_,o,d,L,j⟩
set_option maxHeartbeats 2000000 in
theorem JG(bC:Int)(K:List Nat)(g:cQ)(b:Nat)(D:aw)(c bn:Nat)(p:aD)(n:Nat)(br:Bool)(w0:World)(N:Heap)
 (A:bq K g N b D)(aL:fj bC N)(M:bp (fun b=>b=0) N.size)(ek:aS (fun b=>b=0) K)(aq:Var 103 N c [ptr bn])(C:Var 206 N bn [ptr b,aN p,.int .i64 (n:Int),.bool br])(eH:au (c+1) K)(dl:au (bn+1) K)(ak:p.length≤4294960000)(V:h5 274877906944 D):
 aE Tryz.prog w0 175 #[ptr c] N (fun r H=>∃bF:List Nat,∃g2:cQ,r= .int .i64 ((D.iG (bV p)).1:Int)∧bq bF g2 H b (D.iG (bV p)).2∧bk K N.size bF∧aa (ay K) N H):=by
 refine aE.aP [ptr c] Tryz.func175 ?_;intro X W;have B:aa (ay K) N N:=aa.refl _ _;have L:=bk.refl K N.size;have ae:=A.aC;have af:=aq.lt;have Z:=C.lt;refine I.O (fun Q=>?_);refine G.aj ?_;refine Q (I.seq (fun bF ap _=>?_));refine eA (fun q=>aa (ay K) N q) [] ?_;have d:aa (ay K) N N:=aa.refl _ _;have R:=bk.refl K N.size;refine U.t1 0 o (fun q j=>Y.gO (aq.aJ j eH).W o jl o) d ?_;refine U.bs 1 o d ?_;refine U.t1 2 o (fun q j=>Y.fieldAddr (C.aJ j dl).W o h4 o o pW bc o) d ?_;refine U.t1 3 o (fun q j=>Y.gO (C.aJ j dl).W o pn o) d ?_;refine U.t1 4 o (fun q j=>Y.gO (aq.aJ j eH).W o jl o) d ?_;refine U.bs 5 o d ?_;refine U.t1 6 o (fun q j=>Y.fieldAddr (C.aJ j dl).W o h4 o o b3 bc o) d ?_;refine U.t1 7 o (fun q j=>bf ((C.aJ j dl).W.drop 1) cd) d ?_;refine U.bg 8 ?_;refine cP ry (rD bC p w0 _ aL (M.mono J) J) ?_;rintro ag E ⟨rfl,O⟩;obtain⟨A,aL,B,d,_⟩:=ed O A aL B d;refine⟨.inr d,U.narrow (SH2:=fun q=>aa (ay K) E q) (fun q j=>d.bt j (ar.cO R (by intro k x;simp[x]))) ?_⟩;have d:aa (ay K) E E:=aa.refl _ _;have az:=bk.refl K E.size;refine U.bg 9 ?_;refine cP Ia (OR bC K g b D (bV p) w0 _ A aL (M.mono J) ek (by have:=JK p;omega) V) ?_;rintro a7 F ⟨am,ai,rfl,A,ac,ad⟩;have S:=bk.O L ac B.size;have P:=bk.O az ac d.size;have B:=B.bt ad (ar.cO L (by intro k x;simp[x]));have d:=d.bt ad (ar.cO az (by intro k x;simp[x]));refine⟨.inr d,U.narrow (SH2:=fun q=>aa (ay am) F q) (fun q j=>d.bt j (ar.cO P (by intro k x;simp[x]))) ?_⟩;have d:aa (ay am) F F:=aa.refl _ _;refine U.t1 10 o (fun q j=>gp) d ?_;refine dB ?_;refine ap _ _ ?_;refine I.ret (W ?_);exact⟨_,_,o,A,S,B⟩
end lZ
namespace pj
open ho jz kE ox mz m4 lY pg ph lZ
section
variable {w0 : World} {K : List Nat} {H : Heap} {bC : Int} {b c bn n eK c5 cp : Nat} {p : aD} {br : Bool} {s : aO} {F : Nat → Prop} {D : aw}
theorem Jm{l:List (aO×Rec)}(d:qa K H bC b c bn p n br)(j:oz K H 9 c5 [aN (bG p)])(A:oz K H 104 eK [s.v])(q:qd K F H kI s.v l)(N:∀x∈l,Rd F H bd 1 x.1.v x.2)
 (M:∀x∈l,x.2.length≤1048576)(I:(gf 0 (dp l)).length≤274877900000)(E:p.length≤4294960000)(G:bw cp D)(P:cp+4*((c1 (dp l)).length+20)≤536870912):
 ∀(i:Nat) (h:i<([(169,[ptr c,ptr c5,ptr eK]),(172,[ptr c,ptr c5]),(173,[ptr c,ptr c5]),(175,[ptr c])]:List mu).length) (hN:List Nat) (r:cQ) (V:Heap),bq hN r V b (dS ((lC p (dp l)).take i) D).2→bk K H.size hN→aa (ay K) H V→
  xe w0 b (uf (lC p (dp l)) i) (.func (.func ([(169,[ptr c,ptr c5,ptr eK]),(172,[ptr c,ptr c5]),(173,[ptr c,ptr c5]),(175,[ptr c])]:List mu)[i].1) #[] ([(169,[ptr c,ptr c5,ptr eK]),(172,[ptr c,ptr c5]),(173,[ptr c,ptr c5]),(175,[ptr c])]:List mu)[i].2.toArray) hN V (dS ((lC p (dp l)).take i) D).2:=by
 intro i L hN r V C ec hm;have B:h5 274877906944 (dS ((lC p (dp l)).take i) D).2:=(BC i (Dg p (dp l)) G).cR (by have:(lC p (dp l)).length=4:=rfl;rw[this];omega);have d:=d.up hm ec;have j:=j.up hm ec;have A:=A.up hm ec;have O:∀x∈l,Rd F V bd 1 x.1.v x.2:=fun x h=>(N x h).aJ hm q.h9;have q:=q.up hm ec
 match i,L with
 |0,_=>exact im.of (caps:=[ptr c,ptr c5,ptr eK]) (args:=[]) H4 (JI bC hN r b _ c bn p n br c5 eK s l F w0 _ C d.aL d.nH d.ek d.fl d.eg d.eH d.dl j.v j.d A.v A.d q.rd q.cD q.h9 O q.cD q.h9 M I E B)
 |1,_=>exact im.of (caps:=[ptr c,ptr c5]) (args:=[]) H7 (JH bC hN r b _ c bn p n br c5 w0 _ C d.aL d.nH d.ek d.fl d.eg d.eH d.dl j.v j.d E B)
 |2,_=>exact im.of (caps:=[ptr c,ptr c5]) (args:=[]) H8 (JF bC hN r b _ c bn p n br c5 w0 _ C d.aL d.nH d.ek d.fl d.eg d.eH d.dl j.v j.d E B)
 |3,_=>exact im.of (caps:=[ptr c]) (args:=[]) H_ (JG bC hN r b _ c bn p n br w0 _ C d.aL d.nH d.ek d.fl d.eg d.eH d.dl E B)
theorem G5{rc:Rec}(d:qa K H bC b c bn p n br)(r:oz K H 57 eK [s.v])(q:qd K F H bd s.v rc)(I:rc.length≤1048576)(G:p.length≤4294960000)(B:bw cp D)(E:cp+4*(rc.length+20)≤536870912):
 ∀(i:Nat) (h:i<([(109,[ptr c,ptr eK]),(106,[ptr c]),(112,[ptr c]),(106,[ptr c])]:List mu).length) (hN:List Nat) (j:cQ) (V:Heap),bq hN j V b (dS ((hX p n rc).take i) D).2→bk K H.size hN→aa (ay K) H V→
  xe w0 b (uf (hX p n rc) i) (.func (.func ([(109,[ptr c,ptr eK]),(106,[ptr c]),(112,[ptr c]),(106,[ptr c])]:List mu)[i].1) #[] ([(109,[ptr c,ptr eK]),(106,[ptr c]),(112,[ptr c]),(106,[ptr c])]:List mu)[i].2.toArray) hN V (dS ((hX p n rc).take i) D).2:=by
 intro i C hN j V A ec hm;have x:h5 274877906944 (dS ((hX p n rc).take i) D).2:=(BC i (xK p n rc) B).cR (by have:(hX p n rc).length=4:=rfl;rw[this];omega);have d:=d.up hm ec;have r:=r.up hm ec;have q:=q.up hm ec
 match i,C with
 |0,_=>exact im.of (caps:=[ptr c,ptr eK]) (args:=[]) HI (GZ bC hN j b _ c bn p n br eK s rc F w0 _ A d.aL d.nH d.ek d.fl d.eg d.eH d.dl r.v r.d q.rd q.cD q.h9 J J x)
 |1,_=>exact im.of (caps:=[ptr c]) (args:=[]) BG (Bn bC hN j b _ c bn p n br w0 _ A d.aL d.nH d.ek d.fl d.eg d.eH d.dl J x)
 |2,_=>exact im.of (caps:=[ptr c]) (args:=[]) HK (G0 bC hN j b _ c bn p n br w0 _ A d.aL d.nH d.ek d.fl d.eg d.eH d.dl J x)
 |3,_=>exact im.of (caps:=[ptr c]) (args:=[]) BG (Bn bC hN j b _ c bn p n br w0 _ A d.aL d.nH d.ek d.fl d.eg d.eH d.dl J x)
end
theorem pv(b:List UInt8):(gf 0 (e6 b)).length≤b.length∧(c1 (e6 b)).length≤b.length+8:=by
 by_cases h:hK b=0
 ·obtain⟨t,e,_⟩:=MR h
  have ab:=aI List.length e;rw[bT]at ab;unfold c1 at ab⊢;rw[bT]at ab⊢;omega
 ·have:e6 b=[]:=by unfold hK at h;unfold e6;split at h;exact absurd o h;rename_i d;rw[aA d]
  rw[this];simp[gf,c1,hQ]
theorem yg(l:List Rec)(n:Nat):(gf 0 (l.take n)).length≤(gf 0 l).length:=by
 conv=>rhs;rw[←hY n l,s5]
 rw[bT];omega
def hZ(D:aw)(p:aD)(n:Nat):Nat×aw:=if D.gI p≠0 then(D.gI p,D)else if hK (D.cM p)≠0 then(hK (D.cM p),D)else fW D p ((e6 (D.cM p)).take n)
def se(D:aw)(p:aD)(n:Nat):Nat:=((e6 (D.cM p)).take n).length
def pL(e m n:Nat):Nat:=if e=0 then m else n
def sb(e:Nat)(br:Bool):Bool:=if e=0 then false else br
def ku(D:aw)(p:aD)(n:Nat)(br:Bool):Nat×Nat×aw:=if br=true then((hZ D p n).1,se D p n,(hZ D p n).2)else(0,n,D)
def fp(D:aw)(p:aD)(n:Nat)(br:Bool)(r:Rec):Nat×Nat×Bool×aw:=
 if(ku D p n br).1≠0 then((ku D p n br).1,n,br,(ku D p n br).2.2)
 else
  let q:=dS (hX p (ku D p n br).2.1 r) (ku D p n br).2.2
  (q.1,if q.1=0 then(ku D p n br).2.1+1 else(ku D p n br).2.1,if q.1=0 then false else true,q.2)
theorem BA{cp:Nat}{D:aw}(h:bw cp D)(p:aD)(n:Nat):bw (cp+4*(cp+28)) (hZ D p n).2:=by
 unfold hZ;split
 ·exact h.mono J
 ·split
  ·exact h.mono J
  ·refine(rq h p _).mono ?_
   have d:=(pv (D.cM p)).1;have ab:=yg (e6 (D.cM p)) n
   have j:(D.cM p).length≤cp:=by
    unfold aw.cM aw.eE;split
    ·split
     ·exact(h.f _).1
     ·exact iT _
    ·exact iT _
   have q:hQ.length=8:=rfl;unfold c1;rw[bT];omega
theorem sr{cp:Nat}{D:aw}(h:bw cp D)(p:aD):(D.cM p).length≤cp:=by
 unfold aw.cM aw.eE;split
 ·split
  ·exact(h.f _).1
  ·exact iT _
 ·exact iT _
theorem Hx{cp:Nat}{D:aw}(h:bw cp D)(p:aD)(n:Nat)(br:Bool)(r:Rec):bw (cp+4*(cp+28)+4*(r.length+20)) (fp D p n br r).2.2.2:=by
 have d:bw (cp+4*(cp+28)) (ku D p n br).2.2:=by
  unfold ku;split
  ·exact BA h p n
  ·exact h.mono J
 unfold fp;split
 ·exact d.mono J
 ·exact(sR (xK p _ r) d).mono (by simp[hX];omega)
theorem x9(bC:Int)(K:List Nat)(g:cQ)(b:Nat)(D:aw)(bn:Nat)(p:aD)(n:Nat)(br:Bool)(s:aO)(l:List (aO×Rec))(F:Nat→Prop)(cp:Nat)(w0:World)(N:Heap)
 (j:bq K g N b D)(aL:fj bC N)(aX:bp (fun b=>b=0) N.size)(ek:aS (fun b=>b=0) K)(d:Var 206 N bn [ptr b,aN p,.int .i64 (n:Int),.bool br])(dl:au (bn+1) K)(cw:ax (fun b=>b=0) (bn+1))(B:Rd F N kI 1 s.v l)(aV:bp F N.size)(aZ:aS F K)(L:∀x∈l,Rd F N bd 1 x.1.v x.2)(b2:bp F N.size)(ct:aS F K)(a_:∀x∈l,x.2.length≤1048576)(b_:(gf 0 (dp l)).length≤274877900000)(b5:ax F (bn+1))(cv:ax F (bn+1))(cb:p.length≤4294960000)(b7:bw cp D)(b9:cp+4*((c1 (dp l)).length+20)≤536870912)(cy:l.length≤1073741824):
 aE Tryz.prog w0 90 #[ptr bn,s.v] N (fun r M=>∃bF:List Nat,∃g2:cQ,r= .int .i64 ((fW D p (dp l)).1:Int)∧bq bF g2 M b (fW D p (dp l)).2∧bk K N.size bF∧Var 206 M bn [ptr b,aN p,.int .i64 (pL (fW D p (dp l)).1 l.length n:Int),.bool (sb (fW D p (dp l)).1 br)]∧au (bn+1) bF∧aa (ay (K++[(bn+1)])) N M):=by
 refine aE.aP [ptr bn,s.v] Tryz.func90 ?_;intro cg a7;have q:aa (ay (K++[(bn+1)])) N N:=aa.refl _ _;have ac:=bk.refl K N.size;have bX:=j.aC;have aC:=ae.refl (bn+1) N.size;have ch:=d.lt;refine I.O (fun bS=>?_);refine G.aU (Z.ey (Z.nI o o o)) ?_;rintro v2 M ⟨rfl,A,bT,_⟩;have ai:=au.hU j.aC;have av:=ak.new d.lt;obtain⟨j,aL,d,B,L,q,_⟩:=fY bT j aL d B L q;have A:Var 103 M N.size ([ptr bn]):=A;refine G.aU (Z.ey (Z.nI o o ((B).tL))) ?_;rintro v3 ag ⟨rfl,C,bU,_⟩;have aB:=au.hU j.aC;have bV:=ak.new d.lt;obtain⟨j,aL,d,B,L,A,q,_⟩:=kr bU j aL d B L A q;have C:Var 104 ag M.size ([s.v]):=C;refine G.aj ?_;refine bS (I.seq (fun bF a0 _=>I.O (fun bB=>?_)));refine G.v1 (bf C.W xD) ?_;refine G.v1 (bu B jO) ?_;refine G.af (G.nil (bB ?_));refine I.aC (fun _ a2 _=>?_)
 refine I.bb (fun(i:Nat)=>[(2,.pointer (some ⟨N.size,0,none⟩)),(3,.pointer (some ⟨M.size,0,none⟩)),(9,s.v),(10,.int .i64 (l.length:Int)),(11,.int .i64 (i:Int))])
  (fun(i:Nat) (H:Heap)=>(i≤l.length)∧al ag H)
  (fun(i:Nat)=>l.length-i) 0 ⟨o,o,o,o,o,trivial⟩ ?_ ?_
 ·
  exact⟨J,aa.refl _ _⟩
 intro i Q a3 cf a4 a5;obtain⟨cx,am⟩:=a3;obtain⟨j,aL,d,B,L,A,C,q,_⟩:=fP am j aL d B L A C q;refine I.O (fun bb=>?_);refine G.v1 bZ (G.nil (bb ?_));refine I.t2 (fun bg bj=>?_);refine a8 (fun a9=>?_) (fun a9=>?_)
 ·
  have a6:i<l.length:=by omega
  have cc:=L l[i] (cU a6);have cz:=a_ l[i] (cU a6);refine I.skip (bg (I.t1 (fun bW=>I.aC (fun b0 _ _=>I.O (fun bm=>?_)))));refine G.cn (Y.cg B i o jO dt o o) fun cl bo=>?_;refine G.v1 (bf bo.W fe) ?_;refine G.aj ?_;refine bm (I.O (fun bt=>?_));refine G.af ?_;refine G.v1 (bu cc dV) ?_;refine G.v1 ((fA).gE J) (G.nil (bt ?_));refine dZ ?_;refine I.skip (b0 (bW (I.region ?_)));refine G.v1 bN ?_;refine G.af (G.nil ?_);refine aT.sub (a4 (i+1) _ ?_ ?_) ⟨o,o,o,(aF J),(aF J),trivial⟩
  ·exact⟨J,am⟩
  ·first|omega|(simp only;omega)|(simp;omega)
 ·
  refine I.exit (bj (a5 (a2 ?_)));refine a0 _ _ (I.O (fun bx=>?_));refine G.v1 (bf A.W jl) ?_;refine G.bs ?_;refine G.a6 d.W h4 b3 cd ?_;refine G.v1 (Y.cast (v2:=aN (bG p)) (Y.wI o o o (by simp only[fx,je];omega)) o) ?_;refine G.aU (Z.a7 PM) ?_;rintro cA ba ⟨rfl,R,b1,_⟩;have aH:=au.hU j.aC;have bz:=ax.new (aX.mono q.size);have bA:=ak.new d.lt;have bD:=ax.new (aV.mono q.size);have bE:=ax.new (b2.mono q.size);have bH:=ak.new A.lt;have bJ:=ak.new C.lt;have bK:=ae.new q.size;obtain⟨j,aL,d,B,L,A,C,q,_⟩:=fP b1 j aL d B L A C q;have R:Var 9 ba Q.size ([aN []]):=R;refine G.s1 (du R 0 ([aN (bG p)]) b3 bl o) ?_;rintro cR ⟨R,ap⟩;obtain⟨j,aL,d,B,L,A,C,q,_⟩:=jG ap j (iv aH) aL bz d bA B bD L bE A bH C bJ q (an.q bK);refine G.nil (bx (I.O (fun bL=>?_)));refine G.v1 (Y.makeFunc o o) ?_;refine G.v1 (Y.makeFunc o o) ?_;refine G.v1 (Y.makeFunc o o) ?_;refine G.v1 (Y.makeFunc o o) ?_;refine G.aU (Z.c2 (dE _ (([(169,[ptr N.size,ptr Q.size,ptr M.size]),(172,[ptr N.size,ptr Q.size]),(173,[ptr N.size,ptr Q.size]),(175,[ptr N.size])]:List mu)) Ds CV CW)) ?_;rintro be cm ⟨aJ,aK,_⟩;have bM:=au.hU j.aC;obtain⟨j,aL,d,B,L,A,C,R,_⟩:=fP aK j aL d B L A C R;obtain⟨q,_⟩:=b6 aK q;refine aW BI (C7 K g b D be [(169,[ptr N.size,ptr Q.size,ptr M.size]),(172,[ptr N.size,ptr Q.size]),(173,[ptr N.size,ptr Q.size]),(175,[ptr N.size])] (lC p (dp l)) _ w0 _ j aJ.rd (bp.of aJ.le) (aS.of bM) o (Jm (qa.mk aL (aX.mono J) ek A d ai dl) (oz.mk R aH) (oz.mk C aB) (qd.mk B (aV.mono J) aZ) L a_ b_ cb b7 b9)) (fun bi W cD=>?_);have bO:=d.lt;obtain⟨cn,cq,rfl,j,aG,S⟩:=cD;have X:=au.ej dl bO aG;have aP:=bk.O ac aG q.size;have d:=d.aJ S dl;have B:=B.aJ S aZ;have A:=A.aJ S ai;have C:=C.aJ S aB;have q:=q.bt S (ar.cO ac (by intro k ca;simp[ca]));have cr:=S.size;have bX:=j.aC;refine G.aj ?_;refine bL (I.t1 (fun aQ=>I.O (fun bP=>?_)));refine G.af ?_;refine G.v1 cC (G.nil (bP ?_));refine a8 (fun b4=>?_) (fun b4=>?_)
  ·
   refine eA (fun P=>aa (ay [(bn+1)]) W P) [] ?_;have E:aa (ay [(bn+1)]) W W:=aa.refl _ _;have aR:=ae.refl (bn+1) W.size;refine U.t1 0 o (fun P O=>Y.gO (A.aJ O (au.T av.symm)).W o jl o) E ?_;refine U.t1 1 o (fun P O=>Y.gO (A.aJ O (au.T av.symm)).W o jl o) E ?_;refine U.t1 2 o (fun P O=>Y.gO (C.aJ O (au.T bV.symm)).W o xD o) E ?_;refine U.t1 3 o (fun P O=>bu (B.aJ O (aS.T b5)) jO) E ?_;refine U.bs 4 o E ?_;refine U.t1 5 o (fun P O=>Y.C5 d.W o h4 o o b8 bc o) E ?_;refine U.bg 6 ?_;refine iK o (du d 2 ([ptr b,aN p,.int .i64 (l.length:Int),.bool br]) b8 bl o) ?_;rintro af ⟨d,bY⟩;obtain⟨j,q,E,_⟩:=dQ bY j (iv X) q (an.r aC) E (an.r aR);refine U.b5 E (ar.T (an.r aR)) ?_;have E:aa (ay [(bn+1)]) af af:=aa.refl _ _;have aU:=ae.refl (bn+1) af.size;refine U.bs 7 o E ?_;refine U.t1 8 o (fun P O=>Y.C5 d.W o h4 o o ee bc o) E ?_;refine U.bg 9 ?_;refine iK o (du d 3 ([ptr b,aN p,.int .i64 (l.length:Int),.bool false]) ee bl o) ?_;rintro ck ⟨d,az⟩;obtain⟨j,q,E,_⟩:=dQ az j (iv X) q (an.r aC) E (an.r aU);refine U.b5 E (ar.T (an.r aU)) ?_;refine dB ?_;refine aQ (I.O (fun bQ=>?_));refine G.aZ 2 ?_;refine bQ ?_;refine I.ret (a7 ?_);have V:(dS (lC p (dp l)) D).1=0:=by omega
   exact⟨_,_,o,j,aP,by unfold pL sb fW;rw[aM V,aM V];exact d,X,q⟩
  ·
   refine I.skip (aQ (I.O (fun bR=>?_)));refine G.aZ 2 ?_;refine bR ?_;refine I.ret (a7 ?_);have V:(dS (lC p (dp l)) D).1≠0:=by omega
   exact⟨_,_,o,j,aP,by unfold pL sb fW;rw[aA V,aA V];exact d,X,q⟩
end pj
namespace oA
open ho jz kE mz m4 lY pg ph lZ pj
theorem LG{D:aw}{p:aD}{n:Nat}(h:D.gI p≠0):hZ D p n=(D.gI p,D):=by unfold hZ;rw[aM h]
theorem LH{D:aw}{p:aD}{n:Nat}(h:D.gI p=0)(ab:hK (D.cM p)≠0):hZ D p n=(hK (D.cM p),D):=by unfold hZ;rw[aA J,aM ab]
theorem LI{D:aw}{p:aD}{n:Nat}(h:D.gI p=0)(ab:hK (D.cM p)=0):hZ D p n=fW D p ((e6 (D.cM p)).take n):=by unfold hZ;rw[aA J,aA J]
theorem Np(l:List (aO×Rec))(i n:Nat)(h:i=min n l.length):dp (l.take i)=(dp l).take n:=by
 unfold dp;rw[tk,h];rcases Nat.le_total n l.length with ab|ab
 ·rw[kl ab]
 ·rw[Nat.min_eq_right ab,eY bl,eY (by simpa using ab)]
theorem yh(b:List UInt8)(n:Nat):(c1 ((e6 b).take n)).length≤b.length+8:=by
 have d:=(pv b).1;have ab:=yg (e6 b) n;have j:hQ.length=8:=rfl;unfold c1;rw[bT];omega
theorem zF(b:List UInt8):(e6 b).length≤b.length+8:=fg (CN _) (pv b).2
theorem tw{m n e:Nat}(h:e=0):pL e m n=m:=aM h
theorem tv{e:Nat}{br:Bool}(h:e=0):sb e br=false:=aM h
theorem y9{m n e:Nat}(h:e≠0):pL e m n=n:=aA h
theorem y8{e:Nat}{br:Bool}(h:e≠0):sb e br=br:=aA h
theorem LJ(bC:Int)(K:List Nat)(g:cQ)(b:Nat)(D:aw)(bn:Nat)(p:aD)(n:Nat)(br:Bool)(cp:Nat)(w0:World)(N:Heap)
 (j:bq K g N b D)(aL:fj bC N)(aC:bp (fun b=>b=0) N.size)(ek:aS (fun b=>b=0) K)(d:Var 206 N bn [ptr b,aN p,.int .i64 (n:Int),.bool br])(dl:au (bn+1) K)(bo:ax (fun b=>b=0) (bn+1))(bx:p.length≤4294960000)(S:bw cp D)(bQ:cp≤90000000)(bR:n≤1073741824):
 aE Tryz.prog w0 105 #[ptr bn] N (fun r V=>∃bF:List Nat,∃g2:cQ,r= .int .i64 ((hZ D p n).1:Int)∧bq bF g2 V b (hZ D p n).2∧bk K N.size bF∧Var 206 V bn [ptr b,aN p,.int .i64 (pL (hZ D p n).1 (se D p n) n:Int),.bool (sb (hZ D p n).1 br)]∧au (bn+1) bF∧aa (ay (K++[(bn+1)])) N V):=by
 refine aE.aP [ptr bn] Tryz.func105 ?_;intro bD Z;have q:aa (ay (K++[(bn+1)])) N N:=aa.refl _ _;have Q:=bk.refl K N.size;have H:=j.aC;have ad:=ae.refl (bn+1) N.size;have ag:=d.lt;have bU:=sr S p;have bt:=yh (D.cM p);have bS:=zF (D.cM p);refine I.O (fun bj=>?_);refine G.aj ?_;refine bj (I.seq (fun bF bl _=>?_));refine eA (fun C=>al N C) [] ?_;have A:=al.refl N;refine U.af 0 o A ?_;refine U.bs 1 o A ?_;refine U.aV 2 h4 pW A ?_;refine U.t1 3 o (fun C E=>bf (d.W.aR E) pn) A ?_;refine U.af 4 o A ?_;refine U.bs 5 o A ?_;refine U.aV 6 h4 b3 A ?_;refine U.t1 7 o (fun C E=>bf ((d.W.drop 1).aR E) cd) A ?_;refine U.bg 8 ?_;refine cP Cb (E7 bC K g b D p w0 _ aL (aC.mono J) j J (fun i=>by have:=(S.f i).1;omega)) ?_;rintro bG M ⟨aF,bH,rfl,ak,bE,az⟩;obtain⟨j,aL,d,q,_⟩:=ed az j aL d q;have am:=ak.le;have bc:=A.O az;refine U.dx bc ?_;have ac:=al.refl M;refine U.af 9 o ac ?_;refine U.t1 10 o (fun C E=>c3) ac ?_;refine U.t1 11 o (fun C E=>c3) ac ?_;refine U.t1 12 o (fun C E=>gp) ac ?_;refine U.t1 13 o (fun C E=>gp) ac ?_;refine dB ?_;have bT:=ac;refine bl _ _ (I.t2 (fun aG aH=>I.O (fun aJ=>?_)));refine G.af ?_;refine G.v1 dX (G.nil (aJ ?_));refine a8 (fun aK=>?_) (fun aK=>?_)
 ·
  refine I.O (fun aP=>?_);refine G.aZ 2 ?_;refine aP ?_;refine I.ret (aH (Z ?_));have hm:=LG (n:=n) (show D.gI p≠0 by omega);have P:(hZ D p n).1≠0:=by rw[hm];show D.gI p≠0;omega
  exact⟨_,_,by rw[hm];rfl,by rw[hm];exact j,Q,by rw[y9 P,y8 P];exact d,dl,q⟩
 ·
  refine I.skip (aG (I.O (fun aQ=>?_)));refine G.af ?_;refine aW Cc (EX aF (D.cM p) w0 _ ak.rd.any (by have:=sr S p;omega)) ?_;rintro bJ R ⟨bK,B,rfl,X,L,W,bd⟩;obtain⟨j,aL,d,q,_⟩:=ed bd j aL d q;have L:=L.ch;have ai:=L.cD;have aR:aS (fun b=>M.size≤b∧b<R.size) K:=aS.jV (fun b h=>h.1) (by first|exact H|exact fun k O=>fg (H k O) J|assumption);have aT:ax (fun b=>M.size≤b∧b<R.size) (bn+1):=ax.jV (fun b h=>h.1) (by first|exact bz|exact ag|omega);have W:=fun x bB=>(W x bB).ch;have aU:aS (fun b=>M.size≤b∧b<R.size) K:=aS.jV (fun b h=>h.1) (by first|exact H|exact fun k O=>fg (H k O) J|assumption);have aV:ax (fun b=>M.size≤b∧b<R.size) (bn+1):=ax.jV (fun b h=>h.1) (by first|exact bz|exact ag|omega);refine G.af ?_;refine G.v1 c3 ?_;refine G.v1 c3 ?_;refine G.v1 c3 ?_;refine G.aZ 3 ?_;refine aQ (I.t2 (fun aX aZ=>I.O (fun a6=>?_)));refine G.af ?_;refine G.v1 dX (G.nil (a6 ?_));refine a8 (fun a_=>?_) (fun a_=>?_)
  ·
   refine I.O (fun ba=>?_);refine G.aZ 2 ?_;refine ba ?_;refine I.ret (aZ (Z ?_));have hm:=LH (n:=n) (show D.gI p=0 by omega) (show hK (D.cM p)≠0 by omega);have P:(hZ D p n).1≠0:=by rw[hm];show hK (D.cM p)≠0;omega
   exact⟨_,_,by rw[hm];rfl,by rw[hm];exact j,Q,by rw[y9 P,y8 P];exact d,dl,q⟩
  ·
   refine I.skip (aX (I.O (fun a7=>?_)));refine G.av 4 ?_;refine G.a6 d.W h4 b8 cX ?_;refine G.af ?_;refine G.v1 (bu L jO) ?_;refine G.v1 (Y.cast (v2:= .int .i64 ((min n B.length:Nat):Int)) (Y.zi o o o) (eI J)) ?_;refine G.aP (g:=fun v=>v) (Y.slice L (0) (min n B.length) o jO dt o (.inl ⟨o,o⟩) (.inr ⟨_,_,_,o,o,by first|rfl|omega⟩) J J) fun aB af=>?_;rw[nh]at af;obtain⟨bb,rfl⟩:∃s:aO,aB=s.v:=⟨cF aB,af.bA.symm⟩;have F:=Np B (min n B.length) n o;rw[X]at F;have bA:=aI List.length X;simp only[dp,dg]at bA;refine aW x7 (x9 bC K g b D bn p n br bb (B.take (min n B.length)) _ cp w0 _ j aL (aC.mono J) ek d dl bo af (ai.mono J) aR (fun x h=>W x (kQ h)) (ai.mono J) aU (fun x h=>ET _ _ (by rw[←X];exact y0 (kQ h))) (by rw[F];have bP:=yg (e6 (D.cM p)) n;have ab:=(pv (D.cM p)).1;omega) aT aV bx S (by rw[F];have:=bt n;omega) (by rw[eJ];omega)) ?_;rintro bL bM ⟨bN,bO,rfl,j,ap,d,bm,av⟩;have bg:=bk.O Q ap q.size;have q:=q.bt av (ar.app (ar.cO Q (by intro k O;simp[O])) (ar.T (an.r ad)));have a0:=av.size;have H:=j.aC;refine G.aj ?_;refine a7 ?_;refine I.ret (Z ?_);have hm:=LI (n:=n) (show D.gI p=0 by omega) (show hK (D.cM p)=0 by omega);rw[F]at j d;exact⟨_,_,by rw[hm,F],by rw[hm];exact j,bg,by rw[hm];unfold se;rw[show((e6 (D.cM p)).take n).length=(B.take (min n B.length)).length from by rw[←F];exact dg _];exact d,bm,q⟩
theorem zL{D:aw}{p:aD}{n:Nat}{br:Bool}(h:br=false):ku D p n br=(0,n,D):=by unfold ku;rw[h];simp
theorem E1{D:aw}{p:aD}{n:Nat}{br:Bool}(h:br=true):ku D p n br=((hZ D p n).1,se D p n,(hZ D p n).2):=by unfold ku;rw[aM h]
theorem G9{D:aw}{p:aD}{n:Nat}{br:Bool}{r:Rec}(h:br=true)(ab:(hZ D p n).1≠0):fp D p n br r=((hZ D p n).1,n,br,(hZ D p n).2):=by unfold fp;rw[E1 h,aM ab]
theorem xO{D d:aw}{p:aD}{n bs:Nat}{br:Bool}{r:Rec}(h:ku D p n br=(0,bs,d)):fp D p n br r=((dS (hX p bs r) d).1,if(dS (hX p bs r) d).1=0 then bs+1 else bs,if(dS (hX p bs r) d).1=0 then false else true,(dS (hX p bs r) d).2):=by
 unfold fp;rw[h];simp
def dO(D:aw)(p:aD):Nat×List Rec×aw:=
 if cH p=false∨cH (bG p)=false then(7,[],D)
 else if D.gI p=2 then((fW D p []).1,[],(fW D p []).2)
 else if D.gI p≠0 then(D.gI p,[],D)
 else if hK (D.cM p)≠0 then(hK (D.cM p),[],D)
 else if pT (D.cM p)<(D.cM p).length then((fW D p (e6 (D.cM p))).1,if(fW D p (e6 (D.cM p))).1=0 then e6 (D.cM p)else[],(fW D p (e6 (D.cM p))).2)
 else(0,e6 (D.cM p),D)
theorem BB{cp:Nat}{D:aw}(h:bw cp D)(p:aD):bw (cp+4*(cp+28)) (dO D p).2.2:=by
 have d:=(pv (D.cM p)).2;have ab:=sr h p;unfold dO;split
 ·exact h.mono J
 split
 ·exact(rq h p []).mono (by simp[c1,hQ,gf];omega)
 split
 ·exact h.mono J
 split
 ·exact h.mono J
 split
 ·exact(rq h p _).mono J
 ·exact h.mono J
theorem Pj(bC:Int)(K:List Nat)(g:cQ)(b:Nat)(D:aw)(bn:Nat)(p:aD)(n:Nat)(br:Bool)(s:aO)(rc:Rec)(F:Nat→Prop)(cp:Nat)(w0:World)(N:Heap)
 (j:bq K g N b D)(aL:fj bC N)(ai:bp (fun b=>b=0) N.size)(ek:aS (fun b=>b=0) K)(d:Var 206 N bn [ptr b,aN p,.int .i64 (n:Int),.bool br])(dl:au (bn+1) K)(aZ:ax (fun b=>b=0) (bn+1))(B:Rd F N bd 1 s.v rc)(aU:bp F N.size)(aV:aS F K)(bY:ax F (bn+1))(b1:rc.length≤1048576)(a6:p.length≤4294960000)(X:bw cp D)(ch:cp≤80000000)(cm:n≤1000000000):
 aE Tryz.prog w0 38 #[ptr bn,s.v] N (fun r E=>∃bF:List Nat,∃g2:cQ,r= .int .i64 ((fp D p n br rc).1:Int)∧bq bF g2 E b (fp D p n br rc).2.2.2∧bk K N.size bF∧Var 206 E bn [ptr b,aN p,.int .i64 ((fp D p n br rc).2.1:Int),.bool (fp D p n br rc).2.2.1]∧au (bn+1) bF∧aa (ay (K++[(bn+1)])) N E):=by
 refine aE.aP [ptr bn,s.v] Tryz.func38 ?_;intro b3 aB;have q:aa (ay (K++[(bn+1)])) N N:=aa.refl _ _;have ac:=bk.refl K N.size;have af:=j.aC;have V:=ae.refl (bn+1) N.size;have b4:=d.lt;have cq:=sr X p;have ck:=yh (D.cM p);have cn:=zF (D.cM p);refine I.seq (fun P bM _=>I.region ?_);refine G.aU (Z.ey (Z.nI o o o)) ?_;rintro v2 E ⟨rfl,x,bO,_⟩;have aC:=au.hU j.aC;have a0:=ak.new d.lt;obtain⟨j,aL,d,B,q,_⟩:=dH bO j aL d B q;have x:Var 103 E N.size ([ptr bn]):=x;refine G.aU (Z.ey (Z.nI o o ((B).tL))) ?_;rintro v3 O ⟨rfl,L,bB,_⟩;have aF:=au.hU j.aC;have a2:=ak.new d.lt;obtain⟨j,aL,d,B,x,q,_⟩:=fY bB j aL d B x q;have L:Var 57 O E.size ([s.v]):=L;refine G.aj ?_;refine bM _ _ (I.seq (fun bF a3 _=>I.O (fun a4=>?_)));refine G.v1 (bf L.W fe) ?_;refine G.v1 (bu B dV) ?_;refine G.v1 ((fA).gE J) (G.nil (a4 ?_));refine dZ ?_;refine I.skip (a3 _ _ ?_)
 refine I.bQ (fun(b2:(List Nat)×cQ×aw×Nat)=>match b2 with|(P,g1,M,bs)=>[(2,.pointer (some ⟨N.size,0,none⟩)),(3,.pointer (some ⟨E.size,0,none⟩))])
  (fun(P,g1,M,bs) (H:Heap)=>(bq P g1 H b M)∧Var 206 H bn [ptr b,aN p,.int .i64 (bs:Int),.bool false]∧ku D p n br=(0,bs,M)∧bw (cp+4*(cp+28)) M∧bs≤1100000000∧bk K O.size P∧au (bn+1) P∧aa (ay (K++[(bn+1)])) O H) (fun _ aG a5=>?_) ?_
 ·
  have U:aa (ay (K++[(bn+1)])) O O:=aa.refl _ _;have ad:=bk.refl K O.size;have bQ:=ae.refl (bn+1) O.size;refine I.O (fun a_=>?_);refine G.v1 (bf x.W jl) ?_;refine G.bs ?_;refine G.a6 d.W h4 ee fc ?_;refine G.nil (a_ ?_);refine dm (fun a7=>?_) (fun a7=>?_)
  ·
   refine I.O (fun ba=>?_);refine G.v1 (bf x.W jl) ?_;refine aW HH (LJ bC K g b D bn p n br cp w0 _ j aL (ai.mono J) ek d dl aZ a6 X J J) ?_;rintro cD b9 ⟨aH,bb,rfl,j,am,d,aX,ap⟩;have bc:=bk.O ac am q.size;have bg:=bk.O ad am U.size;have q:=q.bt ap (ar.app (ar.cO ac (by intro k Q;simp[Q])) (ar.T (an.r V)));have U:=U.bt ap (ar.app (ar.cO ad (by intro k Q;simp[Q])) (ar.T (an.r bQ)));have b_:=ap.size;have af:=j.aC;refine G.aj ?_;refine ba (I.O (fun a9=>?_));refine G.af ?_;refine G.v1 dX (G.nil (a9 ?_));refine a8 (fun bP=>?_) (fun bP=>?_)
   ·
    refine I.O (fun bV=>?_);refine G.aZ 2 ?_;refine bV ?_;refine I.ret (a5 (aB ?_));have C:(hZ D p n).1≠0:=by omega
    have A:=G9 (r:=rc) a7 C;exact⟨_,_,by rw[A],by rw[A];exact j,bc,by rw[A];rw[y9 C,y8 C]at d;exact d,aX,q⟩
   ·
    refine I.skip ?_;have av:(hZ D p n).1=0:=by omega
    refine aT.sub (aG (aH,bb,(hZ D p n).2,se D p n) _ ?_) ⟨o,o,trivial⟩;exact⟨j,by rw[tw av,tv av]at d;exact d,by rw[E1 a7,av],BA X p n,by unfold se;rw[eJ];omega,bg,aX,U⟩
  ·
   refine I.skip ?_;refine aT.sub (aG (K,g,D,n) _ ?_) ⟨o,o,trivial⟩;exact⟨j,by rw[show br=false by simpa using a7]at d;exact d,zL (by simpa using a7),X.mono J,J,ad,dl,U⟩
 ·
  rintro⟨P,g1,M,bs⟩ b5 bS;obtain⟨j,d,b0,bZ,cl,S,bR,R⟩:=bS;have bj:=aS.ej ek (ai.mono q.size) S;have bm:=aS.ej aV (aU.mono q.size) S;have aK:=au.ej aC x.lt S;have bo:=au.ej aF L.lt S;have aP:=bk.O ac S q.size;have aL:=aL.aJ R (aS.app ek (aS.T aZ));have B:=B.aJ R (aS.app aV (aS.T bY));have x:=x.aJ R (au.app aC (au.T a0.symm));have L:=L.aJ R (au.app aF (au.T a2.symm));have q:=q.bt R (ar.app (ar.cO ac (by intro k Q;simp[Q])) (ar.T (an.r V)));have bi:=R.size;have af:=j.aC;have ag:=bR;refine I.O (fun bW=>?_);refine G.v1 (Y.makeFunc o o) ?_;refine G.aj ?_;refine bW (I.O (fun bt=>?_));refine G.v1 (Y.makeFunc o o) ?_;refine G.af ?_;refine G.v1 (Y.makeFunc o o) ?_;refine G.af ?_;refine G.aU (Z.c2 (dE _ (([(109,[ptr N.size,ptr E.size]),(106,[ptr N.size]),(112,[ptr N.size]),(106,[ptr N.size])]:List mu)) Ds CV CW)) ?_;rintro bX ca ⟨aQ,bx,_⟩;have bz:=au.hU j.aC;obtain⟨j,aL,B,x,L,d,q,_⟩:=kr bx j aL B x L d q;refine aW BI (C7 P g1 b M bX [(109,[ptr N.size,ptr E.size]),(106,[ptr N.size]),(112,[ptr N.size]),(106,[ptr N.size])] (hX p bs rc) _ w0 _ j aQ.rd (bp.of aQ.le) (aS.of bz) o (G5 (qa.mk aL (ai.mono J) bj x d aK ag) (oz.mk L bo) (qd.mk B (aU.mono J) bm) b1 a6 bZ J)) (fun cb cc cR=>?_);have bA:=d.lt;obtain⟨cd,cf,rfl,j,aJ,W⟩:=cR;have az:=au.ej ag bA aJ;have aR:=bk.O aP aJ q.size;have x:=x.aJ W aK;have d:=d.aJ W ag;have q:=q.bt W (ar.cO aP (by intro k Q;simp[Q]));have cg:=W.size;have af:=j.aC;have A:=xO (r:=rc) b0;refine G.aj ?_;refine bt (I.t2 (fun bD bE=>I.O (fun bG=>?_)));refine G.af ?_;refine G.v1 dX (G.nil (bG ?_));refine a8 (fun be=>?_) (fun be=>?_)
  ·
   refine I.O (fun bH=>?_);refine G.v1 (bf x.W jl) ?_;refine G.bs ?_;refine G.aV h4 ee ?_;refine G.s1 (du d 3 ([ptr b,aN p,.int .i64 (bs:Int),.bool true]) ee bl o) ?_;rintro b6 ⟨d,bT⟩;obtain⟨j,q,_⟩:=dW bT j (iv az) q (an.r V);refine G.nil (bH (I.O (fun bJ=>?_)));refine G.aZ 2 ?_;refine bJ ?_;refine I.ret (bE (aB ?_));have C:(dS (hX p bs rc) M).1≠0:=by omega
   rw[aA C,aA C]at A;exact⟨_,_,by rw[A],by rw[A];exact j,aR,by rw[A];exact d,az,q⟩
  ·
   refine I.skip (bD (I.O (fun bK=>?_)));refine G.v1 (bf x.W jl) ?_;refine G.bs ?_;refine G.a6 d.W h4 b8 cX ?_;refine G.v1 (Y.cast (v2:= .int .i64 ((bs+1:Nat):Int)) bN (eI J)) ?_;refine G.bs ?_;refine G.aV h4 b8 ?_;refine G.s1 (du d 2 ([ptr b,aN p,.int .i64 ((bs+1:Nat):Int),.bool false]) b8 bl o) ?_;rintro b7 ⟨d,bU⟩;obtain⟨j,q,_⟩:=dW bU j (iv az) q (an.r V);refine G.nil (bK (I.seq (fun aH bL _=>I.region ?_)));refine G.aj ?_;refine bL _ _ ?_;refine I.ret (aB ?_);have C:(dS (hX p bs rc) M).1=0:=by omega
   rw[aM C,aM C]at A;exact⟨_,_,by rw[A,C];rfl,by rw[A];exact j,aR,by rw[A];exact d,az,q⟩
end oA
namespace xC
open ho jz kE mz m4 lY pg ph lZ pj oA
structure xg (k:Nat) (H:Heap) (v:Value) (b:Nat) (p:aD) (n:Nat) (br:Bool):Prop where
 ex:(k=0∧v= .pointer none)∨∃bn,k=bn+1∧v=ptr bn∧Var 206 H bn [ptr b,aN p,.int .i64 (n:Int),.bool br]
section
variable {k b n : Nat} {H V : Heap} {v : Value} {p : aD} {br : Bool} {ks : List Nat}
theorem xg.var{bn:Nat}(h:xg (bn+1) H v b p n br):v=ptr bn∧Var 206 H bn [ptr b,aN p,.int .i64 (n:Int),.bool br]:=by
 rcases h.ex with⟨e,_⟩|⟨j,e,d,h⟩
 ·omega
 ·obtain rfl:bn=j:=by omega
  exact⟨d,h⟩
end
section
variable {D : aw} {p : aD}
theorem EN(h:cH p=false∨cH (bG p)=false):dO D p=(7,[],D):=by unfold dO;rw[aM h]
theorem tN(bs:cH p=true)(d:cH (bG p)=true):¬(cH p=false∨cH (bG p)=false):=by rw[bs,d];simp
theorem EO(bs:cH p=true)(d:cH (bG p)=true)(h:D.gI p=2):dO D p=((fW D p []).1,[],(fW D p []).2):=by unfold dO;rw[aA (tN bs d),aM h]
theorem MD(bs:cH p=true)(d:cH (bG p)=true)(h:D.gI p≠2)(ab:D.gI p≠0):dO D p=(D.gI p,[],D):=by unfold dO;rw[aA (tN bs d),aA h,aM ab]
theorem EP(bs:cH p=true)(d:cH (bG p)=true)(h:D.gI p=0)(ab:hK (D.cM p)≠0):dO D p=(hK (D.cM p),[],D):=by unfold dO;rw[aA (tN bs d),aA J,aA J,aM ab]
theorem pQ(bs:cH p=true)(j:cH (bG p)=true)(h:D.gI p=0)(ab:hK (D.cM p)=0)(d:pT (D.cM p)<(D.cM p).length):dO D p=((fW D p (e6 (D.cM p))).1,if(fW D p (e6 (D.cM p))).1=0 then e6 (D.cM p)else[],(fW D p (e6 (D.cM p))).2):=by
 unfold dO;rw[aA (tN bs j),aA J,aA J,aA J,aM d]
theorem qW(bs:cH p=true)(j:cH (bG p)=true)(h:D.gI p=0)(ab:hK (D.cM p)=0)(d:¬pT (D.cM p)<(D.cM p).length):dO D p=(0,e6 (D.cM p),D):=by
 unfold dO;rw[aA (tN bs j),aA J,aA J,aA J,aA d]
end
theorem Pz(bC:Int)(K:List Nat)(g:cQ)(b:Nat)(D:aw)(p:aD)(cp:Nat)(w0:World)(N:Heap)
 (n:bq K g N b D)(aL:fj bC N)(X:bp (fun b=>b=0) N.size)(ek:aS (fun b=>b=0) K)(bj:p.length≤4294960000)(aB:bw cp D)(cO:cp≤80000000):
 aE Tryz.prog w0 35 #[ptr b,aN p] N (fun r U=>∃c9:Value,∃af:Nat,∃t:aO,∃l:List (aO×Rec),∃bF:List Nat,∃g2:cQ,∃aQ:Nat→Prop,r= .tuple #[c9,t.v,.int .i64 ((dO D p).1:Int)]∧bq bF g2 U b (dO D p).2.2∧bk K N.size bF∧xg af U c9 b p l.length false∧ae 0 N.size af∧au af bF∧(((dO D p).1=0→∃bn,af=bn+1∧c9=ptr bn)∧((dO D p).1≠0→af=0∧c9= .pointer none))∧dp l=(dO D p).2.1∧Rd aQ U kI 1 t.v l∧(∀x∈l,Rd aQ U bd 1 x.1.v x.2)∧bp aQ U.size∧(∀c,aQ c→N.size≤c)∧aS aQ bF∧ax aQ af∧aa (ay K) N U):=by
 refine aE.aP [ptr b,aN p] Tryz.func35 ?_;intro cq R;have q:aa (ay K) N N:=aa.refl _ _;have P:=bk.refl K N.size;have V:=n.aC;have cU:=sr aB p;have cP:=(pv (D.cM p)).2;have cT:=zF (D.cM p);refine I.O (fun b_=>?_);refine G.aZ 3 ?_;refine b_ (I.seq (fun bF ca ba=>I.O (fun bb=>?_)));refine G.af ?_;refine aW qo (qQ bC p w0 _ aL (X.mono J) J) ?_;rintro cr ct ⟨rfl,bx⟩;obtain⟨n,aL,q,_⟩:=cf bx n aL q;refine G.v1 fB ?_;refine G.af ?_;refine G.split (d:=15) o (fun aJ=>?_) (fun aJ=>?_)
 ·
  have j:=EN (D:=D) (p:=p) (.inl (by simpa using aJ));refine G.av 5 ?_;refine G.nil (bb ?_);refine I.kc o ?_;refine I.O (fun cb=>?_);refine G.aZ 3 ?_;refine cb ?_;refine I.ret (ba .ret nofun _ _ (R ?_));exact⟨.pointer none,0,⟨none,0,0⟩,[],_,_,(fun _=>False),by rw[j];rfl,by rw[j];exact n,P,⟨.inl ⟨o,o⟩⟩,(.inl o),au.lT,⟨fun h=>absurd h (by rw[j];exact(Nat.succ_ne_zero 6)),fun _=>⟨o,o⟩⟩,by rw[j];rfl,Rd.nil _ _ _ _,(fun x h=>by cases h),(fun b h=>h.elim),(fun c h=>h.elim),(fun k E b h=>h.elim),(fun b h=>h.elim),q⟩
 ·
  refine G.b4 ?_;refine G.aG (Y.cast (v2:=aN (bG p)) (Y.wI o o o (by simp only[fx,je];omega)) o) ?_;refine G.call o qo o bR o o (qQ bC (bG p) w0 _ aL (X.mono J) (by rw[tG];omega)) ?_;rintro cv O ⟨rfl,bz⟩;obtain⟨n,aL,q,_⟩:=cf bz n aL q;refine G.aG fB ?_;refine G.eh ?_;refine G.nil (bb ?_);refine dm (fun aK=>?_) (fun aK=>?_)
  ·
   have j:=EN (D:=D) (p:=p) (.inr (by simpa using aK));refine I.O (fun br=>?_);refine G.aZ 3 ?_;refine br ?_;refine I.ret (ba .ret nofun _ _ (R ?_));exact⟨.pointer none,0,⟨none,0,0⟩,[],_,_,(fun _=>False),by rw[j];rfl,by rw[j];exact n,P,⟨.inl ⟨o,o⟩⟩,(.inl o),au.lT,⟨fun h=>absurd h (by rw[j];exact(Nat.succ_ne_zero 6)),fun _=>⟨o,o⟩⟩,by rw[j];rfl,Rd.nil _ _ _ _,(fun x h=>by cases h),(fun b h=>h.elim),(fun c h=>h.elim),(fun k E b h=>h.elim),(fun b h=>h.elim),q⟩
  ·
   have F:cH p=true:=by simpa using aJ
   have H:cH (bG p)=true:=by simpa using aK
   refine I.skip (ca _ _ (I.O (fun bK=>?_)));refine G.av 2 ?_;refine G.v1 (Y.build (v:= .agg #[ptr b,aN p,.int .i64 0,.bool false]) o o fy) ?_;refine G.aU Z.bv ?_;rintro cw cc ⟨rfl,C,bA,_⟩;have W:=au.hU n.aC;have bc:=ax.new (X.mono q.size);have am:=ae.new q.size;obtain⟨n,aL,q,_⟩:=cf bA n aL q;have C:Var 206 cc O.size ([ptr b,aN p,.int .i64 ((0:Nat):Int),.bool false]):=C;refine G.aj ?_;refine bK (I.O (fun cd=>?_));refine G.av 2 ?_;refine aW Cb (E7 bC K g b D p w0 _ aL (X.mono J) n J (fun i=>by have:=(aB.f i).1;omega)) ?_;rintro cx aC ⟨cg,cy,rfl,ai,cN,bB⟩;obtain⟨n,aL,C,q,_⟩:=ed bB n aL C q;have a7:=ai.le;refine G.af ?_;refine G.v1 c3 ?_;refine G.v1 c3 ?_;refine G.aZ 2 ?_;refine cd (I.t2 (fun ch bf=>I.O (fun bX=>?_)));refine G.af ?_;refine G.v1 cC (G.nil (bX ?_));refine a8 (fun bY=>?_) (fun bY=>?_)
   ·
    have j:=EO (D:=D) F H J;refine I.t2 (fun bD bE=>I.O (fun bH=>?_));refine G.af ?_;refine aW x7 (x9 bC K g b D O.size p 0 false ⟨none,0,0⟩ [] (fun _=>False) cp w0 _ n aL (X.mono J) ek C W bc (Rd.nil _ _ _ _) (fun b h=>h.elim) (fun k E b h=>h.elim) (fun x h=>by cases h) (fun b h=>h.elim) (fun k E b h=>h.elim) (fun x h=>by cases h) (by simp[dp,gf]) (fun b h _=>h.elim) (fun b h _=>h.elim) bj aB (by simp[dp,c1,hQ,gf];omega) bl) ?_;rintro cz cA ⟨b0,cB,rfl,n,bW,C,ck,aZ⟩;have a6:=bk.O P bW q.size;have q:=q.bt aZ (ar.app (ar.cO P (by intro k E;simp[E])) (ar.T (an.q am)));have cD:=aZ.size;have V:=n.aC;refine G.aj ?_;refine bH (I.O (fun bJ=>?_));refine G.af ?_;refine G.v1 dX (G.nil (bJ ?_));refine a8 (fun aP=>?_) (fun aP=>?_)
    ·
     refine I.O (fun bL=>?_);refine G.aZ 4 ?_;refine bL ?_;refine I.ret (bE (bf (R ?_)));exact⟨.pointer none,0,⟨none,0,0⟩,[],_,_,(fun _=>False),by rw[j];rfl,by rw[j];exact n,a6,⟨.inl ⟨o,o⟩⟩,(.inl o),au.lT,⟨fun h=>absurd h (by rw[j];exact(by have A:=aP;simp only[dp,lG]at A;show(fW D p []).1≠0;omega)),fun _=>⟨o,o⟩⟩,by rw[j];rfl,Rd.nil _ _ _ _,(fun x h=>by cases h),(fun b h=>h.elim),(fun c h=>h.elim),(fun k E b h=>h.elim),(fun b h=>h.elim),q⟩
    ·
     refine I.skip (bD (I.O (fun bM=>?_)));refine G.aZ 4 ?_;refine bM ?_;refine I.ret (bf (R ?_));have B:(fW D p []).1=0:=by have A:=aP;simp only[dp,lG]at A;omega
     rw[B]at j;exact⟨ptr O.size,(O.size+1),⟨none,0,0⟩,[],_,_,(fun _=>False),by rw[j];rfl,by rw[j];exact n,a6,⟨.inr ⟨_,o,o,by simp only[dp,lG]at C;rw[tw B,tv B]at C;exact C⟩⟩,am,ck,⟨fun _=>⟨_,o,o⟩,fun h=>absurd (by rw[j]) h⟩,by rw[j];rfl,Rd.nil _ _ _ _,(fun x h=>by cases h),(fun b h=>h.elim),(fun c h=>h.elim),(fun k E b h=>h.elim),(fun b h=>h.elim),q⟩
   ·
    refine I.skip (ch (I.t2 (fun bN bO=>I.O (fun bP=>?_))));refine G.af ?_;refine G.v1 dX (G.nil (bP ?_));refine a8 (fun b1=>?_) (fun b1=>?_)
    ·
     refine I.O (fun bQ=>?_);refine G.aZ 4 ?_;refine bQ ?_;refine I.ret (bO (R ?_));have B:D.gI p≠0:=by omega
     have j:=MD (D:=D) F H J B;exact⟨.pointer none,0,⟨none,0,0⟩,[],_,_,(fun _=>False),by rw[j];rfl,by rw[j];exact n,P,⟨.inl ⟨o,o⟩⟩,(.inl o),au.lT,⟨fun h=>absurd h (by rw[j];exact B),fun _=>⟨o,o⟩⟩,by rw[j];rfl,Rd.nil _ _ _ _,(fun x h=>by cases h),(fun b h=>h.elim),(fun c h=>h.elim),(fun k E b h=>h.elim),(fun b h=>h.elim),q⟩
    ·
     refine I.skip (bN (I.O (fun bS=>?_)));refine G.af ?_;refine aW Cc (EX cg (D.cM p) w0 _ ai.rd.any (by have:=sr aB p;omega)) ?_;rintro cF aF ⟨aG,az,rfl,L,ac,M,bT⟩;obtain⟨n,aL,C,ai,q,_⟩:=dH bT n aL C ai q;have ac:=ac.ch;have ad:=ac.cD;have ak:aS (fun b=>aC.size≤b∧b<aF.size) K:=aS.jV (fun b h=>h.1) (by first|exact V|exact fun k E=>fg (V k E) J|assumption);have S:ax (fun b=>aC.size≤b∧b<aF.size) (O.size+1):=ax.jV (fun b h=>h.1) (by first|exact cl|exact cn|omega);have M:=fun x aT=>(M x aT).ch;have a_:aS (fun b=>aC.size≤b∧b<aF.size) K:=aS.jV (fun b h=>h.1) (by first|exact V|exact fun k E=>fg (V k E) J|assumption);have av:ax (fun b=>aC.size≤b∧b<aF.size) (O.size+1):=ax.jV (fun b h=>h.1) (by first|exact cl|exact cn|omega);refine G.af ?_;refine G.v1 c3 ?_;refine G.v1 c3 ?_;refine G.v1 c3 ?_;have cm:=aI List.length L;simp only[dp,dg]at cm;refine G.aZ 3 ?_;refine bS (I.t1 (fun aR=>I.O (fun aU=>?_)));refine G.af ?_;refine G.v1 cC ?_;refine G.af ?_;refine G.bL (d:=50) o (fun b2=>?_) (fun b2=>?_)
     ·
      refine G.av 2 ?_;refine G.aG (bu ai.rd dV) ?_;refine G.aG bZ ?_;refine G.W ?_;refine G.nil (aU ?_);refine a8 (fun b3=>?_) (fun b3=>?_)
      ·
       refine I.region ?_;refine G.av 2 ?_;refine aW x7 (x9 bC K g b D O.size p 0 false aG az _ cp w0 _ n aL (X.mono J) ek C W bc ac (ad.mono J) ak M (ad.mono J) a_ (fun x h=>ET _ _ (by rw[←L];exact y0 h)) (by rw[L];have ab:=(pv (D.cM p)).1;omega) S av bj aB (by rw[L];omega) J) ?_;rintro cG cI ⟨cJ,cK,rfl,n,ap,C,bg,aH⟩;have bU:=aS.ej ak (ad.mono J) ap;have aV:=bk.O P ap q.size;have ac:=ac.aJ aH (aS.app ak (aS.T S));have M:=fun x aT=>(M x aT).aJ aH (aS.app a_ (aS.T av));have q:=q.bt aH (ar.app (ar.cO P (by intro k E;simp[E])) (ar.T (an.q am)));have cL:=aH.size;have V:=n.aC;refine G.aj ?_;refine aR (I.t2 (fun a0 a2=>I.O (fun a3=>?_)));refine G.af ?_;refine G.v1 dX (G.nil (a3 ?_));refine a8 (fun ag=>?_) (fun ag=>?_)
       ·
        refine I.O (fun a4=>?_);refine G.aZ 4 ?_;refine a4 ?_;refine I.ret (a2 (R ?_));have B:(fW D p (e6 (D.cM p))).1≠0:=by rw[←L];omega
        have j:=pQ (D:=D) F H J J J;rw[aA B]at j;rw[L]at n;exact⟨.pointer none,0,⟨none,0,0⟩,[],_,_,(fun _=>False),by rw[j,L],by rw[j];exact n,aV,⟨.inl ⟨o,o⟩⟩,(.inl o),au.lT,⟨fun h=>absurd h (by rw[j];exact B),fun _=>⟨o,o⟩⟩,by rw[j];rfl,Rd.nil _ _ _ _,(fun x h=>by cases h),(fun b h=>h.elim),(fun c h=>h.elim),(fun k E b h=>h.elim),(fun b h=>h.elim),q⟩
       ·
        try (have B:(fW D p (dp az)).1=0:=J;rw[tw B,tv B]at C)
        refine I.skip (a0 (I.O (fun a5=>?_)));refine G.av 2 ?_;refine G.v1 (bu ac jO) ?_;refine G.bs ?_;refine G.aV h4 b8 ?_;refine G.s1 (du C 2 ([ptr b,aN p,.int .i64 ((az.length:Nat):Int),.bool false]) b8 bl o) ?_;rintro aX ⟨C,Q⟩;have Q:=Q.e3;obtain⟨n,ac,M,q,_⟩:=dT Q n (iv bg) ac S M av q (an.q am);refine G.nil (a5 (I.O (fun bm=>?_)));refine G.aZ 5 ?_;refine bm ?_;refine I.ret (R ?_)
        have j:(dO D p).1=0∧(dO D p).2.1=e6 (D.cM p):=by
         first
         |(have A:=pQ (D:=D) F H J J J;have B:(fW D p (e6 (D.cM p))).1=0:=(by rw[←L];omega);rw[B,aM rfl]at A;rw[A];exact⟨o,o⟩)
         |(have A:=qW (D:=D) F H J J J;rw[A];exact⟨o,o⟩)
        exact⟨ptr O.size,(O.size+1),aG,az,_,_,_,by rw[j.1];rfl,(by first|(have A:=pQ (D:=D) F H J J J;rw[A];rw[L]at n;exact n)|(have A:=qW (D:=D) F H J J J;rw[A];exact n)),aV,⟨.inr ⟨_,o,o,C⟩⟩,am,bg,⟨fun _=>⟨_,o,o⟩,fun h=>absurd j.1 h⟩,by rw[j.2];exact L,ac,(fun x h=>M x h),(ad.mono J),(fun c h=>by have A:=h.1;omega),bU,S,q⟩
      ·
       refine I.skip (aR (I.t2 (fun bo bt=>I.O (fun a9=>?_))));refine G.af ?_;refine G.v1 dX (G.nil (a9 ?_));refine a8 (fun ag=>?_) (fun ag=>?_)
       ·
        refine I.O (fun bV=>?_);refine G.aZ 4 ?_;refine bV ?_;refine I.ret (bt (R ?_));have B:hK (D.cM p)≠0:=by omega
        have j:=EP (D:=D) F H J B;exact⟨.pointer none,0,⟨none,0,0⟩,[],_,_,(fun _=>False),by rw[j];rfl,by rw[j];exact n,P,⟨.inl ⟨o,o⟩⟩,(.inl o),au.lT,⟨fun h=>absurd h (by rw[j];exact B),fun _=>⟨o,o⟩⟩,by rw[j];rfl,Rd.nil _ _ _ _,(fun x h=>by cases h),(fun b h=>h.elim),(fun c h=>h.elim),(fun k E b h=>h.elim),(fun b h=>h.elim),q⟩
       ·
        try (have B:(fW D p (dp az)).1=0:=J;rw[tw B,tv B]at C)
        refine I.skip (bo (I.O (fun b4=>?_)));refine G.av 2 ?_;refine G.v1 (bu ac jO) ?_;refine G.bs ?_;refine G.aV h4 b8 ?_;refine G.s1 (du C 2 ([ptr b,aN p,.int .i64 ((az.length:Nat):Int),.bool false]) b8 bl o) ?_;rintro aX ⟨C,Q⟩;have Q:=Q.e3;obtain⟨n,ac,M,q,_⟩:=dT Q n (iv W) ac S M av q (an.q am);refine G.nil (b4 (I.O (fun b5=>?_)));refine G.aZ 5 ?_;refine b5 ?_;refine I.ret (R ?_)
        have j:(dO D p).1=0∧(dO D p).2.1=e6 (D.cM p):=by
         first
         |(have A:=pQ (D:=D) F H J J J;have B:(fW D p (e6 (D.cM p))).1=0:=(by rw[←L];omega);rw[B,aM rfl]at A;rw[A];exact⟨o,o⟩)
         |(have A:=qW (D:=D) F H J J J;rw[A];exact⟨o,o⟩)
        exact⟨ptr O.size,(O.size+1),aG,az,_,_,_,by rw[j.1];rfl,(by first|(have A:=pQ (D:=D) F H J J J;rw[A];rw[L]at n;exact n)|(have A:=qW (D:=D) F H J J J;rw[A];exact n)),P,⟨.inr ⟨_,o,o,C⟩⟩,am,W,⟨fun _=>⟨_,o,o⟩,fun h=>absurd j.1 h⟩,by rw[j.2];exact L,ac,(fun x h=>M x h),(ad.mono J),(fun c h=>by have A:=h.1;omega),ak,S,q⟩
     ·
      refine G.av 5 ?_;refine G.nil (aU ?_);refine dZ ?_;refine I.skip (aR (I.t2 (fun b6 cR=>I.O (fun be=>?_))));refine G.af ?_;refine G.v1 dX (G.nil (be ?_));refine a8 (fun ag=>?_) (fun ag=>?_)
      ·
       refine I.O (fun b7=>?_);refine G.aZ 4 ?_;refine b7 ?_;refine I.ret (cR (R ?_));have B:hK (D.cM p)≠0:=by omega
       have j:=EP (D:=D) F H J B;exact⟨.pointer none,0,⟨none,0,0⟩,[],_,_,(fun _=>False),by rw[j];rfl,by rw[j];exact n,P,⟨.inl ⟨o,o⟩⟩,(.inl o),au.lT,⟨fun h=>absurd h (by rw[j];exact B),fun _=>⟨o,o⟩⟩,by rw[j];rfl,Rd.nil _ _ _ _,(fun x h=>by cases h),(fun b h=>h.elim),(fun c h=>h.elim),(fun k E b h=>h.elim),(fun b h=>h.elim),q⟩
      ·
       try (have B:(fW D p (dp az)).1=0:=J;rw[tw B,tv B]at C)
       refine I.skip (b6 (I.seq (fun b0 b9 _=>I.region ?_)));refine G.av 2 ?_;refine G.v1 (bu ac jO) ?_;refine G.bs ?_;refine G.aV h4 b8 ?_;refine G.s1 (du C 2 ([ptr b,aN p,.int .i64 ((az.length:Nat):Int),.bool false]) b8 bl o) ?_;rintro aX ⟨C,Q⟩;have Q:=Q.e3;obtain⟨n,ac,M,q,_⟩:=dT Q n (iv W) ac S M av q (an.q am);refine G.nil (b9 _ _ (I.O (fun bi=>?_)));refine G.aZ 5 ?_;refine bi ?_;refine I.ret (R ?_)
       have j:(dO D p).1=0∧(dO D p).2.1=e6 (D.cM p):=by
        first
        |(have A:=pQ (D:=D) F H J J J;have B:(fW D p (e6 (D.cM p))).1=0:=(by rw[←L];omega);rw[B,aM rfl]at A;rw[A];exact⟨o,o⟩)
        |(have A:=qW (D:=D) F H J J J;rw[A];exact⟨o,o⟩)
       exact⟨ptr O.size,(O.size+1),aG,az,_,_,_,by rw[j.1];rfl,(by first|(have A:=pQ (D:=D) F H J J J;rw[A];rw[L]at n;exact n)|(have A:=qW (D:=D) F H J J J;rw[A];exact n)),P,⟨.inr ⟨_,o,o,C⟩⟩,am,W,⟨fun _=>⟨_,o,o⟩,fun h=>absurd j.1 h⟩,by rw[j.2];exact L,ac,(fun x h=>M x h),(ad.mono J),(fun c h=>by have A:=h.1;omega),ak,S,q⟩
theorem PA(bC:Int)(K:List Nat)(g:cQ)(b:Nat)(D:aw)(p:aD)(cp:Nat)(w0:World)(N:Heap)(R:bq K g N b D)(aL:fj bC N)(j:bp (fun b=>b=0) N.size)(ek:aS (fun b=>b=0) K)(S:p.length≤4294960000)(P:bw cp D)(Q:cp≤80000000)(he:(dO D p).1=0):
 aE Tryz.prog w0 35 #[ptr b,aN p] N (fun r d=>∃(bn:Nat) (t:aO) (l:List (aO×Rec)) (bF:List Nat) (g2:cQ) (aQ:Nat→Prop),r= .tuple #[ptr bn,t.v,.int .i64 0]∧bq bF g2 d b (dO D p).2.2∧bk K N.size bF∧Var 206 d bn [ptr b,aN p,.int .i64 (l.length:Int),.bool false]∧ae 0 N.size (bn+1)∧au (bn+1) bF∧dp l=(dO D p).2.1∧Rd aQ d kI 1 t.v l∧(∀x∈l,Rd aQ d bd 1 x.1.v x.2)∧bp aQ d.size∧(∀c,aQ c→N.size≤c)∧aS aQ bF∧ax aQ (bn+1)∧aa (ay K) N d):=by
 refine(Pz bC K g b D p cp w0 N R aL j ek S P Q).mono ?_;rintro r d ⟨c9,U,t,l,bF,g2,aQ,rfl,n,ab,F,G,H,I,L,M,O,A,B,C,E,q⟩;obtain⟨bn,rfl,rfl⟩:=I.1 he;exact⟨bn,t,l,bF,g2,aQ,by rw[he];rfl,n,ab,F.var.2,G,H,L,M,O,A,B,C,E,q⟩
end xC
namespace AY
open m3 ox
theorem K4{c m:Nat}{fs:List fi}{aR st:cI}{eg:List c_}{op:Nat}{p:aD}{w:dF}(aB:cH p=true)(d:(w.on (aw.eE ⟨c,m,fs,aR,st,eg,op+1,0,false⟩ p) w.d.length).length≤m)(ab:kW fs aR+(w.on (aw.eE ⟨c,m,fs,aR,st,eg,op+1,0,false⟩ p) w.d.length).length≤c+(aw.eE ⟨c,m,fs,aR,st,eg,op+1,0,false⟩ p).length):
 aw.lay ⟨c,m,fs,aR,st,eg,op,0,false⟩ p w=(0,aw.write ⟨c,m,fs,aR,st,eg,op+1,0,false⟩ p w):=by
 have ao:aw.begin ⟨c,m,fs,aR,st,eg,op,0,false⟩=(true,⟨c,m,fs,aR,st,eg,op+1,0,false⟩):=by simp[aw.begin]
 have he:=tt (D:=⟨c,m,fs,aR,st,eg,op+1,0,false⟩) aB (Nat.not_lt.2 d) (Nat.not_lt.2 ab);rw[vW (by rw[ao]),ao];simp only[he,if_true]
theorem wq(b:List UInt8)(d:List UInt8):(⟨false,d⟩:dF).on b d.length=d:=by simp[dF.on]
theorem Mx(b:List UInt8)(d:List UInt8):(⟨true,d⟩:dF).on b d.length=b++d:=by simp[dF.on]
end AY
namespace AZ
open ox
theorem Nk{D:aw}{p:aD}{i:Nat}{x:List UInt8}(ah:D.dead=false)(aB:cH p=true)(j:aH D.now p=some i)(n:(a1 D.fs i).now=x):D.gI p=0∧D.cM p=x:=by
 have d:D.gI p=0:=by unfold aw.gI;rw[ah];simp[aw.look,aB,j]
 exact⟨d,by unfold aw.cM;rw[aM d,Au j,n]⟩
end AZ
namespace A0
theorem l4{fs:List fi}{i j:Nat}{x:fi}:a1 (fs.set i x) j=if j=i∧i<fs.length then x else a1 fs j:=by
 unfold a1;by_cases d:i<fs.length
 ·by_cases e:j=i
  ·rw[aM ⟨e,d⟩,e,List.getD_eq_getElem?_getD,List.getElem?_set_self d];rfl
  ·rw[aA (fun h=>e h.1),List.getD_eq_getElem?_getD,List.getElem?_set_ne (kj e),←List.getD_eq_getElem?_getD]
 ·rw[aA (fun h=>d h.2),tj J]
theorem J8{fs:List fi}{j:Nat}(h:j<fs.length)(x:fi):a1 (fs++[x]) j=a1 fs j:=by
 unfold a1;rw[List.getD_eq_getElem?_getD,List.getElem?_append_left h,←List.getD_eq_getElem?_getD]
end A0
namespace A2
open m3 lZ
theorem O3{a b:List UInt8}{f:UInt8→Bool}(h:∀x∈a,f x=true):(a++b).takeWhile f=a++b.takeWhile f:=by
 induction a with
 |nil=>rfl
 |cons x a ih=>rw[kO,List.takeWhile_cons,aM (h x gw),ih (fun y hy=>h y (hj _ hy)),kO]
theorem Ky(p:aD):qy (bG p)=qy p:=by
 unfold qy bG
 have h:((p++[46,110,101,119]).reverse.takeWhile (fun c=>decide (c≠47))).length=4+(p.reverse.takeWhile (fun c=>decide (c≠47))).length:=by
  rw[List.reverse_append,O3 bc,bT];rfl
 rw[h,bT,fx,fx,fx,fx,je];rw[r1 J];congr 1;omega
theorem s3{p:aD}(h:cH p=true)(ab:cH (bG p)=true):bV (bG p)=bV p:=by unfold bV;rw[aM h,aM ab,Ky]
theorem Hu(p:aD):blt p (bG p):=by
 unfold blt bG
 induction p with
 |nil=>decide
 |cons x p ih=>simp only[kO,Op.bytesLess];simpa using ih
theorem new_ne(p:aD):bG p≠p:=fun e=>by have:=aI List.length e;rw[tG]at this;omega
theorem zu(p:aD):¬bG p=[]:=by simp[bG]
structure One (cap most:Nat) (p:aD) (x:List UInt8) (D:aw):Prop where
 dead:D.dead=false
 left:D.left=0
 cap:D.cap=cap
 most:D.most=most
 aR:∃i,D.now=[(p,i)]∧i<D.fs.length∧(a1 D.fs i).now=x
section
variable {cap most : Nat} {p : aD} {x : List UInt8} {D : aw}
structure PW (cap most:Nat) (p:aD) (x:List UInt8) (D:aw):Prop where
 dead:D.dead=false
 left:D.left=0
 cap:D.cap=cap
 most:D.most=most
 aR:∃k,aH D.now (bG p)=some k∧k<D.fs.length∧(a1 D.fs k).now=x∧(c_.ap ⟨bG p,p,some k⟩ D.now)=[(p,k)]
theorem GC{q:aD}{k:Nat}{w:dF}(hm:aH D.now q=none):D.write q w=({D with fs:=(D.fs++[(⟨[],[],[]⟩:fi)]).set D.fs.length ⟨w.on [] w.d.length,[],[w]⟩,now:=hJ D.now q D.fs.length,log:=D.log++[⟨[],q,some D.fs.length⟩]}:aw):=by
 unfold aw.write aw.make;rw[hm];simp only[aw.change,aw.gm,c_.ap,if_true];rw[show a1 (D.fs++[(⟨[],[],[]⟩:fi)]) D.fs.length=⟨[],[],[]⟩by simp[a1]];rfl
theorem mX{f:kb}{fs:List kb}{D:aw}(h:(f D).1=0):dS (f::fs) D=dS fs (f D).2:=by rw[dS,aM h]
theorem pV{f:kb}{fs:List kb}{D:aw}(h:(f D).1≠0):dS (f::fs) D=f D:=by rw[dS,aA h]
end
end A2
namespace A3
open mz lY lZ pj oA
theorem Hy{cp M:Nat}{D:aw}(h:bw cp D)(p:aD)(n:Nat)(d:(D.cM p).length+8≤M):bw (cp+4*(M+20)) (hZ D p n).2:=by
 unfold hZ;split
 ·exact h.mono J
 ·split
  ·exact h.mono J
  ·exact(rq h p _).mono (by have:=yh (D.cM p) n;omega)
theorem Bz{cp M:Nat}{D:aw}(h:bw cp D)(p:aD)(n:Nat)(br:Bool)(r:Rec)(j:(D.cM p).length+8≤M):bw (cp+4*(M+20)+4*(r.length+20)) (fp D p n br r).2.2.2:=by
 have d:bw (cp+4*(M+20)) (ku D p n br).2.2:=by
  unfold ku;split
  ·exact Hy h p n j
  ·exact h.mono J
 unfold fp;split
 ·exact d.mono J
 ·exact(sR (xK p _ r) d).mono (by simp[hX];omega)
end A3
namespace uz
open m3 ox sI mz AY AZ A0 lY lZ pj oA xC A2
theorem zU(D:aw):dS [] D=(0,D):=rfl
theorem rm{D:aw}(h:D.dead=false):(D.begin.1=false∧D.begin.2=({D with left:=0,dead:=true}:aw)∧D.left=1)∨(D.begin.1=true∧D.begin.2=({D with left:=D.left-1,ops:=D.ops+1}:aw)∧D.left≠1):=by
 by_cases d:D.left=1
 ·refine .inl ?_
  unfold aw.begin;rw[aA (by rw[h];decide),aM d];exact⟨o,o,d⟩
 ·refine .inr ?_
  unfold aw.begin;rw[aA (by rw[h];decide),aA d];exact⟨o,o,d⟩
theorem Pm(d b:List UInt8)(q:Nat):∃a z,a+z≤d.length∧ik [⟨true,d⟩] b q=b++d.take a++List.replicate z 0:=by
 unfold ik;split
 ·exact⟨0,0,by omega,by simp⟩
 ·rename_i n
  split
  ·rename_i j
   unfold dF.ways at j;unfold dF.part;split
   ·exact⟨min (q-1+1) d.length,0,by omega,by simp[dF.on]⟩
   ·rename_i ab
    simp only at j ab;refine⟨q-1-d.length,d.length-(q-1-d.length),by omega,by simp[dF.on]⟩
  ·exact⟨d.length,0,by omega,by simp[ik,dF.on]⟩
theorem Pn{d b:List UInt8}{n:Nat}(q:Nat)(ah:d.length≤n)(ao:b.length≤n):(ik [⟨false,d⟩] b q).length≤n:=by
 refine Av _ _ _ (fun j=>?_)
 cases j with
 |zero=>simpa[jg]using ao
 |succ j=>simpa[jg,dF.on]using ah
theorem Cw{D:aw}{d:aD}(h:∀c∈D.log,c.dir=d)(picks:List Int):∃j,j≤D.log.length∧(D.hF picks).1=jc (D.log.take j) D.stays:=by
 have aq:D.de d=D.log:=by unfold aw.de;rw[tm];intro c aq;simpa using h c aq
 rw[←D.Cv picks (L:=[d]) (vJ _ _) (fun n aB=>by
  unfold aw.de at aB;obtain⟨c,r⟩:=List.exists_mem_of_ne_nil _ aB;have ab:=jZ.1 r;have:c.dir=n:=by simpa using ab.2
  rw[eU,←this,h c ab.1])]
 simp only[gX,k_];unfold eG;split
 ·rename_i q
  rw[aq]at q;exact⟨0,iT _,by rw[ni,G7]⟩
 ·rw[aq]
  exact⟨min (ht picks 0 (D.log.length+1)) D.log.length,Nat.min_le_right _ _,by simp only;rw[←List.take_eq_take_min]⟩
theorem m8{picks:List Int}{s:List fi×Nat}{x:aD×Nat}(h:(a1 s.1 x.2).w=[]):hE picks s x=s:=by unfold hE;simp only;rw[aM h]
theorem Cs{picks:List Int}{s:List fi×Nat}{x:aD×Nat}(j:x.2<s.1.length):∃q,(hE picks s x).1.length=s.1.length∧(∀i,i≠x.2→a1 (hE picks s x).1 i=a1 s.1 i)∧((a1 s.1 x.2).w=[]→hE picks s x=s)∧((a1 s.1 x.2).w≠[]→a1 (hE picks s x).1 x.2=⟨ik (a1 s.1 x.2).w (a1 s.1 x.2).stays q,ik (a1 s.1 x.2).w (a1 s.1 x.2).stays q,[]⟩):=by
 refine⟨ht picks s.2 (jj (a1 s.1 x.2).w),?_,fun i d=>?_,m8,fun h=>?_⟩
 ·unfold hE;simp only;split
  ·rfl
  ·simp
 ·unfold hE;simp only;split
  ·rfl
  ·show a1 (s.1.set _ _) i=_;rw[l4,aA (fun h=>d h.1)]
 ·unfold hE;simp only;rw[aA h]
  show a1 (s.1.set _ _) _=_;rw[l4,aM ⟨o,j⟩]
structure ef (M:Nat) (p:aD) (c:List UInt8) (D:aw):Prop where
 cap:4*M≤D.cap
 most:4*M≤D.most
 log:D.log=[]
 st:D.stays=D.now
 dG:c.length≤M
 ex:∃i,i<D.fs.length∧a1 D.fs i=⟨c,c,[]⟩∧(D.now=[(p,i)]∨∃k x,k<D.fs.length∧k≠i∧a1 D.fs k=⟨x,x,[]⟩∧x.length≤M∧D.now=[(p,i),(bG p,k)])
section
variable {M : Nat} {p : aD} {c e : List UInt8} {D : aw} {l : List Rec} {r : Rec}
theorem ef.of{d:aw}(h:ef M p c D)(n:d.cap=D.cap)(ab:d.most=D.most)(q:d.log=D.log)(r:d.stays=D.stays)(j:d.now=D.now)(x:d.fs=D.fs):ef M p c d:=
 ⟨by rw[n];exact h.cap,by rw[ab];exact h.most,by rw[q];exact h.log,by rw[r,j];exact h.st,h.dG,by rw[x,j];exact h.ex⟩
theorem ef.stop(h:ef M p c D)(n:Nat):ef M p c (D.stop n):=h.of o o o o o o
theorem ef.get(h:ef M p c D):∃i,aH D.now p=some i∧i<D.fs.length∧a1 D.fs i=⟨c,c,[]⟩:=by
 obtain⟨i,j,ab,d⟩:=h.ex;rcases d with d|⟨k,x,_,_,_,_,d⟩
 ·exact⟨i,by rw[d];simp[aH],j,ab⟩
 ·exact⟨i,by rw[d];simp[aH],j,ab⟩
theorem ef.As(h:ef M p c D):D.eE p=c:=by
 obtain⟨i,d,_,ab⟩:=h.get;unfold aw.eE;rw[d];simp[ab]
theorem ef.used(h:ef M p c D):D.used≤c.length+M∧c.length≤D.used:=by
 obtain⟨i,n,ab,d⟩:=h.ex;unfold aw.used kW;rcases d with d|⟨k,x,_,_,j,q,d⟩
 ·rw[d];simp[ab]
 ·rw[d];simp[ab,j];omega
theorem ef.fk(h:ef M p c D)(picks:List Int):ef M p c (D.fk picks)∧(D.gr picks).2=0∧(D.fk picks).dead=false∧(D.fk picks).left=0:=by
 have n:D.hF picks=(D.now,0):=by unfold aw.hF aw.oI;rw[h.log,h.st];rfl
 obtain⟨i,q,ab,d⟩:=h.ex
 have j:D.gr picks=(D.fs,0):=by
  unfold aw.gr;rw[n];rcases d with d|⟨k,x,_,_,r,A,d⟩
  ·rw[d];simp only[gX,k_];rw[m8 (by simp only;rw[ab])]
  ·rw[d];simp only[gX,k_];rw[m8 (x:=(p,i)) (by simp only;rw[ab]),m8 (by simp only;rw[r])]
 refine⟨⟨h.cap,h.most,o,o,h.dG,i,?_,?_,?_⟩,by rw[j],o,o⟩
 ·show i<(D.gr picks).1.length;rw[j];exact q
 ·show a1 (D.gr picks).1 i=_;rw[j];exact ab
 ·show(D.hF picks).1=_∨∃k x,k<(D.gr picks).1.length∧k≠i∧a1 (D.gr picks).1 k=_∧_∧(D.hF picks).1=_
  rw[j,n];exact d
structure lV (M:Nat) (p:aD) (c e:List UInt8) (D:aw):Prop where
 cap:4*M≤D.cap
 most:4*M≤D.most
 dG:c.length≤M
 el:e.length≤M
 ex:∃i k y w,i<D.fs.length∧k<D.fs.length∧k≠i∧a1 D.fs i=⟨c,c,[]⟩∧a1 D.fs k=⟨e,y,w⟩∧(w=[⟨false,e⟩]∨w=[]∧y=e)∧y.length≤M∧D.now=[(p,i),(bG p,k)]∧(D.stays=[(p,i)]∧D.log=[⟨[],bG p,some k⟩]∨D.stays=[(p,i),(bG p,k)]∧D.log=[])
theorem lV.of{d:aw}(h:lV M p c e D)(j:d.cap=D.cap)(ab:d.most=D.most)(n:d.log=D.log)(q:d.stays=D.stays)(r:d.now=D.now)(x:d.fs=D.fs):lV M p c e d:=
 ⟨by rw[j];exact h.cap,by rw[ab];exact h.most,h.dG,h.el,by rw[x,r,q,n];exact h.ex⟩
structure ny (M:Nat) (p:aD) (c e:List UInt8) (D:aw):Prop where
 cap:4*M≤D.cap
 most:4*M≤D.most
 dG:c.length≤M
 el:e.length≤M
 ex:∃i k,i<D.fs.length∧k<D.fs.length∧k≠i∧a1 D.fs i=⟨c,c,[]⟩∧a1 D.fs k=⟨e,e,[]⟩∧D.now=[(p,k)]∧(D.stays=[(p,i)]∧D.log=[⟨[],bG p,some k⟩,⟨bG p,p,some k⟩]∨D.stays=[(p,i),(bG p,k)]∧D.log=[⟨bG p,p,some k⟩])
theorem ny.of{d:aw}(h:ny M p c e D)(j:d.cap=D.cap)(ab:d.most=D.most)(n:d.log=D.log)(q:d.stays=D.stays)(r:d.now=D.now)(x:d.fs=D.fs):ny M p c e d:=
 ⟨by rw[j];exact h.cap,by rw[ab];exact h.most,h.dG,h.el,by rw[x,r,q,n];exact h.ex⟩
theorem EB{i k:Nat}:hJ [(p,i)] (bG p) k=[(p,i),(bG p,k)]:=by simp[hJ,Hu]
theorem PY{i k j:Nat}:hJ [(p,i),(bG p,k)] p j=[(p,j),(bG p,k)]:=by simp[hJ,nG]
theorem LA{i k:Nat}:e4 [(p,i),(bG p,k)] (bG p)=[(p,i)]:=by
 have d:¬p=bG p:=fun e=>new_ne p e.symm;simp[e4,d]
theorem xL{i k:Nat}:c_.ap ⟨[],bG p,some k⟩ [(p,i)]=[(p,i),(bG p,k)]:=by simp only[c_.ap,if_true];exact EB
theorem xM{i k:Nat}:c_.ap ⟨bG p,p,some k⟩ [(p,i),(bG p,k)]=[(p,k)]:=by
 unfold c_.ap;rw[aA (zu p),LA];simp[hJ,nG]
theorem u_{k:Nat}(bs:cH p=true)(d:cH (bG p)=true):c_.dir ⟨[],bG p,some k⟩=bV p:=by unfold c_.dir;rw[aM rfl];exact s3 bs d
theorem s4{k:Nat}(bs:cH p=true)(d:cH (bG p)=true):c_.dir ⟨bG p,p,some k⟩=bV p:=by unfold c_.dir;rw[aA (zu p)];exact s3 bs d
theorem DR{j:Nat}(h:j≤1):j=0∨j=1:=by omega
theorem K5{j:Nat}(h:j≤2):j=0∨j=1∨j=2:=by omega
theorem lV.fk(h:lV M p c e D)(bs:cH p=true)(Q:cH (bG p)=true)(picks:List Int):ef M p c (D.fk picks):=by
 obtain⟨i,k,y,w,G,ab,H,A,B,d,L,R,r⟩:=h.ex
 have ah:∀eF∈D.log,eF.dir=bV p:=by
  intro eF aq;rcases r with⟨_,r⟩|⟨_,r⟩
  ·rw[r,eU]at aq;rw[aq];exact u_ bs Q
  ·rw[r]at aq;cases aq
 obtain⟨j,F,N⟩:=Cw ah picks
 have n:(D.hF picks).1=[(p,i)]∨(D.hF picks).1=[(p,i),(bG p,k)]:=by
  rw[N];rcases r with⟨aP,E⟩|⟨aP,E⟩
  ·rw[E]at F⊢
   rw[aP];rcases DR F with rfl|rfl
   ·exact .inl o
   ·refine .inr ?_;simp only[pG,ni,jc,gX,k_];exact xL
  ·rw[E]at F⊢;rw[aP];simp[jc]
 rcases n with n|n
 ·have I:(D.gr picks).1=D.fs:=by
   unfold aw.gr;rw[n];simp only[gX,k_];rw[m8 (by simp only;rw[A])]
  exact⟨h.cap,h.most,o,o,h.dG,i,by show i<(D.gr picks).1.length;rw[I];exact G,by show a1 (D.gr picks).1 i=_;rw[I];exact A,.inl n⟩
 ·have C:D.gr picks=hE picks (D.fs,(D.hF picks).2) (bG p,k):=by
   unfold aw.gr;rw[n];simp only[gX,k_];rw[m8 (x:=(p,i)) (by simp only;rw[A])]
  obtain⟨q,g1,g2,g3,g4⟩:=Cs (picks:=picks) (s:=(D.fs,(D.hF picks).2)) (x:=(bG p,k)) ab;simp only at g1 g2 g3 g4
  have O:∃x,a1 (D.gr picks).1 k=⟨x,x,[]⟩∧x.length≤M:=by
   rw[C];rcases d with d|⟨d,K⟩
   ·rw[g4 (by rw[B,d];simp),B,d]
    exact⟨_,o,Pn q h.el L⟩
   ·rw[g3 (by rw[B,d])];simp only;rw[B,d,K];exact⟨e,o,h.el⟩
  obtain⟨x,P,a_⟩:=O;refine⟨h.cap,h.most,o,o,h.dG,i,?_,?_,.inr ⟨k,x,?_,H,P,a_,n⟩⟩
  ·show i<(D.gr picks).1.length;rw[C,g1];exact G
  ·show a1 (D.gr picks).1 i=_;rw[C,g2 i (kj H)];exact A
  ·show k<(D.gr picks).1.length;rw[C,g1];exact ab
theorem ny.fk(h:ny M p c e D)(bs:cH p=true)(E:cH (bG p)=true)(picks:List Int):ef M p c (D.fk picks)∨ef M p e (D.fk picks):=by
 obtain⟨i,k,G,ab,H,B,C,K,n⟩:=h.ex
 have ah:∀eF∈D.log,eF.dir=bV p:=by
  intro eF aq;rcases n with⟨_,n⟩|⟨_,n⟩
  ·rw[n]at aq;simp only[dU,nf,or_false]at aq
   rcases aq with aq|aq
   ·rw[aq];exact u_ bs E
   ·rw[aq];exact s4 bs E
  ·rw[n,eU]at aq;rw[aq];exact s4 bs E
 obtain⟨j,r,I⟩:=Cw ah picks
 have d:(D.hF picks).1=[(p,i)]∨(D.hF picks).1=[(p,i),(bG p,k)]∨(D.hF picks).1=[(p,k)]:=by
  rw[I];rcases n with⟨aP,A⟩|⟨aP,A⟩
  ·rw[A]at r⊢
   rw[aP];rcases K5 r with rfl|rfl|rfl
   ·exact .inl o
   ·refine .inr (.inl ?_);simp only[pG,ni,jc,gX,k_];exact xL
   ·refine .inr (.inr ?_);simp only[pG,ni,jc,gX,k_];rw[xL,xM]
  ·rw[A]at r⊢;rw[aP]
   rcases DR r with rfl|rfl
   ·exact .inr (.inl o)
   ·refine .inr (.inr ?_);simp only[pG,ni,jc,gX,k_];exact xM
 have q:(D.gr picks).1=D.fs:=by
  unfold aw.gr;rcases d with d|d|d
  ·rw[d];simp only[gX,k_];rw[m8 (by simp only;rw[B])]
  ·rw[d];simp only[gX,k_];rw[m8 (x:=(p,i)) (by simp only;rw[B]),m8 (by simp only;rw[C])]
  ·rw[d];simp only[gX,k_];rw[m8 (by simp only;rw[C])]
 have li:i<(D.fk picks).fs.length:=by show i<(D.gr picks).1.length;rw[q];exact G
 have c6:k<(D.fk picks).fs.length:=by show k<(D.gr picks).1.length;rw[q];exact ab
 have F:a1 (D.fk picks).fs i=⟨c,c,[]⟩:=by show a1 (D.gr picks).1 i=_;rw[q];exact B
 have aX:a1 (D.fk picks).fs k=⟨e,e,[]⟩:=by show a1 (D.gr picks).1 k=_;rw[q];exact C
 rcases d with d|d|d
 ·exact .inl ⟨h.cap,h.most,o,o,h.dG,i,li,F,.inl d⟩
 ·exact .inl ⟨h.cap,h.most,o,o,h.dG,i,li,F,.inr ⟨k,e,c6,H,aX,h.el,d⟩⟩
 ·exact .inr ⟨h.cap,h.most,o,o,h.el,k,c6,aX,.inl d⟩
theorem LL{i:Nat}:aH [(p,i)] (bG p)=none:=by simp[aH,new_ne]
theorem tE{i k:Nat}:aH [(p,i),(bG p,k)] (bG p)=some k:=by simp[aH,new_ne]
theorem wa{i:Nat}{m:cI}:aH ((p,i)::m) p=some i:=by simp[aH]
theorem ef.K2(h:ef M p c D)(ah:D.dead=false)(L:cH (bG p)=true)(he:e.length≤M):
 ((D.lay (bG p) ⟨false,e⟩).1=11∧(D.lay (bG p) ⟨false,e⟩).2.dead=true∧ef M p c (D.lay (bG p) ⟨false,e⟩).2∧D.left=1)∨
 ((D.lay (bG p) ⟨false,e⟩).1=0∧(D.lay (bG p) ⟨false,e⟩).2.dead=false∧lV M p c e (D.lay (bG p) ⟨false,e⟩).2∧(D.lay (bG p) ⟨false,e⟩).2.left=D.left-1):=by
 rcases rm ah with⟨A,B,C⟩|⟨A,B,C⟩
 ·rw[y7 A,B]
  exact .inl ⟨o,o,h.of o o o o o o,C⟩
 ·rw[vW A,B]
  obtain⟨d,q⟩:∃d:aw,d={D with left:=D.left-1,ops:=D.ops+1}:=⟨_,o⟩;rw[←q];have j:ef M p c d:=by rw[q];exact h.of o o o o o o
  have F:d.dead=false:=by rw[q];exact ah
  have G:d.left=D.left-1:=by rw[q]
  have r:∀b,((⟨false,e⟩:dF).on b e.length)=e:=fun b=>wq _ _;have hu:=j.used;have I:d.jr (bG p) ⟨false,e⟩=0:=tt L (by simp only[r];have:=j.most;omega) (by simp only[r];have:=j.cap;have:=j.dG;omega);rw[I];simp only[if_true];refine .inr ⟨trivial,?_⟩;obtain⟨i,aP,E,n⟩:=j.ex;rcases n with n|⟨k,x,H,a_,iR,K,n⟩
  ·have hm:aH d.now (bG p)=none:=by rw[n];exact LL
   rw[GC (k:=0) hm];refine⟨F,⟨j.cap,j.most,j.dG,he,i,d.fs.length,[],[⟨false,e⟩],?_,?_,?_,?_,?_,.inl o,by simp,?_,.inl ⟨?_,?_⟩⟩,G⟩
   ·show i<((_:List fi).set _ _).length;rw[kk,bT];omega
   ·show d.fs.length<((_:List fi).set _ _).length;rw[kk,bT];simp
   ·omega
   ·show a1 ((_:List fi).set _ _) i=_;rw[l4,aA J,J8 aP];exact E
   ·show a1 ((_:List fi).set _ _) _=_;rw[l4,aM ⟨o,by simp⟩,r]
   ·show hJ d.now _ _=_;rw[n];exact EB
   ·show d.stays=_;rw[j.st,n]
   ·show d.log++_=_;rw[j.log];rfl
  ·have hm:aH d.now (bG p)=some k:=by rw[n];exact tE
   have hw:d.write (bG p) ⟨false,e⟩=d.gm k ⟨e,x,[⟨false,e⟩]⟩:=by
    unfold aw.write aw.make;rw[hm];simp only;rw[iR,r];rfl
   rw[hw];refine⟨F,⟨j.cap,j.most,j.dG,he,i,k,x,[⟨false,e⟩],?_,?_,a_,?_,?_,.inl o,K,n,.inr ⟨?_,j.log⟩⟩,G⟩
   ·show i<(d.fs.set _ _).length;rw[kk];exact aP
   ·show k<(d.fs.set _ _).length;rw[kk];exact H
   ·show a1 (d.fs.set _ _) i=_;rw[l4,aA (fun h=>a_ h.1.symm)];exact E
   ·show a1 (d.fs.set _ _) k=_;rw[l4,aM ⟨o,H⟩]
   ·show d.stays=_;rw[j.st,n]
def ur(M:Nat)(p:aD)(c e:List UInt8)(D:aw):Prop:=lV M p c e D∧∃k,aH D.now (bG p)=some k∧a1 D.fs k=⟨e,e,[]⟩
theorem lV.sync(h:lV M p c e D)(ah:D.dead=false)(G:cH (bG p)=true):
 ((D.sync (bG p)).1=11∧(D.sync (bG p)).2.dead=true∧lV M p c e (D.sync (bG p)).2∧D.left=1)∨((D.sync (bG p)).1=0∧(D.sync (bG p)).2.dead=false∧ur M p c e (D.sync (bG p)).2∧(D.sync (bG p)).2.left=D.left-1):=by
 rcases rm ah with⟨j,d,x⟩|⟨j,d,x⟩
 ·rw[Ag j,d]
  exact .inl ⟨o,o,h.of o o o o o o,x⟩
 ·obtain⟨i,k,y,w,B,ab,A,C,n,H,I,r,E⟩:=h.ex
  have hm:aH D.begin.2.now (bG p)=some k:=by rw[d];show aH D.now _=_;rw[r];exact tE
  have F:D.begin.2.look (bG p)=0:=by unfold aw.look;rw[aM G,hm];rfl
  rw[Ah j,F,hm,d];simp only[if_true];have K:a1 D.fs ((some k).getD 0)=⟨e,y,w⟩:=n;refine .inr ⟨trivial,ah,⟨⟨h.cap,h.most,h.dG,h.el,i,k,e,[],?_,?_,A,?_,?_,.inr ⟨o,o⟩,h.el,r,E⟩,k,?_,?_⟩,o⟩
  ·show i<(D.fs.set _ _).length;rw[kk];exact B
  ·show k<(D.fs.set _ _).length;rw[kk];exact ab
  ·show a1 (D.fs.set k _) i=_;rw[l4,aA (fun q=>A q.1.symm)];exact C
  ·show a1 (D.fs.set k _) k=_;rw[l4,aM ⟨o,ab⟩];show fi.mk (a1 D.fs k).now (a1 D.fs k).now []=_;rw[n]
  ·show aH D.now _=_;rw[r];exact tE
  ·show a1 (D.fs.set k _) k=_;rw[l4,aM ⟨o,ab⟩];show fi.mk (a1 D.fs k).now (a1 D.fs k).now []=_;rw[n]
theorem ur.rename(h:ur M p c e D)(ah:D.dead=false)(bs:cH p=true)(q:cH (bG p)=true):
 ((D.rename (bG p) p).1=11∧(D.rename (bG p) p).2.dead=true∧lV M p c e (D.rename (bG p) p).2∧D.left=1)∨((D.rename (bG p) p).1=0∧(D.rename (bG p) p).2.dead=false∧ny M p c e (D.rename (bG p) p).2∧(D.rename (bG p) p).2.left=D.left-1):=by
 obtain⟨h,I,x,A⟩:=h;rcases rm ah with⟨j,d,r⟩|⟨j,d,r⟩
 ·rw[Fa j,d]
  exact .inl ⟨o,o,h.of o o o o o o,r⟩
 ·obtain⟨i,k,y,w,B,ab,C,E,K,L,N,n,F⟩:=h.ex
  have G:I=k:=by rw[n,tE]at x;exact(l6 x).symm
  rw[G]at A;have hm:aH D.begin.2.now (bG p)=some k:=by rw[d];show aH D.now _=_;rw[n];exact tE
  have H:D.begin.2.mg (bG p) p=0:=by rw[E_ q bs (s3 bs q)];unfold aw.look;rw[aM q,hm];rfl
  rw[Fb j,H,aM ⟨o,new_ne p⟩,hm,d];refine .inr ⟨o,ah,⟨h.cap,h.most,h.dG,h.el,i,k,B,ab,C,E,A,?_,?_⟩,o⟩
  ·show c_.ap ⟨bG p,p,some k⟩ D.now=[(p,k)];rw[n];exact xM
  ·show(D.stays=_∧D.log++_=_)∨(D.stays=_∧D.log++_=_)
   rcases F with⟨bh,bW⟩|⟨bh,bW⟩
   ·exact .inl ⟨bh,by rw[bW];rfl⟩
   ·exact .inr ⟨bh,by rw[bW];rfl⟩
theorem ny.iG(h:ny M p c e D)(ah:D.dead=false)(bs:cH p=true)(d:cH (bG p)=true)(B:k4 (bV p)=0):
 ((D.iG (bV p)).1=11∧(D.iG (bV p)).2.dead=true∧ny M p c e (D.iG (bV p)).2∧D.left=1)∨((D.iG (bV p)).1=0∧(D.iG (bV p)).2.dead=false∧ef M p e (D.iG (bV p)).2∧(D.iG (bV p)).2.left=D.left-1):=by
 rcases rm ah with⟨j,n,r⟩|⟨j,n,r⟩
 ·rw[FA j,n]
  exact .inl ⟨o,o,h.of o o o o o o,r⟩
 ·obtain⟨i,k,G,ab,H,I,A,q,x⟩:=h.ex
  rw[FB j,B,n];simp only[if_true];have C:=s3 bs d
  have F:merge D.now D.stays (bV p)=[(p,k)]:=by
   unfold merge;rw[q];rcases x with⟨bh,_⟩|⟨bh,_⟩
   ·rw[bh];simp[hJ]
   ·rw[bh];simp[hJ,C]
  have E:D.log.filter (fun c=> !decide (c.dir=bV p))=[]:=by
   rcases x with⟨_,bh⟩|⟨_,bh⟩
   ·rw[bh];simp[u_ bs d,s4 bs d]
   ·rw[bh];simp[s4 bs d]
  refine .inr ⟨trivial,ah,⟨h.cap,h.most,E,by show merge D.now D.stays (bV p)=D.now;rw[F,q],h.el,k,ab,A,.inl q⟩,o⟩
theorem Kk(h:ef M p c D)(ah:D.dead=false)(bs:cH p=true)(d:cH (bG p)=true)(n:k4 (bV p)=0)(he:(c1 l).length≤M):
 ((fW D p l).1=0∧ef M p (c1 l) (fW D p l).2∧(fW D p l).2.dead=false∧(D.left=0→(fW D p l).2.left=0))∨((fW D p l).1=11∧(fW D p l).2.dead=true∧D.left≠0∧∀picks,ef M p c ((fW D p l).2.fk picks)∨ef M p (c1 l) ((fW D p l).2.fk picks)):=by
 unfold fW lC;rcases h.K2 ah d he with⟨bB,a2,a3,a4⟩|⟨bB,a2,a3,a4⟩
 ·rw[pV (by rw[bB];decide)]
  exact .inr ⟨bB,a2,by omega,fun picks=> .inl (a3.fk picks).1⟩
 rw[mX bB];rcases a3.sync a2 d with⟨s1,s2,c2,ey⟩|⟨s1,s2,c2,ey⟩
 ·rw[pV (by rw[s1];decide)]
  exact .inr ⟨s1,s2,by omega,fun picks=> .inl (c2.fk bs d picks)⟩
 rw[mX s1];rcases c2.rename s2 bs d with⟨eM,fh,j,fQ⟩|⟨eM,fh,j,fQ⟩
 ·rw[pV (by rw[eM];decide)]
  exact .inr ⟨eM,fh,by omega,fun picks=> .inl (j.fk bs d picks)⟩
 rw[mX eM];rcases j.iG fh bs d n with⟨t1,t2,t3,t4⟩|⟨t1,t2,t3,t4⟩
 ·rw[pV (by rw[t1];decide)]
  exact .inr ⟨t1,t2,by omega,fun picks=>t3.fk bs d picks⟩
 rw[mX t1,zU];exact .inl ⟨o,t3,t2,fun q=>by rw[t4,fQ,ey,a4];omega⟩
structure nB (M:Nat) (p:aD) (c d:List UInt8) (D:aw):Prop where
 cap:4*M≤D.cap
 most:4*M≤D.most
 log:D.log=[]
 st:D.stays=D.now
 dG:c.length+d.length≤M
 ex:∃i,i<D.fs.length∧a1 D.fs i=⟨c++d,c,[⟨true,d⟩]⟩∧(D.now=[(p,i)]∨∃k x,k<D.fs.length∧k≠i∧a1 D.fs k=⟨x,x,[]⟩∧x.length≤M∧D.now=[(p,i),(bG p,k)])
theorem nB.of{d:List UInt8}{j:aw}(h:nB M p c d D)(q:j.cap=D.cap)(ab:j.most=D.most)(r:j.log=D.log)(x:j.stays=D.stays)(n:j.now=D.now)(A:j.fs=D.fs):nB M p c d j:=
 ⟨by rw[q];exact h.cap,by rw[ab];exact h.most,by rw[r];exact h.log,by rw[x,n];exact h.st,h.dG,by rw[A,n];exact h.ex⟩
theorem ef.DM{d:List UInt8}(h:ef M p c D)(ah:D.dead=false)(bs:cH p=true)(he:c.length+d.length≤M):
 ((D.lay p ⟨true,d⟩).1=11∧(D.lay p ⟨true,d⟩).2.dead=true∧ef M p c (D.lay p ⟨true,d⟩).2∧D.left=1)∨((D.lay p ⟨true,d⟩).1=0∧(D.lay p ⟨true,d⟩).2.dead=false∧nB M p c d (D.lay p ⟨true,d⟩).2∧(D.lay p ⟨true,d⟩).2.left=D.left-1):=by
 rcases rm ah with⟨A,B,E⟩|⟨A,B,E⟩
 ·rw[y7 A,B]
  exact .inl ⟨o,o,h.of o o o o o o,E⟩
 ·rw[vW A,B]
  obtain⟨j,r⟩:∃j:aw,j={D with left:=D.left-1,ops:=D.ops+1}:=⟨_,o⟩;rw[←r];have n:ef M p c j:=by rw[r];exact h.of o o o o o o
  have H:j.dead=false:=by rw[r];exact ah
  have I:j.left=D.left-1:=by rw[r]
  have C:((⟨true,d⟩:dF).on c d.length)=c++d:=Mx _ _;have hu:=n.used;have G:j.jr p ⟨true,d⟩=0:=tt bs (by rw[n.As];simp only[C,bT];have:=n.most;omega) (by rw[n.As];simp only[C,bT];have:=n.cap;have:=n.dG;omega);rw[G];simp only[if_true];refine .inr ⟨trivial,?_⟩;obtain⟨i,aP,F,q⟩:=n.ex
  have hm:aH j.now p=some i:=by
   rcases q with q|⟨k,x,_,_,_,_,q⟩
   ·rw[q];exact wa
   ·rw[q];exact wa
  have hw:j.write p ⟨true,d⟩=j.gm i ⟨c++d,c,[⟨true,d⟩]⟩:=by
   unfold aw.write aw.make;rw[hm];simp only;rw[F,C];rfl
  rw[hw];refine⟨H,⟨n.cap,n.most,n.log,n.st,he,i,?_,?_,?_⟩,I⟩
  ·show i<(j.fs.set _ _).length;rw[kk];exact aP
  ·show a1 (j.fs.set _ _) i=_;rw[l4,aM ⟨o,aP⟩]
  ·rcases q with q|⟨k,x,K,a_,iR,L,q⟩
   ·exact .inl q
   ·exact .inr ⟨k,x,by show k<(j.fs.set _ _).length;rw[kk];exact K,a_,by show a1 (j.fs.set _ _) k=_;rw[l4,aA (fun h=>a_ h.1)];exact iR,L,q⟩
theorem nB.sync{d:List UInt8}(h:nB M p c d D)(ah:D.dead=false)(bs:cH p=true):
 ((D.sync p).1=11∧(D.sync p).2.dead=true∧nB M p c d (D.sync p).2∧D.left=1)∨((D.sync p).1=0∧(D.sync p).2.dead=false∧ef M p (c++d) (D.sync p).2∧(D.sync p).2.left=D.left-1):=by
 rcases rm ah with⟨q,n,r⟩|⟨q,n,r⟩
 ·rw[Ag q,n]
  exact .inl ⟨o,o,h.of o o o o o o,r⟩
 ·obtain⟨i,aP,A,j⟩:=h.ex
  have C:aH D.now p=some i:=by
   rcases j with j|⟨k,x,_,_,_,_,j⟩
   ·rw[j];exact wa
   ·rw[j];exact wa
  have hm:aH D.begin.2.now p=some i:=by rw[n];exact C
  have B:D.begin.2.look p=0:=by unfold aw.look;rw[aM bs,hm];rfl
  rw[Ah q,B,hm,n];simp only[if_true];refine .inr ⟨trivial,ah,⟨h.cap,h.most,h.log,h.st,by rw[bT];exact h.dG,i,?_,?_,?_⟩,o⟩
  ·show i<(D.fs.set _ _).length;rw[kk];exact aP
  ·show a1 (D.fs.set i _) i=_;rw[l4,aM ⟨o,aP⟩];show fi.mk (a1 D.fs i).now (a1 D.fs i).now []=_;rw[A]
  ·rcases j with j|⟨k,x,E,a_,iR,F,j⟩
   ·exact .inl j
   ·exact .inr ⟨k,x,by show k<(D.fs.set _ _).length;rw[kk];exact E,a_,by show a1 (D.fs.set i _) k=_;rw[l4,aA (fun h=>a_ h.1)];exact iR,F,j⟩
theorem nB.fk{d:List UInt8}(h:nB M p c d D)(picks:List Int):∃a z,a+z≤d.length∧ef M p (c++d.take a++List.replicate z 0) (D.fk picks):=by
 have A:D.hF picks=(D.now,0):=by unfold aw.hF aw.oI;rw[h.log,h.st];rfl
 obtain⟨i,r,ab,j⟩:=h.ex;obtain⟨q,g1,g2,g3,g4⟩:=Cs (picks:=picks) (s:=(D.fs,0)) (x:=(p,i)) r;simp only at g1 g2 g3 g4
 have n:D.gr picks=hE picks (D.fs,0) (p,i):=by
  unfold aw.gr;rw[A];rcases j with j|⟨k,x,B,a_,iR,C,j⟩
  ·rw[j];rfl
  ·rw[j];simp only[gX,k_];rw[m8 (x:=(bG p,k)) (by simp only;rw[g2 k a_,iR])]
 obtain⟨a,z,E,hw⟩:=Pm d c q;have g5:=g4 (by rw[ab];simp);rw[ab]at g5;simp only[hw]at g5;refine⟨a,z,E,h.cap,h.most,o,o,?_,i,?_,?_,?_⟩
 ·simp only[bT,eJ,nV];have:=h.dG;omega
 ·show i<(D.gr picks).1.length;rw[n,g1];exact r
 ·show a1 (D.gr picks).1 i=_;rw[n];exact g5
 ·show(D.hF picks).1=_∨∃k x,k<(D.gr picks).1.length∧k≠i∧a1 (D.gr picks).1 k=_∧_∧(D.hF picks).1=_
  rw[n,A];rcases j with j|⟨k,x,B,a_,iR,C,j⟩
  ·exact .inl j
  ·exact .inr ⟨k,x,by rw[g1];exact B,a_,by rw[g2 k a_];exact iR,C,j⟩
def iM(l:List Rec)(c:List UInt8):Prop:=∃t,c=c1 l++t∧e5 l.length t=none
theorem iM.enc(l:List Rec):iM l (c1 l):=⟨[],by rw[hi],by simp[e5]⟩
theorem iM.par(h:iM l c)(d:∀r∈l,r.length≤1048576):hK c=0∧e6 c=l:=by
 obtain⟨t,rfl,j⟩:=h;have:=MQ l t d;rw[wA j,hi]at this;exact⟨MP l t,this⟩
theorem E8(h:ef M p (c1 l) D)(ah:D.dead=false)(bs:cH p=true)(he:(c1 l).length+13+r.length≤M)(j:r.length≤1048576):
 ((dS (hX p l.length r) D).1=0∧ef M p (c1 (l++[r])) (dS (hX p l.length r) D).2∧(dS (hX p l.length r) D).2.dead=false∧(D.left=0→(dS (hX p l.length r) D).2.left=0))∨((dS (hX p l.length r) D).1=11∧(dS (hX p l.length r) D).2.dead=true∧D.left≠0∧∀picks,∃c,(iM l c∨iM (l++[r]) c)∧ef M p c ((dS (hX p l.length r) D).2.fk picks)):=by
 have K:=n0 l.length r;unfold hX;rcases h.DM ah bs (d:=gl l.length r) J with⟨bB,a2,a3,a4⟩|⟨bB,a2,a3,a4⟩
 ·rw[pV (by rw[bB];decide)]
  exact .inr ⟨bB,a2,by omega,fun picks=>⟨_,.inl (iM.enc l),(a3.fk picks).1⟩⟩
 rw[mX bB];rcases a3.sync a2 bs with⟨s1,s2,c2,ey⟩|⟨s1,s2,c2,ey⟩
 ·rw[pV (by rw[s1];decide)]
  refine .inr ⟨s1,s2,by omega,fun picks=>?_⟩;obtain⟨a,z,E,q⟩:=c2.fk picks;refine⟨_,.inl ⟨(gl l.length r).take a++List.replicate z 0,by rw[dA],?_⟩,q⟩;by_cases I:a≤(gl l.length r).length
  ·exact Ga _ _ _ _ J j
  ·omega
 rw[mX s1];rcases c2.DM s2 bs (d:=[67]) (by rw[bT,iU];omega)with⟨af,x,A,F⟩|⟨af,x,A,F⟩
 ·rw[pV (by rw[af];decide)]
  exact .inr ⟨af,x,by omega,fun picks=>⟨_,.inl ⟨gl l.length r,o,DQ _ _ j⟩,(A.fk picks).1⟩⟩
 rw[mX af];rcases A.sync x bs with⟨n,B,C,G⟩|⟨n,B,C,G⟩
 ·rw[pV (by rw[n];decide)]
  refine .inr ⟨n,B,by omega,fun picks=>?_⟩;obtain⟨a,z,E,q⟩:=C.fk picks;simp only[iU]at E;refine⟨_,?_,q⟩;rcases(show(a=0∧z=0)∨(a=0∧z=1)∨(a=1∧z=0)by omega)with⟨rfl,rfl⟩|⟨rfl,rfl⟩|⟨rfl,rfl⟩
  ·exact .inl ⟨gl l.length r,by simp,DQ _ _ j⟩
  ·exact .inl ⟨gl l.length r++[0],by simp,K1 _ _ j⟩
  ·refine .inr ⟨[],?_,by simp[e5]⟩
   rw[vf,iZ];simp
 rw[mX n,zU];refine .inl ⟨o,?_,B,fun H=>by rw[G,F,ey,a4];omega⟩;show ef M p _ _;rw[vf,iZ,←dA];exact C
theorem ME(h:ef M p c D)(j:iM l c)(E:∀r∈l,r.length≤1048576)(ah:D.dead=false)(bs:cH p=true)(n:cH (bG p)=true)(B:k4 (bV p)=0):
 ((dO D p).1=0∧(dO D p).2.1=l∧(∃d,iM l d∧ef M p d (dO D p).2.2)∧(dO D p).2.2.dead=false∧(D.left=0→(dO D p).2.2.left=0))∨((dO D p).1=11∧(dO D p).2.2.dead=true∧D.left≠0∧∀picks,∃d,iM l d∧ef M p d ((dO D p).2.2.fk picks)):=by
 obtain⟨e9,eR⟩:=j.par E;obtain⟨i,g1,g2,g3⟩:=h.get;obtain⟨eM,fh⟩:=Nk ah bs g1 (x:=c) (by rw[g3]);rw[←fh]at e9 eR
 have C:(c1 l).length≤M:=by
  obtain⟨t,e,_⟩:=j;have:=h.dG;rw[e,bT]at this;omega
 by_cases ag:pT (D.cM p)<(D.cM p).length
 ·rw[pQ bs n eM e9 ag,eR]
  rcases Kk h ah bs n B C with⟨f1,f2,f3,f4⟩|⟨f1,f2,f3,f4⟩
  ·exact .inl ⟨f1,by simp only;rw[aM f1],⟨_,iM.enc l,f2⟩,f3,f4⟩
  ·refine .inr ⟨f1,f2,f3,fun picks=>?_⟩
   rcases f4 picks with q|q
   ·exact⟨c,j,q⟩
   ·exact⟨_,iM.enc l,q⟩
 ·rw[qW bs n eM e9 ag,eR]
  exact .inl ⟨o,o,⟨c,j,h⟩,ah,fun A=>A⟩
theorem FT{M:Nat}{cap most:Nat}(bs:cH p=true)(d:cH (bG p)=true)(x:k4 (bV p)=0)(r:8≤M)(aq:4*M≤cap)(hm:4*M≤most):(dO (aw.empty cap most) p).1=0∧(dO (aw.empty cap most) p).2.1=[]∧ef M p (c1 []) (dO (aw.empty cap most) p).2.2∧(dO (aw.empty cap most) p).2.2.dead=false∧(dO (aw.empty cap most) p).2.2.left=0:=by
 have A:(aw.empty cap most).gI p=2:=by simp[aw.gI,aw.empty,aw.look,bs,aH]
 rw[EO bs d A];unfold fW lC
 have aP:(aw.empty cap most).lay (bG p) ⟨false,c1 []⟩=(0,⟨cap,most,[⟨c1 [],[],[⟨false,c1 []⟩]⟩],[(bG p,0)],[],[⟨[],bG p,some 0⟩],1,0,false⟩):=by
  unfold aw.empty;rw[K4 d (by simp only[wq];show 8≤most;omega) (by simp only[wq];simp[kW,aw.eE,aH];show 8≤cap;omega)];rw[GC (k:=0) rfl];simp[hJ,wq]
 rw[mX (by rw[aP]),aP];have B:aH [(bG p,0)] (bG p)=some 0:=by simp[aH]
 have j:aw.sync ⟨cap,most,[⟨c1 [],[],[⟨false,c1 []⟩]⟩],[(bG p,0)],[],[⟨[],bG p,some 0⟩],1,0,false⟩ (bG p)=(0,⟨cap,most,[⟨c1 [],c1 [],[]⟩],[(bG p,0)],[],[⟨[],bG p,some 0⟩],2,0,false⟩):=by
  simp[aw.sync,aw.begin,aw.look,d,aH,aw.w1,aw.gm,a1]
 rw[mX (by rw[j]),j]
 have n:aw.rename ⟨cap,most,[⟨c1 [],c1 [],[]⟩],[(bG p,0)],[],[⟨[],bG p,some 0⟩],2,0,false⟩ (bG p) p=(0,⟨cap,most,[⟨c1 [],c1 [],[]⟩],[(p,0)],[],[⟨[],bG p,some 0⟩,⟨bG p,p,some 0⟩],3,0,false⟩):=by
  simp[aw.rename,aw.begin,aw.mg,bs,d,s3 bs d,aw.look,aH,new_ne,aw.change,c_.ap,zu,e4,hJ]
 rw[mX (by rw[n]),n]
 have q:aw.iG ⟨cap,most,[⟨c1 [],c1 [],[]⟩],[(p,0)],[],[⟨[],bG p,some 0⟩,⟨bG p,p,some 0⟩],3,0,false⟩ (bV p)=(0,⟨cap,most,[⟨c1 [],c1 [],[]⟩],[(p,0)],[(p,0)],[],4,0,false⟩):=by
  simp[aw.iG,aw.begin,x,aw.pY,merge,hJ,u_ bs d,s4 bs d]
 rw[mX (by rw[q]),q,zU];exact⟨o,o,⟨aq,hm,o,o,r,0,by simp,by simp[a1],.inl o⟩,o,o⟩
end
theorem Hz{cp M:Nat}{D:aw}(h:bw cp D)(p:aD)(j:(D.cM p).length+8≤M):bw (cp+4*(M+28)) (dO D p).2.2:=by
 have d:=(pv (D.cM p)).2;unfold dO;split
 ·exact h.mono J
 split
 ·exact(rq h p []).mono (by simp[c1,hQ,gf];omega)
 split
 ·exact h.mono J
 split
 ·exact h.mono J
 split
 ·exact(rq h p _).mono J
 ·exact h.mono J
theorem Nf(D:aw)(p:aD):(D.cM p).length≤(D.eE p).length:=by unfold aw.cM;split;exact dz _;simp
theorem yp{M:Nat}{p:aD}{c:List UInt8}{D:aw}(h:ef M p c D):(D.cM p).length≤c.length:=by rw[←h.As];exact Nf D p
theorem Bd{M:Nat}{p:aD}{l:List Rec}{r:Rec}{D:aw}(h:ef M p (c1 l) D)(ah:D.dead=false)(d:D.left=0)(bs:cH p=true)(he:(c1 l).length+13+r.length≤M)(j:r.length≤1048576):
 (fp D p l.length false r).1=0∧(fp D p l.length false r).2.1=l.length+1∧(fp D p l.length false r).2.2.1=false∧ef M p (c1 (l++[r])) (fp D p l.length false r).2.2.2∧(fp D p l.length false r).2.2.2.dead=false∧(fp D p l.length false r).2.2.2.left=0:=by
 rw[xO (zL o)];rcases E8 h ah bs he j with⟨bB,a2,a3,a4⟩|⟨_,_,a3,_⟩
 ·rw[aM bB,aM bB];exact⟨bB,o,o,a2,a3,a4 d⟩
 ·exact absurd d a3
theorem MF{M:Nat}{p:aD}{c:List UInt8}{l:List Rec}{D:aw}(h:ef M p c D)(x:iM l c)(q:∀r∈l,r.length≤1048576)(ah:D.dead=false)(j:D.left=0)(bs:cH p=true)(A:cH (bG p)=true)(n:k4 (bV p)=0):
 (dO D p).1=0∧(dO D p).2.1=l∧(∃d,iM l d∧ef M p d (dO D p).2.2)∧(dO D p).2.2.dead=false∧(dO D p).2.2.left=0:=by
 rcases ME h x q ah bs A n with⟨bB,a2,a3,a4,a5⟩|⟨_,_,a3,_⟩
 ·exact⟨bB,a2,a3,a4,a5 j⟩
 ·exact absurd j a3
def Safe(M:Nat)(p:aD)(L cE:List Rec)(D:aw):Prop:=∀picks,∃c,(iM L c∨iM cE c)∧ef M p c (D.fk picks)
theorem G_{M:Nat}{p:aD}{l:List Rec}{r:Rec}{D:aw}(h:ef M p (c1 l) D)(ah:D.dead=false)(bs:cH p=true)(he:(c1 l).length+13+r.length≤M)(j:r.length≤1048576):
 Safe M p l (l++[r]) (fp D p l.length false r).2.2.2∧((fp D p l.length false r).1=0→Safe M p (l++[r]) (l++[r]) (fp D p l.length false r).2.2.2):=by
 rw[xO (zL o)];rcases E8 h ah bs he j with⟨bB,a2,a3,a4⟩|⟨bB,a2,a3,a4⟩
 ·exact⟨fun q=>⟨_,.inr (iM.enc _),(a2.fk q).1⟩,fun _ q=>⟨_,.inr (iM.enc _),(a2.fk q).1⟩⟩
 ·exact⟨a4,fun d=>by have n:(dS (hX p l.length r) D).1=0:=d;omega⟩
theorem N6{M:Nat}{p:aD}{l:List Rec}{D:aw}(h:ef M p (c1 l) D):Safe M p l l D:=fun q=>⟨_,.inl (iM.enc l),(h.fk q).1⟩
theorem Safe.get{M:Nat}{p:aD}{L cE:List Rec}{D:aw}(h:Safe M p L cE D)(q:List Int):∃X c,(X=L∨X=cE)∧iM X c∧ef M p c (D.fk q):=by
 obtain⟨c,d|d,ab⟩:=h q
 ·exact⟨L,c,.inl o,d,ab⟩
 ·exact⟨cE,c,.inr o,d,ab⟩
end uz
namespace gV
theorem aE.still{P:Program}{w0:World}{f:FuncId}{args:Array Value}{H:Heap}{v:Value}(h:∀w,At w0 H w→Calls P f args w fun e j=>e= .returned v∧j=w):aE P w0 f args H (fun r n=>r=v∧al H n):=
 fun w d=>(h w d).mono (fun e j ⟨he,hw⟩=>⟨v,H,he,by rw[hw];exact d,o,al.refl _⟩)
abbrev fj(m:Int)(H:Heap):Prop:=lr (fun b=>b=0) H ⟨0,0,none⟩ [.int .i64 m]
theorem fj.cell{m:Int}{H:Heap}{w0 w:World}(h:fj m H)(d:At w0 H w):w.cell? ⟨0,0,none⟩=some (.int .i64 m):=by
 have:=h.W.cells 0 (.int .i64 m) o;rw[d.cell];exact this
theorem x_(s sub:List UInt8)(bC:Int)(w0:World)(N:Heap)(aL:fj bC N)(ag:s.length<4294967281):aE Tryz.prog w0 166 #[aN s,aN sub] N (fun r d=>r= .bool (Lib.contains s sub)∧al N d):=
 aE.still (fun w j=>by
  have h:Calls Tryz.prog 166 #[aN s,aN sub] w fun e n=>e= .returned (.bool (Lib.contains s sub))∧n=w:=Any.strings_Contains Tryz.lays144 ⟨s.toArray⟩ ⟨sub.toArray⟩ bC w (by simpa[ByteArray.size]using ag) (aL.cell j);exact h)
def sp(cur:List UInt8):List UInt8→List (List UInt8)
 |[]=>[cur]
 |c::l=>if c=47 then cur::sp [] l else sp (cur++[c]) l
theorem z8:∀(s cur:List UInt8),∃p dh,Lib.splitK [47] 0 (s.count 47) s=p::dh∧sp cur s=(cur++p)::dh
 |[],cur=>⟨[],[],o,by simp[sp]⟩
 |c::l,cur=>by
  by_cases h:c=47
  ·subst h
   obtain⟨p,dh,d,ab⟩:=z8 l [];refine⟨[],p::dh,?_,by rw[sp,aM o,ab];simp⟩;have x:Lib.index (47::l) [47]=0:=by simp[Lib.index]
   rw[List.count_cons_self,Lib.splitK,x]
   simpa using d
  ·obtain⟨p,dh,d,ab⟩:=z8 l (cur++[c])
   refine⟨c::p,dh,?_,by rw[sp,aA h,ab];simp⟩;have aq:(c::l).count 47=l.count 47:=by rw[List.count_cons];simp[h]
   rw[aq];have E:((47:UInt8)==c)=false:=by simpa using fun e:(47:UInt8)=c=>h e.symm
   have C:([47]:List UInt8).isPrefixOf (c::l)=false:=by rw[List.isPrefixOf,E];rfl
   cases r:l.count 47 with
   |zero=>rw[r,Lib.splitK]at d;obtain⟨rfl,rfl⟩:=List.cons.inj d;rfl
   |succ k=>
    rw[r,Lib.splitK]at d;rw[Lib.splitK,Lib.index,C];by_cases hm:Lib.index l [47]= -1
    ·simp[hm]at d⊢;exact d
    ·obtain⟨j,n⟩:∃j:Nat,Lib.index l [47]=j:=by
      have:=Lib.index_ge l [47];exact⟨(Lib.index l [47]).toNat,by omega⟩
     have q:¬((j:Int)= -1):=by omega
     have A:¬((j:Int)+1= -1):=by omega
     have B:((j:Int)+1).toNat=j+1:=by omega
     simp[n,q]at d;simp[n,q,A,B,d]
theorem Ou(s:List UInt8):Lib.splitK [47] 0 (s.count 47) s=sp [] s:=by
 obtain⟨p,dh,d,ab⟩:=z8 s [];rw[d,ab];simp
theorem C0:∀l:List ByteArray,l.map Value.string=(l.map (·.data.toList)).flatMap ft
 |[]=>rfl
 |x::l=>by
  have e:Value.string x=aN x.data.toList:=by cases x;simp[aN]
  simp[C0 l,e]
theorem KI:(Tryz.prog.info? 9).map (fun i=>(i.zero,i.size,i.bytes))=some (some (.string ByteArray.empty),1,16):=by kernel_rfl
theorem Ot(s:List UInt8)(bC:Int)(w0:World)(N:Heap)(aL:fj bC N)(ag:s.length<4294967281):aE Tryz.prog w0 127 #[aN s,aN [47]] N (fun r n=>∃A:Value,∃x:Nat,r=A∧aY x 9 n ft 1 A (sp [] s)∧ae 0 N.size x∧al N n):=by
 intro w j;have h:Calls Tryz.prog 127 #[aN s,aN [47]] w fun e B=>e= .returned (.slice (some ⟨w.heap.size,0,none⟩) (Lib.countB ⟨s.toArray⟩ ⟨#[47]⟩+1) (Lib.countB ⟨s.toArray⟩ ⟨#[47]⟩+1))∧B=w.alloc (.cells ((Lib.splitB ⟨#[47]⟩ 0 (Lib.countB ⟨s.toArray⟩ ⟨#[47]⟩) ⟨s.toArray⟩).map Value.string).toArray 9):=Any.strings_Split Tryz.lays146 KI ⟨s.toArray⟩ ⟨#[47]⟩ bC w (by simpa[ByteArray.size]using ag) (aL.cell j) bc;refine h.mono ?_;rintro e B ⟨rfl,rfl⟩;have q:Lib.countB ⟨s.toArray⟩ ⟨#[47]⟩=s.count 47:=by show Lib.count s [47]=_;exact Lib.count_one 47 s
 have d:(Lib.splitB ⟨#[47]⟩ 0 (Lib.countB ⟨s.toArray⟩ ⟨#[47]⟩) ⟨s.toArray⟩).map (·.data.toList)=sp [] s:=by
  rw[Lib.splitB_data,q];exact Ou s
 have hlen:(sp [] s).length=Lib.countB ⟨s.toArray⟩ ⟨#[47]⟩+1:=by
  rw[←d,dg];exact Lib.splitB_all ⟨#[47]⟩ bc 0 _ ⟨s.toArray⟩ o
 have bz:=j.heap;have hle:s.count 47≤s.length:=List.count_le_length;refine⟨_,_,o,j.alloc _,_,N.size+1,o,?_,by unfold ae;omega,al.pu _ _⟩;refine⟨⟨oL,py,.inr ⟨w.heap.size,Lib.countB ⟨s.toArray⟩ ⟨#[47]⟩+1,((Lib.splitB ⟨#[47]⟩ 0 (Lib.countB ⟨s.toArray⟩ ⟨#[47]⟩) ⟨s.toArray⟩).map Value.string).toArray,by rw[hlen],by rw[bz],.of (by rw[bz];simp),by rw[hlen];exact dz _,by rw[q];unfold maxLen;omega,?_,?_⟩⟩,by simp⟩
 ·rw[nU,dg,lE];have:=aI List.length d;rw[dg]at this;omega
 ·have:(sp [] s).length*1=((Lib.splitB ⟨#[47]⟩ 0 (Lib.countB ⟨s.toArray⟩ ⟨#[47]⟩) ⟨s.toArray⟩).map Value.string).length:=by
   rw[dg,lE,←d,dg]
  show(List.map Value.string _).take _=_;rw[this,eD,C0,d]
end gV
end Go.Proofs.YtfjmpninmdjcaaaGreatDoor
