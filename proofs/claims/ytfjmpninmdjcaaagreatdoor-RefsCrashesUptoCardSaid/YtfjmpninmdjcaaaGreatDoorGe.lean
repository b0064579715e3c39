/-
  Contracts of functions of the program, and plain laws: put together of several texts.
-/
import Derived.Test.YtfjmpninmdjcaaaGreatDoorGd
import Derived.Lib.Overlaps
set_option linter.unusedVariables false
set_option linter.unusedSimpArgs false
set_option linter.unusedSectionVars false
set_option linter.defProp false
set_option maxHeartbeats 8000000
set_option maxRecDepth 100000
namespace Go.Proofs.YtfjmpninmdjcaaaGreatDoor
open E Go.RowKit

namespace uw
open gV pc lq qb e2 ow hn xi
theorem Es:∀{ml:List bY} {l:e1} {q:aD},ei l→(∀x∈ml,x.n≠q)→aH (ml.foldl eV l) q=aH l q
 |[],_,_,_,_=>rfl
 |x::ml,l,q,h,aB=>by
  rw[gX,Es (vp h x) (fun y hy=>aB y (hj _ hy)),tD h,aA (fun e=>aB x gw e.symm)]
theorem Er:∀{ml:List bY} {l:e1} {m:bY},ei l→(ml.map (·.n)).Nodup→m∈ml→aH (ml.foldl eV l) m.n=if m.w=bJ then none else some m.w
 |x::ml,l,m,h,aB,hm=>by
  rw[dk,ng]at aB;rw[gX];rcases dU.1 hm with rfl|hm
  ·rw[Es (vp h m) (fun y hy e=>aB.1 (by rw[←e];exact y0 hy)),tD h,aM rfl]
  ·exact Er (vp h x) aB.2 hm
theorem L2{l:e1}{pre r:List bY}{m:bY}(h:j3 l pre (m::r)=0):iW l pre m=0∧j3 l (pre++[m]) r=0:=by
 rw[j3]at h;by_cases d:iW l pre m≠0
 ·rw[aM d]at h;exact absurd h d
 ·rw[aA d]at h;exact⟨by simpa using d,h⟩
theorem LS{l:e1}{pre:List bY}{m:bY}(h:iW l pre m=0):m.n∉pre.map (·.n):=by
 intro ab;unfold iW at h;by_cases d:ea m.n≠0
 ·rw[aM d]at h;cases h
 ·rw[aA d,aM ab]at h;cases h
theorem Eu:∀{ml:List bY} {l:e1} {pre:List bY},j3 l pre ml=0→(ml.map (·.n)).Nodup∧∀m∈ml,m.n∉pre.map (·.n)
 |[],_,_,_=>⟨qB,fun m h=>by cases h⟩
 |x::ml,l,pre,h=>by
  obtain⟨j,ab⟩:=L2 h;obtain⟨n,d⟩:=Eu ab;refine⟨?_,fun m hm=>?_⟩
  ·rw[dk,ng]
   refine⟨fun r=>?_,n⟩;obtain⟨y,hy,e⟩:=cN.1 r;exact d y hy (by rw[e];simp)
  ·rcases dU.1 hm with rfl|hm
   ·exact LS j
   ·intro q;exact d m hm (by rw[gg];exact yY _ q)
theorem Kd{u m:e1}{n:aD}{out:List aD}(hm:∀q,aH m q=aH u q)(A:∀k,k∈out↔k∈(e4 m n).map (·.1)):out.any (ly n)=(u.map (·.1)).any (fun x=>decide (x≠n)&&ly n x)∧n∉out:=by
 have e:∀k,k∈out↔k∈u.map (·.1)∧k≠n:=by
  intro k;rw[A,←gF,lH,←gF];by_cases d:k=n
  ·simp[d]
  ·rw[aA d,hm];simp[d]
 refine⟨?_,fun h=>((e n).1 h).2 o⟩;rw[vO,oW,oW];constructor
 ·rintro⟨x,j,h⟩
  obtain⟨r,ab⟩:=(e x).1 j;exact⟨x,r,by simp[ab,h]⟩
 ·rintro⟨x,j,h⟩
  rw[nW,km]at h;exact⟨x,(e x).2 ⟨j,h.1⟩,h.2⟩
theorem Gk{l:e1}{ml:List bY}(j:∀x∈l,x.1.length≤60)(h:j3 l [] ml=0):∀x∈ml.foldl eV l,x.1.length≤60:=by
 intro x d;rcases wg d with d|⟨m,hm,e,_⟩
 ·exact j x d
 ·rw[e];exact((qq m.n).1 (sh h m hm)).1
theorem C_{u:e1}{ml:List bY}(h:∀m∈ml,jK u m=false):rM u ml=0:=by
 unfold rM;rw[aA];rw[oW];rintro⟨m,hm,e⟩;rw[h m hm]at e;cases e
theorem C9{u:e1}{ml:List bY}{m:bY}(hm:m∈ml)(h:jK u m=true):rM u ml=13:=by
 unfold rM;rw[aM (oW.2 ⟨m,hm,h⟩)]
theorem qf{α:Type}{l:List α}{p:α→Prop}{i:Nat}(h:∀x∈l.take i,p x)(j:i<l.length)(ab:p l[i]):∀x∈l.take (i+1),p x:=by
 intro x d;rw[eP j]at d;rcases gG.1 d with d|d
 ·exact h x d
 ·rw[eU.1 d];exact ab
theorem LQ(x:bY)(j:Nat)(m:bY)(w0:World)(N:Heap)
 (q:Var 52 N j (dL m)):
 aE Tryz.prog w0 131 #[mf x,.pointer (some ⟨j,0,none⟩)] N (fun r d=>r= .bool (decide (x.n=m.n))∧al N d):=by
 refine aE.aP [mf x,.pointer (some ⟨j,0,none⟩)] Tryz.func131 ?_;intro F E;have n:al N N:=aa.refl _ _;refine I.O (fun B=>?_);refine G.aU (Z.rp o o) ?_;rintro v2 d ⟨rfl,A,C,ad,H⟩;obtain⟨q,n,_⟩:=bO C q n;have A:Var 52 d N.size (dL x):=A;refine G.aj ?_;refine B (I.O (fun ac=>?_));refine G.a6 A.W dc b3 cd ?_;refine G.a6 q.W dc b3 cd ?_;refine G.v1 (Y.oc o o o) ?_;refine G.aj ?_;refine ac ?_;refine I.ret (E ?_);exact⟨o,n⟩
theorem KE(v ez:Value)(l:List bY)(p:bY→Bool)(w0:World)(N:Heap)
 (d:b7 N dL 66 v l)(ar:∀(x:bY) (V:Heap),al N V→x∈l→im Tryz.prog w0 ez [mf x] V (fun r B=>r= .bool (p x)∧al V B)):
 aE Tryz.prog w0 193 #[v,ez] N (fun r B=>∃n:Int,r= .int .i64 n∧((0≤n↔l.any p=true)∧ -1≤n∧n≤9223372036854775807)∧al N B):=by
 refine aE.aP [v,ez] Tryz.func193 ?_;intro ax K;have q:al N N:=aa.refl _ _;have d:=d.ch;have aH:=d.len;refine I.O (fun U=>?_);refine G.aj ?_;refine U (I.t2 (fun az am=>I.O (fun W=>?_)));refine G.af ?_;refine G.v1 (bu d e7) ?_;refine G.af (G.nil (W ?_));refine I.aC (fun _ ap X=>?_)
 refine I.bb (fun(j:Nat)=>[(0,v),(1,ez),(7,.int .i64 l.length),(8,.int .i64 j)])
  (fun(j:Nat) (H:Heap)=>(j≤l.length)∧(l.take j).any p=false∧al N H)
  (fun(j:Nat)=>l.length-j) 0 ⟨o,o,o,o,trivial⟩ ?_ ?_
 ·
  exact⟨J,o,aa.refl _ _⟩
 intro j aB Z av ae F;obtain⟨aG,E,A⟩:=Z;obtain⟨d,q,_⟩:=bO A d q;refine I.O (fun a7=>?_);refine G.v1 bZ (G.nil (a7 ?_));refine I.t2 (fun af ag=>?_);refine a8 (fun an=>?_) (fun an=>?_)
 ·
  refine I.skip (af (I.t2 (fun ai ak=>I.aC (fun L _ M=>I.O (fun O=>?_)))));refine G.aZ 2 ?_;refine O (I.O (fun ac=>?_));refine G.av 3 ?_;refine G.cn (Y.cg d j o e7 eS o o) fun ay P=>?_;refine G.v1 (ba P.W kG eS (fq _)) ?_;refine G.qp o o o cS o o (ar l[j] _ q (cU J)) ?_;rintro aC aD ⟨rfl,Q⟩;obtain⟨q,A,_⟩:=bO Q q A;refine G.nil (ac ?_);refine dm (fun C=>?_) (fun C=>?_)
  ·
   refine I.O (fun R=>?_);refine G.aZ 2 ?_;refine R ?_;refine I.ret (M (ak (F (X (am (K ?_))))));exact⟨j,o,⟨⟨fun _=>qg (j:=j) J (by simpa using C),fun _=>by omega⟩,by omega,by omega⟩,q⟩
  ·
   refine I.skip (L (ai (I.region ?_)));refine G.v1 bN ?_;refine G.af (G.nil ?_);refine aT.sub (ae (j+1) _ ?_ ?_) ⟨o,o,(aF J),(aF J),trivial⟩
   ·exact⟨J,sO E J (by simpa using C),A⟩
   ·first|omega|(simp only;omega)|(simp;omega)
 ·
  refine I.exit (ag (F (ap ?_)));refine az (I.O (fun S=>?_));refine G.aj ?_;refine S ?_;refine I.ret (K ?_);exact⟨-1,o,⟨⟨fun h=>by omega,fun h=>by rw[eY J,h]at E;cases E⟩,by omega,by omega⟩,q⟩
theorem Jv(v ez:Value)(l:List bY)(p:bY→Bool)(w0:World)(N:Heap)
 (d:b7 N dL 66 v l)(E:∀(x:bY) (V:Heap),al N V→x∈l→im Tryz.prog w0 ez [mf x] V (fun r j=>r= .bool (p x)∧al V j)):
 aE Tryz.prog w0 130 #[v,ez] N (fun r j=>r= .bool (l.any p)∧al N j):=by
 refine aE.aP [v,ez] Tryz.func130 ?_;intro K F;have n:al N N:=aa.refl _ _;have d:=d.ch;have L:=d.len;refine I.O (fun B=>?_);refine G.aj ?_;refine B (I.O (fun C=>?_));refine G.av 2 ?_;refine aW Ih (KE _ ez l p w0 _ d.any E) ?_;rintro M H ⟨n7,rfl,A,ac⟩;have n:=n.O ac;refine G.v1 eT ?_;refine G.aj ?_;refine C ?_;refine I.ret (F ?_);exact⟨by cases q:l.any p with|true=>(rw[cT (A.1.2 q)])|false=>(rw[cL (fun h=>by rw[A.1.1 h]at q;cases q)]),n⟩
theorem LN(s:dR)(v:Value)(ml:List bY)(F:Nat→Prop)(bC:Int)(w0:World)(N:Heap)
 (aL:fj bC N)(aJ:bp (fun b=>b=0) N.size)(ag:fr F N s)(dI:bp F N.size)(hm:b7 N dL 66 v ml)(fu:ei (bX s.bm))(fc:∀x∈(bX s.bm),x.1.length≤60)(b4:∀m∈ml,m.n.length≤140737488355328):
 aE Tryz.prog w0 49 #[fZ s,v] N (fun r aU=>r= .int .i64 (gY (bX s.bm) ml)∧al N aU):=by
 refine aE.aP [fZ s,v] Tryz.func49 ?_;intro fm aR;have n:al N N:=aa.refl _ _;have hm:=hm.ch;have bL:=hm.cD;have gj:=hm.len;refine I.O (fun e3=>?_);refine G.aU Z.bv ?_;rintro v2 aU ⟨rfl,bg,e6,_⟩;obtain⟨aL,ag,hm,n,_⟩:=ed e6 aL ag hm n;have bg:Var 47 aU N.size (cc s):=bg;refine G.aj ?_;refine e3 (I.O (fun eh=>?_));refine G.v1 (ba bg.W fV dJ (cq _)) ?_;refine aW B6 (F0 s F w0 _ ag (dI.mono J)) ?_;rintro ft ej ⟨bE,rfl,A,az,cw⟩;have aX:=ax.app ax.z (aJ.mono n.size) az;have b0:=ax.app ax.z (bL.mono n.size) az;have aP:=ae.O (ae.refl 0 _) az n.size;obtain⟨aL,hm,n,_⟩:=cf cw aL hm n;have fp:=A.le;have b6:=Eb s.bm fu.nodup;refine G.aj ?_;refine eh (I.t2 (fun ek eo=>I.O (fun ep=>?_)));refine G.af ?_;refine G.v1 (bu hm e7) ?_;refine G.af (G.nil (ep ?_));refine I.aC (fun _ er eu=>?_)
 refine I.bb (fun(j:Nat)=>[(1,v),(5,.map (some bE)),(16,v),(17,.int .i64 (ml.length:Int)),(18,.int .i64 (j:Int))])
  (fun(j:Nat) (H:Heap)=>(j≤ml.length)∧(∀i (h:i<j),∀ab:i<ml.length,iW (bX s.bm) (ml.take i) ml[i]=0)∧al ej H)
  (fun(j:Nat)=>ml.length-j) 0 ⟨o,o,o,o,o,trivial⟩ ?_ ?_
 ·
  exact⟨J,(fun i h=>by omega),aa.refl _ _⟩
 intro j aZ ev fk ey b1;obtain⟨gg,a7,K⟩:=ev;obtain⟨aL,hm,A,n,_⟩:=ed K aL hm A n;refine I.O (fun ez=>?_);refine G.v1 bZ (G.nil (ez ?_));refine I.t2 (fun eB eC=>?_);refine a8 (fun eE=>?_) (fun eE=>?_)
 ·
  refine I.skip (eB (I.t2 (fun eG eI=>I.aC (fun cR _ be=>I.O (fun dM=>?_)))));refine G.af ?_;have P:j<ml.length:=by omega
  obtain⟨y,O⟩:∃q,q=ml[j]:=⟨_,o⟩;have ai:y∈ml:=by rw[O];exact cU P
  have gl:=b4 y ai;refine G.cn (Y.cg hm j o e7 eS o o) fun fH dN=>?_;refine G.v1 (Y.cast (v2:= .agg (dL y).toArray) (ba dN.W kG eS (fq _)) (by rw[O])) ?_;refine G.aU (Z.a7 o8) ?_;rintro gm fi ⟨rfl,Q,eJ,_⟩;have bi:=ax.new (aJ.mono n.size);have dP:=ax.new (bL.mono n.size);have aC:=ak.new A.le;have dS:=ae.new n.size;have dU:=ae.new K.size;obtain⟨aL,hm,A,n,K,_⟩:=dH eJ aL hm A n K;refine G.bB ?_;refine G.s1 (et Q _ (dL y) (l2 y) eS (fq _) ((dD (fq _).symm))) ?_;rintro bV ⟨Q,cB⟩;obtain⟨aL,hm,A,n,K,_⟩:=g_ cB aL bi hm dP A aC n dS K dU;refine G.nil (dM (I.t1 (fun dV=>?_)));refine eA (fun M=>al bV M) [] ?_;have C:=al.refl bV;refine U.aV 0 dc b3 C ?_;refine U.t1 1 o (fun M B=>bf (Q.W.aR B) cd) C ?_;refine U.af 3 o C ?_;refine U.af 4 o C ?_;refine U.e (g:=fun v=>v) 5 bD o bD bD bD (Y.slice hm (0) j o e7 eS o (.inl ⟨o,o⟩) (.inr ⟨_,_,_,o,o,by first|rfl|omega⟩) J J) cS o o C (fun fw aS=>?_);rw[nh]at aS;refine U.t1 6 o (fun M B=>Y.makeFunc o o) C ?_;refine U.af 10 o C ?_;refine U.aV 11 dc b3 C ?_;refine U.t1 12 o (fun M B=>bf (Q.W.aR B) cd) C ?_;refine U.t1 13 o (fun M B=>Y.cast (v2:=bM (jJ (bX s.bm) y.n)) (Y.lookup (z0:=bJ) (A.aR B).fX gx o oi Tryz.underlying9 o7 o o) (by rw[jJ,←b6])) C ?_;refine U.aV 14 dc bx C ?_;refine U.t1 15 o (fun M B=>Y.cast (v2:=bM y.T) (ba (((Q.W.drop 1).aR B).take 32) cZ bx (by rw[jd];exact bI _)) (c4 (jd _))) C ?_;refine U.t1 16 o (fun M B=>Y.mA o Tryz.eqGuardType26 (fun w=>i_ 9998 Tryz.underlying26 Tryz.underlying5 dK fE ((jJ (bX s.bm) y.n).2) y.T.2 w) o o) C ?_;refine U.aV 18 dc bx C ?_;refine U.t1 19 o (fun M B=>Y.cast (v2:=bM y.w) (ba (((Q.W.drop 33).aR B).take 32) cZ bx (by rw[gB];exact bI _)) (c4 (gB _))) C ?_;refine U.aV 20 dc bx C ?_;refine U.t1 21 o (fun M B=>Y.cast (v2:=bM y.T) (ba (((Q.W.drop 1).aR B).take 32) cZ bx (by rw[jd];exact bI _)) (c4 (jd _))) C ?_;refine U.t1 22 o (fun M B=>Y.oE o Tryz.eqGuardType26 (fun w=>i_ 9998 Tryz.underlying26 Tryz.underlying5 dK fE y.w.2 y.T.2 w) o o) C ?_;refine U.bg 2 ?_;refine cP uZ (u4 y.n bC w0 _ aL (aJ.mono J) J) ?_;rintro fx eF ⟨rfl,bW⟩;obtain⟨Q,aS,n,K,_⟩:=ed bW Q aS n K;have b9:=C.O bW;refine U.dx b9 ?_;have b_:=al.refl eF;refine U.bg 7 ?_;refine cP HX (Jv _ _ (ml.take j) (fun x=>decide (x.n=y.n)) w0 _ aS.any (fun x V aB _=>im.of (caps:=[.pointer (some ⟨aZ.size,0,none⟩)]) HY (LQ x _ y w0 V (Q.aR aB)))) ?_;rintro eK ci ⟨rfl,bl⟩;obtain⟨n,K,_⟩:=bO bl n K;have ca:=b_.O bl;refine U.dx ca ?_;have bP:=al.refl ci;refine U.t1 8 o (fun M B=>fB) bP ?_;refine U.bg 9 ?_;refine cP jA (zQ (!((ml.take j).any (fun x=>decide (x.n=y.n)))) 18 w0 _) ?_;rintro fy eY ⟨rfl,bm⟩;obtain⟨n,K,_⟩:=bO bm n K;have cb:=bP.O bm;refine U.dx cb ?_;have cg:=al.refl eY;refine U.bg 17 ?_;refine e_.call o o jA o cS o o (j7 (decide (jJ (bX s.bm) y.n=y.T)) 21 (decide_eq_decide.2 ⟨fun h=>hr h,fun h=>by rw[h]⟩) w0 _) ?_;rintro fz eZ ⟨rfl,bn⟩;obtain⟨n,K,dG⟩:=bO bn n K;have ch:=cg.O bn;refine U.dx ch ?_;have ck:=al.refl eZ;refine U.bg 23 ?_;refine e_.call o o jA o cS o o (j7 (decide (¬y.w=y.T)) 26 (decide_eq_decide.2 ⟨fun h e=>h (by rw[e]),fun h e=>h (hr e)⟩) w0 _) ?_;rintro fD e0 ⟨rfl,bq⟩;obtain⟨n,K,_⟩:=bO bq n K;have cl:=ck.O bq;refine U.dx cl ?_;have cm:=al.refl e0;refine U.bg 24 ?_;refine fC o (Z.c2 (dE _ ([ea y.n,ew (!((ml.take j).any (fun x=>decide (x.n=y.n)))) 18,ew (decide (jJ (bX s.bm) y.n=y.T)) 21,ew (decide (¬y.w=y.T)) 26]) nR m9 m_)) ?_;rintro c5 e1 ⟨dY,bt,_⟩;obtain⟨n,K,_⟩:=bO bt n K;have cn:=cm.O bt;refine U.dx cn ?_;have cp:=al.refl e1;refine U.bg 25 ?_;refine cP nK (n8 _ [ea y.n,ew (!((ml.take j).any (fun x=>decide (x.n=y.n)))) 18,ew (decide (jJ (bX s.bm) y.n=y.T)) 21,ew (decide (¬y.w=y.T)) 26] w0 _ dY.rd.any) ?_;rintro fF co ⟨rfl,bw⟩;obtain⟨n,K,_⟩:=bO bw n K;rw[LR];have cr:=cp.O bw;refine U.dx cr ?_;have bS:=al.refl co;refine U.t1 26 o (fun M B=>gp) bS ?_;refine dB ?_;have ff:=bS;refine dV (I.O (fun dZ=>?_));refine G.af ?_;refine G.v1 dX (G.nil (dZ ?_));refine a8 (fun a9=>?_) (fun a9=>?_)
  ·
   refine I.O (fun d_=>?_);refine G.aZ 2 ?_;refine d_ ?_;refine I.ret (be (eI (b1 (eu (eo (aR ?_))))));exact⟨by have B:=zo (ml:=ml) (l:=(bX s.bm)) (pre:=[]) (j:=j) P (fun i h=>by rw[hq];exact a7 i h J) (by rw[hq,←O];exact a9);rw[hq,←O]at B;rw[gY,aM (by rw[B];exact a9),B],n⟩
  ·
   refine I.skip (cR (eG (I.region ?_)));refine G.v1 bN ?_;refine G.af (G.nil ?_);refine aT.sub (ey (j+1) _ ?_ ?_) ⟨o,o,o,(aF J),(aF J),trivial⟩
   ·exact⟨J,(fun i h ab=>by rcases rW i j with X|X;exact a7 i X ab;obtain rfl:i=j:=J;rw[←O];simpa using a9),K⟩
   ·first|omega|(simp only;omega)|(simp;omega)
 ·
  obtain rfl:j=ml.length:=by omega
  have aG:j3 (bX s.bm) [] ml=0:=zp (fun i bb=>by rw[hq];exact a7 i bb bb);have fg:=Gk fc aG;have fa:=(Eu aG).1;refine I.exit (eC (b1 (er ?_)));refine ek (I.t1 (fun br=>I.O (fun bK=>?_)));refine G.af ?_;refine G.v1 (bu hm e7) ?_;refine G.af (G.nil (bK ?_));refine I.aC (fun _ eb _=>?_)
  refine I.bb (fun(bd:Nat×(List (List UInt8×dv)))=>match bd with|(i,af)=>[(1,v),(5,.map (some bE)),(53,v),(54,.int .i64 (ml.length:Int)),(55,.int .i64 (i:Int))])
   (fun(i,af) (H:Heap)=>(i≤ml.length)∧cW H aN bM bE af∧(∀q,aH af q=aH ((ml.take i).foldl eV (bX s.bm)) q)∧aa (ay [(bE+1)]) aZ H)
   (fun(i,af)=>ml.length-i) (0,o4 s.bm) ⟨o,o,o,o,o,trivial⟩ ?_ ?_
  ·
   exact⟨J,A,b6,aa.refl _ _⟩
  rintro⟨i,af⟩ b2 eM fG ec ee;obtain⟨bb,A,B,R⟩:=eM;obtain⟨aL,hm,n,_⟩:=dQ R aL aX hm b0 n aP;have cx:=ae.refl (bE+1) aZ.size;refine I.O (fun eg=>?_);refine G.v1 bZ (G.nil (eg ?_));refine I.t2 (fun cX cY=>?_);refine a8 (fun eN=>?_) (fun eN=>?_)
  ·
   refine I.skip (cX (I.t1 (fun c2=>I.aC (fun c3 _ _=>I.O (fun c6=>?_)))));have P:i<ml.length:=by omega
   obtain⟨y,O⟩:∃q,q=ml[i]:=⟨_,o⟩;have ai:y∈ml:=by rw[O];exact cU P
   refine G.cn (Y.cg hm i o e7 eS o o) fun fI c8=>?_;refine G.v1 (Y.cast (v2:= .agg (dL y).toArray) (ba c8.W kG eS (fq _)) (by rw[O])) ?_;refine G.aU (Z.a7 o8) ?_;rintro fL fQ ⟨rfl,bj,c9,_⟩;have da:=ak.new A.le;have db:=ae.new R.size;obtain⟨A,R,_⟩:=bO c9 A R;refine G.s1 (et bj _ (dL y) (l2 y) eS (fq _) ((dD (fq _).symm))) ?_;rintro fM ⟨bj,am⟩;obtain⟨A,R,_⟩:=dW am A da R (an.q db);refine G.nil (c6 (I.region ?_));refine G.af ?_;refine G.v1 (ba bj.W kG eS (fq _)) ?_;refine aW B7 (Ek bE af y w0 _ A) ?_;rintro bo eH ⟨rfl,A,de⟩;obtain⟨R,_⟩:=c0 de R (an.r cx);refine G.nil (c3 (c2 (I.region ?_)));refine G.v1 bN ?_;refine G.af (G.nil ?_);refine aT.sub (ec (i+1,mR af y) _ ?_ ?_) ⟨o,o,o,(aF J),(aF J),trivial⟩
   ·exact⟨J,A,(fun q=>by rw[nc P,←O,zg,tD (nd fu),B]),R⟩
   ·first|omega|(simp only;omega)|(simp;omega)
  ·
   obtain rfl:i=ml.length:=by omega
   rw[eD]at B;have gk:=ze A.fX.nodup (nd fu).nodup B;refine I.exit (cY (ee (eb ?_)));refine br (I.t2 (fun df dg=>I.O (fun dh=>?_)));refine G.af ?_;refine G.v1 (Y.Ee A.fX o oi o) ?_;refine G.v1 fA (G.nil (dh ?_));refine a8 (fun eO=>?_) (fun eO=>?_)
   ·
    refine I.O (fun di=>?_);refine G.aj ?_;refine di ?_;refine I.ret (dg (aR ?_));exact⟨by rw[gY,aA (by rw[aG];decide),aM J],n⟩
   ·
    have gb:(ml.foldl eV (bX s.bm)).length≤200:=by omega
    refine I.skip (df (I.t2 (fun dj dk=>I.O (fun dm=>?_))));refine G.af ?_;refine G.v1 (bu hm e7) ?_;refine G.af (G.nil (dm ?_));refine I.aC (fun _ dp dq=>?_)
    refine I.bb (fun(bd:Nat×(List (List UInt8×dv)))=>match bd with|(i3,W)=>[(5,.map (some bE)),(66,v),(67,.int .i64 (ml.length:Int)),(68,.int .i64 (i3:Int))])
     (fun(i3,W) (H:Heap)=>(i3≤ml.length)∧cW H aN bM bE W∧(∀q,aH W q=aH (ml.foldl eV (bX s.bm)) q)∧(∀m∈ml.take i3,jK (ml.foldl eV (bX s.bm)) m=false)∧aa (ay [(bE+1)]) b2 H)
     (fun(i3,W)=>ml.length-i3) (0,af) ⟨o,o,o,o,trivial⟩ ?_ ?_
    ·
     exact⟨J,A,B,(fun m h=>by simp at h),aa.refl _ _⟩
    rintro⟨i3,W⟩ dd eP fR aV bz;obtain⟨gf,A,ar,X,E⟩:=eP;obtain⟨aL,hm,n,_⟩:=dQ E aL aX hm b0 n aP;have ac:=ae.refl (bE+1) b2.size;refine I.O (fun dt=>?_);refine G.v1 bZ (G.nil (dt ?_));refine I.t2 (fun du dx=>?_);refine a8 (fun eQ=>?_) (fun eQ=>?_)
    ·
     refine I.skip (du (I.t2 (fun ap dy=>I.aC (fun dz bA dC=>I.O (fun dF=>?_)))));have P:i3<ml.length:=by omega
     obtain⟨y,O⟩:∃q,q=ml[i3]:=⟨_,o⟩;have ai:y∈ml:=by rw[O];exact cU P
     refine G.cn (Y.cg hm i3 o e7 eS o o) fun fJ cC=>?_;refine G.v1 (Y.cast (v2:= .agg (dL y).toArray) (ba cC.W kG eS (fq _)) (by rw[O])) ?_;refine G.aU (Z.a7 o8) ?_;rintro h9 fS ⟨rfl,L,cD,_⟩;have cF:=ax.new (aJ.mono n.size);have bB:=ak.new A.le;have cG:=ae.new n.size;have cH:=ae.new E.size;obtain⟨aL,A,n,E,_⟩:=ed cD aL A n E;refine G.s1 (et L _ (dL y) (l2 y) eS (fq _) ((dD (fq _).symm))) ?_;rintro fN ⟨L,cy⟩;obtain⟨aL,A,n,E,_⟩:=dT cy aL cF A bB n cG E (an.q cH);refine G.nil (dF (I.t2 (fun cI bF=>I.O (fun bG=>?_))));refine G.aV dc bx ?_;refine G.v1 (Y.cast (v2:=bM y.T) (ba ((L.W.drop 1).take 32) cZ bx (by rw[jd];exact bI _)) (c4 (jd _))) ?_;refine aW nL (n_ y.T w0 _) ?_;rintro fT fU ⟨rfl,cK⟩;obtain⟨aL,A,L,n,E,_⟩:=dH cK aL A L n E;refine G.v1 (Y.kp o o) ?_;refine G.af ?_;refine G.bL (d:=76) o (fun cs=>?_) (fun cs=>?_)
     ·
      refine G.av 4 ?_;refine G.nil (bG ?_);refine I.kc o ?_;refine I.exit (bF (bA ?_));refine ap (I.region ?_);refine G.v1 bN ?_;refine G.af (G.nil ?_);refine aT.sub (aV (i3+1,W) _ ?_ ?_) ⟨o,o,(aF J),(aF J),trivial⟩
      ·exact⟨J,A,ar,qf X P (by rw[←O];unfold jK;rw[cL (by first|exact aO|(intro h;simp_all))];rfl),E⟩
      ·first|omega|(simp only;omega)|(simp;omega)
     ·
      refine G.hl dc bx ?_;refine G.aG (Y.cast (v2:=bM y.w) (ba ((L.W.drop 33).take 32) cZ bx (by rw[gB];exact bI _)) (c4 (gB _))) ?_;refine G.call o nL o bR o o (n_ y.w w0 _) ?_;rintro fW fX ⟨rfl,cO⟩;obtain⟨aL,A,L,n,E,_⟩:=dH cO aL A L n E;refine G.eh ?_;refine G.nil (bG ?_);refine a8 (fun eR=>?_) (fun eR=>?_)
      ·
       have aO:¬(y.T=bJ∧y.w≠bJ):=by first|(intro h;simp_all)
       refine I.exit (bF (bA ?_));refine ap (I.region ?_);refine G.v1 bN ?_;refine G.af (G.nil ?_);refine aT.sub (aV (i3+1,W) _ ?_ ?_) ⟨o,o,(aF J),(aF J),trivial⟩
       ·exact⟨J,A,ar,qf X P (by rw[←O];unfold jK;rw[cL (by first|exact aO|(intro h;simp_all))];rfl),E⟩
       ·first|omega|(simp only;omega)|(simp;omega)
      ·
       have aO:y.T=bJ∧y.w≠bJ:=by first|exact⟨by simpa using cs,by assumption⟩|(constructor<;>simp_all)
       refine I.skip (cI (I.O (fun cQ=>?_)));refine G.af ?_;refine G.a6 L.W dc b3 cd ?_;refine G.xd (Z.u9 A gx o oi Tryz.underlying9 o o) cS o ?_;rintro fO bT ⟨rfl,A,cz⟩;obtain⟨aL,L,n,E,_⟩:=dT cz aL aX L bB.symm n aP E (an.r ac);refine G.nil (cQ (I.t1 (fun cV=>?_)));refine eA (fun M=>al bT M) [] ?_;have C:=al.refl bT;refine U.aV 0 dc b3 C ?_;refine U.t1 1 o (fun M B=>bf (L.W.aR B) cd) C ?_;refine U.af 2 o C ?_;refine U.bg 3 ?_;refine cP B8 (DH bE w0 _) ?_;rintro dl bQ ⟨ef,rfl,aD,gh,bH⟩;obtain⟨aL,A,L,n,E,_⟩:=dH bH aL A L n E;have fo:=aD.le;have ct:=C.O bH;refine U.dx ct ?_;have cv:=al.refl bQ;refine U.bg 4 ?_;have gi:=ze A.fX.nodup (show((e4 (ml.foldl eV (bX s.bm)) y.n).map (·.1)).Nodup from(yv (nd fu) _).nodup) (fun q=>by rw[lH,lH,ar]);have gd:(e4 (ml.foldl eV (bX s.bm)) y.n).length≤(ml.foldl eV (bX s.bm)).length:=r9 _ _;refine cP uS (Cl ef bE bM (e4 W y.n) w0 _ aD A J) ?_;rintro cJ fl ⟨dn,f_,bc,rfl,a0,fK,b5,a2⟩;obtain⟨aL,A,L,aD,n,E,_⟩:=fY a2 aL A L aD n E;have a3:=a0.le;obtain⟨e8,e9⟩:=Kd ar b5.2;have fh:=sh aG y ai;have a_:k5 y.n bc=if jK (ml.foldl eV (bX s.bm)) y=true then 13 else 0:=by rw[Da fh e9,e8];unfold jK;rw[cT aO,vI]
       have fe:∀x∈bc,x.length≤140737488355328:=fun x aD=>by
        have aK:=(b5.2 x).1 aD;rw[←gF,lH]at aK;split at aK
        ·cases aK
        ·rw[ar,gF]at aK
         obtain⟨z,dG,rfl⟩:=cN.1 aK;have:=fg z dG;omega
       have a4:=cv.O a2;refine U.dx a4 ?_;have a5:=al.refl fl;refine U.bg 5 ?_;refine cP HZ (Ke y.n _ bc bC w0 _ aL (aJ.mono J) a0.rd.any (b4 y ai) fe) ?_;rintro ga e2 ⟨rfl,bk⟩;obtain⟨A,L,n,E,_⟩:=ed bk A L n E;have b8:=a5.O bk;refine U.dx b8 ?_;have bU:=al.refl e2;refine U.t1 6 o (fun M B=>gp) bU ?_;refine dB ?_;have ff:=bU;refine cV (I.O (fun eT=>?_));refine G.af ?_;refine G.a6 L.W dc b3 cd ?_;refine G.aV dc bx ?_;refine G.v1 (Y.cast (v2:=bM y.w) (ba ((L.W.drop 33).take 32) cZ bx (by rw[gB];exact bI _)) (c4 (gB _))) ?_;refine G.s1 (S.oZ y.w A gx o oi Tryz.underlying9 o o o) ?_;rintro fP ⟨A,cA⟩;obtain⟨n,E,_⟩:=dW cA n aP E (an.r ac);refine G.nil (eT (I.O (fun eU=>?_)));refine G.af ?_;refine G.v1 dX (G.nil (eU ?_));refine a8 (fun a6=>?_) (fun a6=>?_)
       ·
        refine I.O (fun eW=>?_);refine G.aZ 2 ?_;refine eW ?_;refine I.ret (dC (dy (bz (dq (dk (aR ?_))))));exact⟨by have av:jK (ml.foldl eV (bX s.bm)) y=true:=(by cases av:jK (ml.foldl eV (bX s.bm)) y with|true=>rfl|false=>exact absurd (by rw[a_,av];rfl) a6);rw[gY,aA (by rw[aG];decide),aA J,C9 ai av,a_,aM av],n⟩
       ·
        refine I.skip (dz (ap (I.region ?_)));refine G.v1 bN ?_;refine G.af (G.nil ?_);refine aT.sub (aV (i3+1,hk (e4 W y.n) y.n y.w) _ ?_ ?_) ⟨o,o,(aF J),(aF J),trivial⟩
        ·exact⟨J,A,(fun q=>by
          rw[nn,lH];by_cases aQ:q=y.n
          ·rw[aM aQ,aQ,Er fu fa ai,aA aO.2]
          ·rw[aA aQ,aA aQ,ar]),qf X P (by rw[←O];cases av:jK (ml.foldl eV (bX s.bm)) y with|false=>rfl|true=>exact absurd (by rw[a_,av];decide) a6),E⟩
        ·first|omega|(simp only;omega)|(simp;omega)
    ·
     refine I.exit (dx (bz (dp ?_)));refine dj (I.O (fun ce=>?_));refine G.aj ?_;refine ce ?_;refine I.ret (aR ?_);exact⟨by obtain rfl:i3=ml.length:=J;rw[eD]at X;rw[gY,aA (by rw[aG];decide),aA J,C_ X],n⟩
end uw
namespace pd
open gV pc lq e2 ow hn lu rf uw
theorem DG{l:List bU}{m:List (dv×Int)}{P:dv→Prop}{j:Nat}{n:Int}(h:∀k,(aH m k).isSome=true↔P k∨∃x∈l.take j,x.k=k)(A:j<l.length):∀k,(aH (hk m l[j].k n) k).isSome=true↔P k∨∃x∈l.take (j+1),x.k=k:=by
 intro k;rw[nn,eP A];by_cases q:k=l[j].k
 ·rw[aM q]
  exact⟨fun _=> .inr ⟨l[j],List.mem_append_right _ (eU.2 o),q.symm⟩,fun _=>rfl⟩
 ·rw[aA q,h]
  constructor
  ·rintro(r|⟨x,d,e⟩)
   ·exact .inl r
   ·exact .inr ⟨x,yY _ d,e⟩
  ·rintro(r|⟨x,d,e⟩)
   ·exact .inl r
   ·rcases gG.1 d with d|d
    ·exact .inr ⟨x,d,e⟩
    ·rw[eU.1 d]at e;exact absurd e.symm q
def gv(a b:Int):Int:=if a≠0 then a else b
theorem vm(a b:Int):jY [a,b]=gv a b:=by
 unfold gv;by_cases h:a≠0
 ·simp[jY,h]
 ·have h:a=0:=by simpa using h
  subst h;by_cases ab:b=0<;>simp[jY,ab]
theorem yu(a b c:Int):gv (gv a b) c=gv a (gv b c):=by
 unfold gv;by_cases h:a≠0
 ·rw[aM h,aM h,aM h]
 ·rw[aA h,aA h]
theorem Cj(s:d_)(t:bS):eL s t=gv (gv (gv (gv (fH t) (gD t)) (gY s.cv t.ml)) (hv t)) (ko s.iw t.el):=by
 rw[yu,yu,yu];rfl
theorem yA{t:bS}{a:Int}(d:t.bz=true)(ab:t.ah≠[]):some (Value.int .i64 (gv a (ea t.ah)))=some (Value.int .i64 (gv a (gD t))):=by unfold gD;rw[aM ⟨d,ab⟩]
theorem Dh(a:Int):gv a 0=a:=by unfold gv;by_cases h:a≠0<;>simp_all
theorem rS{t:bS}{a:Int}(h:t.bz=false∨t.ah=[]):some (Value.int .i64 a)=some (Value.int .i64 (gv a (gD t))):=by
 unfold gD;rw[aA,Dh];rintro⟨d,ab⟩;rcases h with h|h
 ·rw[h]at d;cases d
 ·exact ab h
theorem FM{t:bS}{a:Int}(d:t.ag=true):some (Value.int .i64 (gv a (if t.q.k≠0 then iE t.q else 0)))=some (Value.int .i64 (gv a (hv t))):=by unfold hv;simp[d]
theorem FL{t:bS}{a:Int}(d:t.ag=false):some (Value.int .i64 a)=some (Value.int .i64 (gv a (hv t))):=by unfold hv;simp[d,Dh]
theorem wm(t:bS):ew (decide (fH t=0)) 1=fH t:=by
 unfold ew fH;split<;>simp_all
theorem mS{t:bS}(h:t.bz=true∨t.ag=true∨0<t.ml.length∨0<t.el.length):true=decide (fH t=0):=by
 refine(cT ?_).symm;unfold fH;rw[aA];rintro⟨d,ab,j,n⟩;rw[d,ab,j,n]at h;simp at h
theorem wk{t:bS}(j:t.bz=false)(ab:t.ag=false)(d:¬0<t.ml.length):decide ((t.el.length:Int)>0)=decide (fH t=0):=by
 unfold fH;have d:t.ml=[]:=DC.1 J
 cases n:t.el with
 |nil=>simp[j,ab,d]
 |cons a l=>simp[j,ab,d]
theorem F8:∀{l:List hf},ja l=0→∀t∈l,1≤t.d∧t.d≤3
 |[],_,t,h=>by cases h
 |a::l,h,t,d=>by
  rw[ja]at h;by_cases e:jv a≠0
  ·rw[aM e]at h;exact absurd h e
  ·rw[aA e]at h
   rcases dU.1 d with rfl|d
   ·apply k9
    intro j;unfold jv at e;rw[aM j]at e;exact e bc
   ·exact F8 h t d
theorem CR{x:dj}(h:iE x=0):ra x∧(x.k=1∨x.k=2):=by
 unfold iE at h;split at h
 ·cases h
 rename_i d;split at h
 ·cases h
 rename_i ab;split at h
 ·cases h
 rename_i j;split at h
 ·cases h
 rename_i B;have n:jW x=true:=by cases e:jW x with|true=>rfl|false=>exact absurd e j
 obtain⟨_,_,a3,a4,a5,A,_⟩:=ki n;have ao:=((qq x.br).1 (by simpa using ab)).1;have q:x.k=1∨x.k=2:=nj.1 d;exact⟨⟨by omega,by omega,by omega,by omega,by omega,fun t r=>by have:=F8 h t r;omega⟩,q⟩
structure oy (t:bS):Prop where
 ml:t.ml.length≤65535
 el:t.el.length≤65535
 L4:∀m∈t.ml,m.y.length≤65535
 kT:∀m∈t.ml,m.n.length≤140737488355328
 ah:t.ah.length≤140737488355328
 br:t.q.br.length≤140737488355328
 bj:t.q.bj.length≤1048576
 pM:(cK t).length≤1048576
theorem vg{s:d_}{t:bS}(h:oy t)(c:eL s t=0):nA t:=by
 have c:=u1 c;refine⟨h.ml,h.el,fun bz=>?_,fun m hm=>⟨?_,h.L4 m hm⟩,fun m hm=>?_,fun ag=>?_,fun ag j=>?_⟩
 ·have d:=c.ah
  unfold gD at d;by_cases ab:t.ah=[]
  ·rw[ab];simp
  ·rw[aM ⟨bz,ab⟩]at d
   have:=((qq t.ah).1 d).1;omega
 ·have:=((qq m.n).1 (sh c.dI m hm)).1;omega
 ·have d:=tB c.iw m hm
  unfold ix at d;split at d
  ·cases d
  ·split at d
   ·cases d
   ·omega
 ·have d:=c.jN
  unfold hv at d;by_cases ab:t.q.k=0
  ·omega
  ·rw[aM ⟨ag,ab⟩]at d
   have:=(CR d).2;omega
 ·have d:=c.jN
  unfold hv at d;rw[aM ⟨ag,j⟩]at d;exact(CR d).1
theorem LF(s:dR)(v:Value)(el:List bU)(F:Nat→Prop)(w0:World)(N:Heap)
 (ag:fr F N s)(ck:bp F N.size)(he:b7 N cb 33 v el)(ah:∀y∈el,b7 N bd 1 y.v.v y.d)(fu:ei (da s.el)):
 aE Tryz.prog w0 51 #[fZ s,v] N (fun r C=>r= .int .i64 (ko (da s.el) el)∧al N C):=by
 refine aE.aP [fZ s,v] Tryz.func51 ?_;intro cG aW;have d:al N N:=aa.refl _ _;have he:=he.ch;have bP:=he.cD;have ah:=fun y cA=>(ah y cA).ch;have aG:bp (fun b=>True∧b<N.size) N.size:=fun b h=>h.2;have dc:=he.len;have dh:=ag.e.len;refine I.O (fun bK=>?_);refine G.aU Z.bv ?_;rintro v2 C ⟨rfl,Q,ct,_⟩;obtain⟨ag,he,ah,d,_⟩:=ed ct ag he ah d;have Q:Var 47 C N.size (cc s):=Q;refine G.aj ?_;refine bK (I.O (fun cv=>?_));refine G.aU (Z.ey (Z.qL bM (Value.int .i64) o)) ?_;rintro cQ aQ ⟨rfl,av,bg,_⟩;have cw:=ax.new (ck.mono d.size);have bi:=ax.new (bP.mono d.size);have aR:=ax.new (aG.mono d.size);have aC:=ae.new d.size;obtain⟨ag,he,ah,Q,d,_⟩:=dH bg ag he ah Q d;have cH:=av.lt;refine G.aj ?_;refine cv (I.t1 (fun cx=>I.O (fun cy=>?_)));refine G.aX Q.W.lk c8 eN fD ?_;refine G.v1 (bu ag.e dy) ?_;refine G.af (G.nil (cy ?_));refine I.aC (fun _ bW _=>?_)
 refine I.bb (fun(ai:Nat×(List (dv×Int)))=>match ai with|(j,af)=>[(1,v),(5,.map (some C.size)),(13,s.cG.v),(14,.int .i64 (s.el.length:Int)),(15,.int .i64 (j:Int))])
  (fun(j,af) (H:Heap)=>(j≤s.el.length)∧cW H bM (Value.int .i64) C.size af∧(∀k,(aH af k).isSome=true↔False∨∃x∈s.el.take j,x.k=k)∧aa (ay [(C.size+1)]) aQ H)
  (fun(j,af)=>s.el.length-j) (0,[]) ⟨o,o,o,o,o,trivial⟩ ?_ ?_
 ·
  exact⟨J,av,(fun k=>by simp[aH]),aa.refl _ _⟩
 rintro⟨j,af⟩ aS bX cF bY b0;obtain⟨df,av,X,K⟩:=bX;obtain⟨ag,he,ah,d,_⟩:=dT K ag cw he bi ah aR d aC;have ac:=ae.refl (C.size+1) aQ.size;refine I.O (fun b1=>?_);refine G.v1 bZ (G.nil (b1 ?_));refine I.t2 (fun b2 b3=>?_);refine a8 (fun b4=>?_) (fun b4=>?_)
 ·
  refine I.skip (b2 (I.t1 (fun b5=>I.aC (fun bj _ _=>I.O (fun bk=>?_)))));refine G.af ?_;have M:j<s.el.length:=by omega
  obtain⟨y,E⟩:∃q,q=s.el[j]:=⟨_,o⟩;have aV:y∈s.el:=by rw[E];exact cU M
  refine G.cn (Y.cg ag.e j o dy db o o) fun cJ bl=>?_;refine G.v1 (Y.cast (v2:= .agg (cb y).toArray) (ba bl.W kH db (eb _)) (by rw[E])) ?_;refine G.aU (Z.a7 oo) ?_;rintro di cC ⟨rfl,ar,b8,_⟩;have bm:=ak.new av.lt;have bn:=ae.new K.size;obtain⟨av,K,_⟩:=bO b8 av K;refine G.bB ?_;refine G.s1 (et ar _ (cb y) (iQ y) db (eb _) ((dD (eb _).symm))) ?_;rintro cK ⟨ar,bQ⟩;obtain⟨av,K,_⟩:=dW bQ av bm K (an.q bn);refine G.nil (bk (I.region ?_));refine G.af ?_;refine G.aV gU bx ?_;refine G.v1 (Y.cast (v2:=bM y.k) (ba (ar.W.take 32) cZ bx (by rw[show(cb y).take 32=b9 y.k from gS y];exact bI _)) (c4 (show(cb y).take 32=b9 y.k from gS y))) ?_;refine G.af ?_;refine G.s1 (S.E2 ((j:Int)) av DF o Aq o o o) ?_;rintro cN ⟨av,az⟩;obtain⟨K,_⟩:=c0 az K (an.r ac);refine G.nil (bj (b5 (I.region ?_)));refine G.v1 bN ?_;refine G.af (G.nil ?_);refine aT.sub (bY (j+1,hk af y.k (j:Int)) _ ?_ ?_) ⟨o,o,o,(aF J),(aF J),trivial⟩
  ·exact⟨J,av,(by rw[E];exact DG X M),K⟩
  ·first|omega|(simp only;omega)|(simp;omega)
 ·
  obtain rfl:j=s.el.length:=by omega
  rw[eD]at X;refine I.exit (b3 (b0 (bW ?_)));refine cx (I.t2 (fun bo bq=>I.O (fun bt=>?_)));refine G.af ?_;refine G.v1 (bu he dy) ?_;refine G.af (G.nil (bt ?_));refine I.aC (fun _ bw bz=>?_)
  refine I.bb (fun(ai:Nat×(List (dv×Int)))=>match ai with|(i,P)=>[(5,.map (some C.size)),(25,v),(26,.int .i64 (el.length:Int)),(27,.int .i64 (i:Int))])
   (fun(i,P) (H:Heap)=>(i≤el.length)∧cW H bM (Value.int .i64) C.size P∧(∀k,(aH P k).isSome=true↔(∃x∈s.el,x.k=k)∨∃x∈el.take i,x.k=k)∧(∀x∈el.take i,ix x=0)∧aa (ay [(C.size+1)]) aS H)
   (fun(i,P)=>el.length-i) (0,af) ⟨o,o,o,o,trivial⟩ ?_ ?_
  ·
   exact⟨J,av,(fun k=>by rw[X];simp),(fun x h=>by simp at h),aa.refl _ _⟩
  rintro⟨i,P⟩ cV b_ cX bA am;obtain⟨de,av,W,V,n⟩:=b_;obtain⟨he,ah,d,_⟩:=dQ n he bi ah aR d aC;have bH:=ae.refl (C.size+1) aS.size;refine I.O (fun bB=>?_);refine G.v1 bZ (G.nil (bB ?_));refine I.t2 (fun bC bD=>?_);refine a8 (fun ca=>?_) (fun ca=>?_)
  ·
   refine I.skip (bC (I.t2 (fun bE bF=>I.aC (fun a0 _ a2=>I.O (fun a3=>?_)))));refine G.af ?_;have M:i<el.length:=by omega
   obtain⟨y,E⟩:∃q,q=el[i]:=⟨_,o⟩;have aV:y∈el:=by rw[E];exact cU M
   refine G.cn (Y.cg he i o dy db o o) fun cO a4=>?_;refine G.v1 (Y.cast (v2:= .agg (cb y).toArray) (ba a4.W kH db (eb _)) (by rw[E])) ?_;refine G.aU (Z.a7 oo) ?_;rintro v9 cD ⟨rfl,A,cd,_⟩;have a5:=ax.new (aG.mono d.size);have aX:=ak.new av.lt;have aZ:=ae.new d.size;have a6:=ae.new n.size;obtain⟨ah,av,d,n,_⟩:=ed cd ah av d n;refine G.bB ?_;refine G.s1 (et A _ (cb y) (iQ y) db (eb _) ((dD (eb _).symm))) ?_;rintro aL ⟨A,ap⟩;obtain⟨ah,av,d,n,_⟩:=dT ap ah a5 av aX d aZ n (an.q a6);refine G.nil (a3 (I.t2 (fun a9 bG=>I.t1 (fun cf=>?_))));refine eA (fun L=>al aL L) [] ?_;have O:=al.refl aL;refine U.aV 0 gU bx O ?_;refine U.t1 1 o (fun L B=>Y.cast (v2:=bM y.k) (ba ((A.W.aR B).take 32) cZ bx (by rw[show(cb y).take 32=b9 y.k from gS y];exact bI _)) (c4 (show(cb y).take 32=b9 y.k from gS y))) O ?_;refine U.aV 5 gU dt O ?_;refine U.t1 6 o (fun L B=>bf (A.W.mP.aR B) fe) O ?_;refine U.t1 7 o (fun L B=>bu ((ah y aV).aR B) dV) O ?_;refine U.t1 8 o (fun L B=>fK) O ?_;refine U.bg 2 ?_;refine cP nL (n_ y.k w0 _) ?_;rintro cY cm ⟨rfl,aN⟩;obtain⟨av,A,d,n,_⟩:=ed aN av A d n;have bR:=O.O aN;refine U.dx bR ?_;have aJ:=al.refl cm;refine U.t1 3 o (fun L B=>Y.kp o o) aJ ?_;refine U.bg 4 ?_;refine cP jA (j7 (decide (¬y.k=bJ)) 1 o w0 _) ?_;rintro c2 cn ⟨rfl,aO⟩;obtain⟨av,A,d,n,_⟩:=ed aO av A d n;have bS:=aJ.O aO;refine U.dx bS ?_;have bT:=al.refl cn;refine U.bg 9 ?_;refine e_.call o o jA o cS o o (j7 (decide (y.d.length≤65536)) 5 (by first|(exact(cT J).symm)|(exact(cL J).symm)|(exact decide_eq_decide.2 J)) w0 _) ?_;rintro c3 cp ⟨rfl,aP⟩;obtain⟨av,A,d,n,_⟩:=ed aP av A d n;have bV:=bT.O aP;refine U.dx bV ?_;have a7:=al.refl cp;refine U.bg 10 ?_;refine fC o (Z.c2 (dE _ ([ew (decide (¬y.k=bJ)) 1,ew (decide (y.d.length≤65536)) 5]) nR m9 m_)) ?_;rintro c5 cq ⟨cg,aB,_⟩;obtain⟨av,A,d,n,_⟩:=ed aB av A d n;have a_:=a7.O aB;refine U.dx a_ ?_;have bb:=al.refl cq;refine U.bg 11 ?_;refine cP nK (n8 _ [ew (decide (¬y.k=bJ)) 1,ew (decide (y.d.length≤65536)) 5] w0 _ cg.rd.any) ?_;rintro c6 cr ⟨rfl,aD⟩;obtain⟨av,A,d,n,_⟩:=ed aD av A d n;rw[LC];have bc:=bb.O aD;refine U.dx bc ?_;have aK:=al.refl cr;refine U.t1 12 o (fun L B=>gp) aK ?_;refine dB ?_;have dg:=aK;refine cf (I.O (fun ch=>?_));refine G.af ?_;refine G.v1 dX (G.nil (ch ?_));refine a8 (fun R=>?_) (fun R=>?_)
   ·
    refine I.O (fun cR=>?_);refine G.aZ 2 ?_;refine cR ?_;refine I.ret (bG (a2 (bF (am (bz (bq (aW ?_)))))));exact⟨by have B:=zb (l:=el) (j:=i) M V (by rw[←E];exact R);rw[←E]at B;rw[ko,aM (by rw[B];exact R),B],d⟩
   ·
    refine I.skip (a9 (I.region ?_));refine G.af ?_;refine G.aV gU bx ?_;refine G.v1 (Y.cast (v2:=bM y.k) (ba (A.W.take 32) cZ bx (by rw[show(cb y).take 32=b9 y.k from gS y];exact bI _)) (c4 (show(cb y).take 32=b9 y.k from gS y))) ?_;refine G.af ?_;refine G.s1 (S.E2 ((i:Int)) av DF o Aq o o o) ?_;rintro br ⟨av,bL⟩;obtain⟨n,_⟩:=c0 bL n (an.r bH);refine G.nil (a0 (bE (I.region ?_)));refine G.v1 bN ?_;refine G.af (G.nil ?_);refine aT.sub (bA (i+1,hk P y.k (i:Int)) _ ?_ ?_) ⟨o,o,(aF J),(aF J),trivial⟩
    ·exact⟨J,av,(by rw[E];exact DG W M),qf V M (by rw[←E];simpa using R),n⟩
    ·first|omega|(simp only;omega)|(simp;omega)
  ·
   obtain rfl:i=el.length:=by omega
   rw[eD]at W V;have cB:=zc V;have cz:=KR (s:=s.el) (el:=el) fu av.fX.nodup (fun k=>by rw[←gF,W]);refine I.exit (bD (am (bw ?_)));refine bo (I.O (fun be=>?_));refine G.af ?_;refine G.v1 (Y.Ee av.fX o Aq o) ?_;refine G.v1 fK ?_;refine G.call o jA o cS o o (j7 (decide (P.length≤500)) 4 (decide_eq_decide.2 J) w0 _) ?_;rintro c9 cI ⟨rfl,cl⟩;obtain⟨d,_⟩:=b6 cl d;refine G.aj ?_;refine be ?_;refine I.ret (aW ?_);exact⟨by rw[ko,aA (by rw[cB];decide),cz];unfold ew;by_cases aU:(iu (da s.el) el).length≤500;rw[aM (cT aU),aA J];rw[aA (by simpa using aU),aM J],d⟩
theorem sZ(s:dR)(t:bS)(F aQ:Nat→Prop)(bC:Int)(w0:World)(N:Heap)
 (aL:fj bC N)(S:bp (fun b=>b=0) N.size)(ag:fr F N s)(ae:bp F N.size)(q:gk aQ N t)(bw:bp aQ N.size)(ok:s.m.Ok)(K:oy t):
 aE Tryz.prog w0 23 #[fZ s,fo t] N (fun r E=>r= .int .i64 (eL s.m t)∧al N E):=by
 refine aE.aP [fZ s,fo t] Tryz.func23 ?_;intro bz af;have j:al N N:=aa.refl _ _;have b8:=q.m.len;have b5:=q.e.len;have aU:=K.ah;have z2:=K.br;refine I.O (fun bb=>?_);refine G.aU Z.bv ?_;rintro v2 E ⟨rfl,A,bc,_⟩;obtain⟨aL,ag,q,j,_⟩:=ed bc aL ag q j;have A:Var 47 E N.size (cc s):=A;refine G.aU Z.bv ?_;rintro v3 L ⟨rfl,n,bd,_⟩;obtain⟨aL,ag,q,A,j,_⟩:=dH bd aL ag q A j;have n:Var 32 L E.size (dM t):=n;refine G.aj ?_;refine bb ?_
 refine I.cut (fun(_:Unit)=>[(2,.pointer (some ⟨N.size,0,none⟩)),(3,.pointer (some ⟨E.size,0,none⟩)),(5,.int .i64 (fH t))])
  (fun(_:Unit) (H:Heap)=>True∧al L H) (fun _ am _=>?_) ?_
 ·
  have B:al L L:=aa.refl _ _;refine I.region ?_;refine G.a6 n.W bP ee fc ?_;refine G.af ?_;refine G.split (d:=9) o (fun g9=>?_) (fun g9=>?_)
  ·
   refine G.av 15 ?_;refine G.call o jA o cS o o (j7 (decide (fH t=0)) 1 (by first|exact mS (.inl cY)|exact mS (.inr (.inl cY))|exact mS (.inr (.inr (.inl J)))|exact wk h1 h1 J) w0 _) ?_;rintro P Q ⟨rfl,ad⟩;obtain⟨B,_⟩:=b6 ad B;rw[wm];refine G.aj ?_;refine aT.sub (am () _ ?_) ⟨o,o,(aF J),trivial⟩;exact⟨trivial,B⟩
  ·
   refine G.wl n.W bP ee fc ?_;refine G.av 2 ?_;refine G.split (d:=13) o (fun a0=>?_) (fun a0=>?_)
   ·
    refine G.av 11 ?_;refine G.call o jA o cS o o (j7 (decide (fH t=0)) 1 (by first|exact mS (.inl cY)|exact mS (.inr (.inl cY))|exact mS (.inr (.inr (.inl J)))|exact wk h1 h1 J) w0 _) ?_;rintro P Q ⟨rfl,ad⟩;obtain⟨B,_⟩:=b6 ad B;rw[wm];refine G.aj ?_;refine aT.sub (am () _ ?_) ⟨o,o,(aF J),trivial⟩;exact⟨trivial,B⟩
   ·
    refine G.wl n.W bP fz gd ?_;refine G.aG (bu q.m e7) ?_;refine G.aG fA ?_;refine G.av 2 ?_;refine G.bL (d:=19) o (fun a2=>?_) (fun a2=>?_)
    ·
     refine G.av 5 ?_;refine G.call o jA o cS o o (j7 (decide (fH t=0)) 1 (by first|exact mS (.inl cY)|exact mS (.inr (.inl cY))|exact mS (.inr (.inr (.inl J)))|exact wk h1 h1 J) w0 _) ?_;rintro P Q ⟨rfl,ad⟩;obtain⟨B,_⟩:=b6 ad B;rw[wm];refine G.aj ?_;refine aT.sub (am () _ ?_) ⟨o,o,(aF J),trivial⟩;exact⟨trivial,B⟩
    ·
     refine G.gz n.W.ig bP eN fD ?_;refine G.aG (bu q.e dy) ?_;refine G.aG fA ?_;refine G.eh ?_;refine G.call o jA o cS o o (j7 (decide (fH t=0)) 1 (by first|exact mS (.inl cY)|exact mS (.inr (.inl cY))|exact mS (.inr (.inr (.inl J)))|exact wk h1 h1 J) w0 _) ?_;rintro P Q ⟨rfl,ad⟩;obtain⟨B,_⟩:=b6 ad B;rw[wm];refine G.aj ?_;refine aT.sub (am () _ ?_) ⟨o,o,(aF J),trivial⟩;exact⟨trivial,B⟩
 ·
  intro _ O bm;obtain⟨ai,bj⟩:=bm;obtain⟨aL,ag,q,A,n,j,_⟩:=fY bj aL ag q A n j
  refine I.cut (fun(_:Unit)=>[(2,.pointer (some ⟨N.size,0,none⟩)),(3,.pointer (some ⟨E.size,0,none⟩)),(5,.int .i64 (gv (fH t) (gD t)))])
   (fun(_:Unit) (H:Heap)=>True∧al O H) (fun _ R _=>?_) ?_
  ·
   have C:al O O:=aa.refl _ _;refine I.O (fun U=>?_);refine G.a6 n.W bP ee fc ?_;refine G.af ?_;refine G.split (d:=28) o (fun a3=>?_) (fun a3=>?_)
   ·
    refine G.wl n.W bP b3 cd ?_;refine G.aG (Y.lO o o o) ?_;refine G.W ?_;refine G.nil (U ?_);refine a8 (fun az=>?_) (fun az=>?_)
    ·
     refine I.region ?_;refine G.af ?_;refine G.a6 n.W bP b3 cd ?_;refine aW uZ (u4 t.ah bC w0 _ aL (S.mono j.size) J) ?_;rintro bB bJ ⟨rfl,a7⟩;obtain⟨C,_⟩:=b6 a7 C;refine G.aU (Z.c2 (dE _ ([(fH t),(ea t.ah)]) nR m9 m_)) ?_;rintro bL bM ⟨bn,bo,_⟩;obtain⟨C,_⟩:=b6 bo C;refine aW nK (n8 _ [(fH t),(ea t.ah)] w0 _ bn.rd.any) ?_;rintro cR be ⟨rfl,bq⟩;obtain⟨C,_⟩:=b6 bq C;rw[vm];refine G.aj ?_;refine aT.sub (R () _ ?_) ⟨o,o,(by first|(have x:t.ah≠[]:=(by simpa using az);exact yA cY x)|(have x:t.ah=[]:=(by simpa using az);exact rS (.inr x))|(have x:t.bz=false:=h1;exact rS (.inl x))),trivial⟩;exact⟨trivial,C⟩
    ·
     refine I.skip ?_;refine aT.sub (R () _ ?_) ⟨o,o,(by first|(have x:t.ah≠[]:=(by simpa using az);exact yA cY x)|(have x:t.ah=[]:=(by simpa using az);exact rS (.inr x))|(have x:t.bz=false:=h1;exact rS (.inl x))),trivial⟩;exact⟨trivial,C⟩
   ·
    refine G.av 4 ?_;refine G.nil (U ?_);refine dZ ?_;refine I.skip ?_;refine aT.sub (R () _ ?_) ⟨o,o,(by first|(have x:t.ah≠[]:=(by simpa using az);exact yA cY x)|(have x:t.ah=[]:=(by simpa using az);exact rS (.inr x))|(have x:t.bz=false:=h1;exact rS (.inl x))),trivial⟩;exact⟨trivial,C⟩
  ·
   intro _ bD bk;obtain⟨ai,bf⟩:=bk;obtain⟨aL,ag,q,A,n,j,_⟩:=fY bf aL ag q A n j;refine I.O (fun a4=>?_);refine G.af ?_;refine G.v1 (ba A.W fV dJ (cq _)) ?_;refine G.a6 n.W bP fz gd ?_;refine aW IH (LN s t.dI.v t.ml F bC w0 _ aL (S.mono j.size) ag (ae.mono j.size) q.m.any ok.hV ok.bm K.kT) ?_;rintro cD bN ⟨rfl,bt⟩;obtain⟨aL,ag,q,A,n,j,_⟩:=fY bt aL ag q A n j;refine G.aU (Z.c2 (dE _ ([(gv (fH t) (gD t)),(gY s.m.cv t.ml)]) nR m9 m_)) ?_;rintro bQ bi ⟨ax,ay,_⟩;obtain⟨aL,ag,q,A,n,j,_⟩:=fY ay aL ag q A n j;refine aW nK (n8 _ [(gv (fH t) (gD t)),(gY s.m.cv t.ml)] w0 _ ax.rd.any) ?_;rintro bR M ⟨rfl,aB⟩;obtain⟨aL,ag,q,A,n,j,_⟩:=fY aB aL ag q A n j;rw[vm];refine G.aj ?_;refine a4 ?_
   refine I.cut (fun(_:Unit)=>[(2,.pointer (some ⟨N.size,0,none⟩)),(3,.pointer (some ⟨E.size,0,none⟩)),(5,.int .i64 (gv (gv (gv (fH t) (gD t)) (gY s.m.cv t.ml)) (hv t)))])
    (fun(_:Unit) (H:Heap)=>True∧al M H) (fun _ V _=>?_) ?_
   ·
    have ac:al M M:=aa.refl _ _;refine I.O (fun a5=>?_);refine G.a6 n.W bP ee fc ?_;refine G.nil (a5 ?_);refine dm (fun an=>?_) (fun an=>?_)
    ·
     refine I.region ?_;refine G.af ?_;refine G.aV bP dP ?_;refine G.v1 (Y.cast (v2:=hx t.q) (ba ((n.W.drop 4).take 70) kF dP (by rw[lA];exact eC _)) (c4 (lA t))) ?_;refine aW II (Oa t.q bC w0 _ aL (S.mono j.size) q.q.any J) ?_;rintro aC bT ⟨rfl,aD⟩;obtain⟨ag,ac,_⟩:=bO aD ag ac;refine G.aU (Z.c2 (dE _ ([(gv (gv (fH t) (gD t)) (gY s.m.cv t.ml)),(if t.q.k≠0 then iE t.q else 0)]) nR m9 m_)) ?_;rintro bU bV ⟨aG,aH,_⟩;obtain⟨ag,ac,_⟩:=bO aH ag ac;refine aW nK (n8 _ [(gv (gv (fH t) (gD t)) (gY s.m.cv t.ml)),(if t.q.k≠0 then iE t.q else 0)] w0 _ aG.rd.any) ?_;rintro bW bX ⟨rfl,aJ⟩;obtain⟨ag,ac,_⟩:=bO aJ ag ac;rw[vm];refine G.aj ?_;refine aT.sub (V () _ ?_) ⟨o,o,(by first|(have x:t.ag=true:=cY;exact FM x)|(have x:t.ag=false:=h1;exact FL x)),trivial⟩;exact⟨trivial,ac⟩
    ·
     refine I.skip ?_;refine aT.sub (V () _ ?_) ⟨o,o,(by first|(have x:t.ag=true:=cY;exact FM x)|(have x:t.ag=false:=h1;exact FL x)),trivial⟩;exact⟨trivial,ac⟩
   ·
    intro _ ap bl;obtain⟨ai,bg⟩:=bl;obtain⟨ag,q,A,n,j,_⟩:=dH bg ag q A n j;refine I.t2 (fun ar av=>I.O (fun a9=>?_));refine G.af ?_;refine G.v1 (ba A.W fV dJ (cq _)) ?_;refine G.aX n.W.ig bP eN fD ?_;refine aW IJ (LF s t.cG.v t.el F w0 _ ag (ae.mono j.size) q.e.any (fun y hy=>(q.d y hy).any) ok.mc) ?_;rintro bY bK ⟨rfl,aK⟩;obtain⟨q,n,j,_⟩:=cf aK q n j;refine G.aU (Z.c2 (dE _ ([(gv (gv (gv (fH t) (gD t)) (gY s.m.cv t.ml)) (hv t)),(ko s.m.iw t.el)]) nR m9 m_)) ?_;rintro bZ b0 ⟨aN,aO,_⟩;obtain⟨q,n,j,_⟩:=cf aO q n j;refine aW nK (n8 _ [(gv (gv (gv (fH t) (gD t)) (gY s.m.cv t.ml)) (hv t)),(ko s.m.iw t.el)] w0 _ aN.rd.any) ?_;rintro b1 b2 ⟨rfl,aP⟩;obtain⟨q,n,j,_⟩:=cf aP q n j;rw[vm];refine G.aj ?_;refine a9 (I.O (fun aR=>?_));refine G.af ?_;refine G.v1 dX (G.nil (aR ?_));refine a8 (fun W=>?_) (fun W=>?_)
    ·
     refine I.O (fun aS=>?_);refine G.aZ 2 ?_;refine aS ?_;refine I.ret (av (af ?_));exact⟨by rw[Cj],j⟩
    ·
     have X:eL s.m t=0:=by rw[Cj];simpa using W
     have bx:=vg K X;have b7:=K.pM;refine I.skip (ar (I.O (fun aV=>?_)));refine G.v1 (ba n.W hR gh (eu _)) ?_;refine aW B3 (CO t aQ w0 _ q (bw.mono j.size) bx) ?_;rintro b4 bE ⟨s2,a_,rfl,ak,bF,aX⟩;obtain⟨j,_⟩:=b6 aX j;have bA:=ak.le;refine G.af ?_;refine G.v1 c3 ?_;refine G.v1 c3 ?_;refine G.aZ 2 ?_;refine aV (I.O (fun aZ=>?_));refine G.af ?_;refine G.v1 ((cC).gW o) ?_;refine G.av 2 ?_;refine G.aG (bu ak.rd dV) ?_;refine G.aG ((fK).gW J) ?_;refine G.W ?_;refine aW jA (zQ true 5 w0 _) ?_;rintro bG bH ⟨rfl,a6⟩;have j:=j.O a6;refine G.aj ?_;refine aZ ?_;refine I.ret (af ?_);exact⟨by rw[X];rfl,j⟩
end pd
namespace jH
open gV e2 hn rf
theorem sS{k:dv}(s:aO)(d:List UInt8)(w:World):(Instr.build 68 #[(0,bM k),(1,s.v)]).run Tryz.prog w= .ok (mQ ⟨k,s,d⟩) w:=by
 obtain⟨k,j⟩:=k;simp only[mQ,cb,b9,bM];obtain⟨n,q,K,W,Z,aa,ae,af,ag,ai,r,x,A,B,C,E,F,G,H,I,L,M,N,O,P,Q,R,S,U,V,X,Y,rfl⟩:=pJ j
 kernel_rfl
theorem xW{i:dv}(n:List UInt8)(w:World):(Instr.build 71 #[(0,aN n),(1,bM i)]).run Tryz.prog w= .ok (.agg (eX ⟨n,i⟩).toArray) w:=by
 obtain⟨k,d⟩:=i;simp only[eX,b9,bM];obtain⟨j,q,K,W,Z,aa,ae,af,ag,ai,r,x,A,B,C,E,F,G,H,I,L,M,N,O,P,Q,R,S,U,V,X,Y,rfl⟩:=pJ d
 kernel_rfl
theorem BD{T i:dv}(n:List UInt8)(w:World):(Instr.build 64 #[(0,bM T),(1,bM i),(2,aN n)]).run Tryz.prog w= .ok (.agg (ff ⟨T,i,n⟩).toArray) w:=by
 obtain⟨k,d⟩:=T;obtain⟨l,j⟩:=i;simp only[ff,b9,bM];obtain⟨q,r,L,X,aa,ae,af,ag,ai,ak,x,A,B,C,E,F,G,H,I,K,M,N,O,P,Q,R,S,U,V,W,Y,Z,rfl⟩:=pJ d;obtain⟨an,ar,aH,eK,aX,aZ,a6,c5,a7,a8,av,ax,ay,az,aB,aC,aD,aE,aF,aG,aJ,aK,aL,aO,aP,aQ,aR,aS,aT,aU,aV,aW,rfl⟩:=pJ j
 kernel_rfl
theorem BE{h:List UInt8}{r:aO}{l:List dq}{q:dj}(w:World):(Instr.build 47 #[(0,aN h),(1,r.v),(3,hx q)]).run Tryz.prog w= .ok (fZ ⟨h,r,l,dN,[],q,dN,[]⟩) w:=by
 obtain⟨k,br,⟨cl,j⟩,⟨bQ,d⟩,cx,bj,dn,md,st⟩:=q;simp only[hx,cc,dC,b9];obtain⟨n,x,M,Y,ae,af,ag,ai,ak,an,A,B,C,E,F,G,H,I,K,L,N,O,P,Q,R,S,U,V,W,X,Z,aa,rfl⟩:=pJ j;obtain⟨ar,av,aJ,eK,a6,a7,a8,c5,a_,ba,ax,ay,az,aB,aC,aD,aE,aF,aG,aH,aK,aL,aP,aQ,aR,aS,aT,aU,aV,aW,aX,aZ,rfl⟩:=pJ d
 kernel_rfl
section
variable {x : dR}
theorem FP(h:List UInt8):(cc x).set 0 (aN h)=cc {x with ah:=h}:=rfl
theorem Ad(s:aO)(l:List dq):(cc x).set 1 s.v=cc {x with fI:=s,bm:=l}:=rfl
theorem wU(s:aO)(l:List hd):(cc x).set 2 s.v=cc {x with c9:=s,cj:=l}:=rfl
theorem s7:cc x=(aN x.ah::x.fI.v::x.c9.v::(.int .i64 x.q.k::aN x.q.br::(b9 x.q.cl++b9 x.q.bQ)))++(kf x.q++[x.cG.v]):=by
 simp[cc,dC,kf]
theorem s8:(aN x.ah::x.fI.v::x.c9.v::(.int .i64 x.q.k::aN x.q.br::(b9 x.q.cl++b9 x.q.bQ)):List Value).length=69:=by simp[bI]
theorem FQ(j:Nat)(v:Value):(cc x).set (69+j) v=(cc x).take 69++(kf x.q++[x.cG.v]).set j v:=by
 rw[s7,List.set_append,aA (by rw[s8];omega),s8,kP s8];congr 2;omega
theorem FR:(cc x).take 69=aN x.ah::x.fI.v::x.c9.v::(.int .i64 x.q.k::aN x.q.br::(b9 x.q.cl++b9 x.q.bQ)):=by rw[s7];exact kP s8
theorem Ae(s:aO)(l:List hf):(cc x).set 69 s.v=cc {x with q:={x.q with cx:=s,bj:=l}}:=by
 rw[FQ 0,FR]
 conv=>rhs;rw[s7]
 rfl
theorem Ac(s:aO)(l:List bU):(cc x).set 73 s.v=cc {x with cG:=s,el:=l}:=by
 rw[FQ 4,FR]
 conv=>rhs;rw[s7]
 rfl
theorem wV(q:dj):er (cc x) 3 (dC q)=cc {x with q:=q}:=by
 unfold er;rw[eC];show[aN x.ah,x.fI.v,x.c9.v]++dC q++(cc x).drop 73=_;rw[C1];simp[cc]
end
section
variable {H : Heap} {ad : Addr} {x : dR}
theorem _root_.Go.Proofs.YtfjmpninmdjcaaaGreatDoor.E.cz.sx(h:cz H ad (cc x)):cz H ((ad.add 3).add 66) (kf x.q++[x.cG.v]):=by
 have d:=h.drop 69;have e:(cc x).drop 69=kf x.q++[x.cG.v]:=by rw[s7];exact ma s8
 rw[e]at d;rwa[show ad.add 69=(ad.add 3).add 66 from by cases ad;rfl]at d
theorem _root_.Go.Proofs.YtfjmpninmdjcaaaGreatDoor.E.cz.O5{x:bS}(h:cz H ad (dM x)):cz H ((ad.add 4).add 66) (kf x.q++[x.cG.v]):=by
 have d:=h.drop 70
 have e:(dM x).drop 70=kf x.q++[x.cG.v]:=by
  have j:dM x=(.bool x.bz::aN x.ah::x.dI.v:: .bool x.ag::(.int .i64 x.q.k::aN x.q.br::(b9 x.q.cl++b9 x.q.bQ)))++(kf x.q++[x.cG.v]):=by simp[dM,dC,kf]
  rw[j];exact ma (by simp[bI])
 rw[e]at d;rwa[show ad.add 70=(ad.add 4).add 66 from by cases ad;rfl]at d
end
structure jT (F:Nat→Prop) (H:Heap) (s:dR):Prop where
 r:Rd F H eX 33 s.fI.v s.bm
 g:Rd F H gN 2 s.c9.v s.cj
 n:∀y∈s.cj,Rd F H ff 65 y.v.v y.l
 q:Rd F H en 33 s.q.cx.v s.q.bj
 d:∀y∈s.el,Rd F H bd 1 y.v.v y.d
section
variable {F aQ : Nat → Prop} {H V : Heap} {s : dR} {ks : List Nat} {h : Nat}
theorem jT.aR(x:jT F H s)(w:al H V):jT F V s:=⟨x.r.aR w,x.g.aR w,fun y hy=>(x.n y hy).aR w,x.q.aR w,fun y hy=>(x.d y hy).aR w⟩
theorem jT.aJ(x:jT F H s)(w:aa (ay ks) H V)(d:aS F ks):jT F V s:=⟨x.r.aJ w d,x.g.aJ w d,fun y hy=>(x.n y hy).aJ w d,x.q.aJ w d,fun y hy=>(x.d y hy).aJ w d⟩
instance:cr (jT F H s) H V (jT F V s):=⟨fun s h=>h.aR s⟩
instance:ct (jT F H s) H V (jT F V s) (ax F):=⟨fun s h d=>h.aJ s (aS.T d)⟩
theorem jT.imp(x:jT F H s)(d:∀b,b<H.size→F b→aQ b):jT aQ H s:=⟨x.r.imp d,x.g.imp d,fun y hy=>(x.n y hy).imp d,x.q.imp d,fun y hy=>(x.d y hy).imp d⟩
theorem jT.st(x:jT F H s)(h:Rd F H cb 33 s.cG.v s.el):fr F H s:=⟨x.r,x.g,x.n,x.q,h,x.d⟩
end
theorem ax.e8{aQ:Nat→Prop}{d k:Nat}(h:ax aQ k)(j:ak k d):ax (fun b=>aQ b∨b+1=d) k:=by
 rintro b (e|e) ab
 ·exact h b e ab
 ·exact j b ab e
theorem bp.e8{aQ:Nat→Prop}{n d:Nat}(h:bp aQ n)(j:d≤n):bp (fun b=>aQ b∨b+1=d) n:=by
 rintro b (e|e)
 ·exact h b e
 ·omega
theorem oD{aQ:Nat→Prop}{h d:Nat}(a:∀c,aQ c→h≤c)(n:ae 0 h d):∀c,aQ c∨c+1=d→h≤c:=by
 rintro c (e|e)
 ·exact a c e
 ·unfold ae at n;omega
theorem wQ{α β:Type}{f:β→List Value}{sz:Nat}{v:α→Value}{r:α→List β}{aQ d:Nat→Prop}{H:Heap}{l:List α}{x:α}(h:∀y∈l,Rd aQ H f sz (v y) (r y))(j:∀b,aQ b→d b)(n:Rd d H f sz (v x) (r x)):∀y∈l++[x],Rd d H f sz (v y) (r y):=by
 intro y hy;rcases gG.1 hy with hy|hy
 ·exact(h y hy).imp (fun b _ e=>j b e)
 ·rw[eU]at hy;rw[hy];exact n
theorem y6{l:List dw}{q:Nat}(h:q=l.length-100):l.drop q=j0 l:=by subst h;rfl
theorem NI{s:dR}(h:s.m.Ok):s.bm.length≤200:=by have:=h.iC;simpa[dR.m,bX]using this
theorem Le{s:dR}(h:s.m.Ok):s.cj.length≤200:=by
 have d:=h.iC;have ab:=aI List.length h.c6;rw[dg,dg]at ab;rw[←ab]at d
 simpa[dR.m,c7]using d
theorem JO{s:dR}(h:s.m.Ok):s.el.length≤500:=by have:=h.kT;simpa[dR.m,da]using this
theorem Lk{s:dR}(h:s.m.Ok):∀y∈s.cj,y.l.length≤100:=fun y hy=>h.cj (y.n,y.l) (cN.2 ⟨y,hy,o⟩)
theorem Lz{s:dR}(h:s.m.Ok):∀y∈s.el,y.d.length≤65536:=fun y hy=>h.md (y.k.1,y.d) (cN.2 ⟨y,hy,o⟩)
theorem OW{s:dR}(h:s.m.Ok):s.q.bj.length≤100:=h.ll
theorem E6(v1:Value)(a:List dq)(w0:World)(N:Heap)
 (j:b7 N eX 33 v1 a)(ag:a.length≤1073741824):
 aE Tryz.prog w0 113 #[v1] N (fun r x=>∃s:aO,∃k:Nat,r=s.v∧aY k 71 x eX 33 s.v a∧ae 0 N.size k∧al N x):=by
 refine aE.aP [v1] Tryz.func113 ?_;intro X B;have d:al N N:=aa.refl _ _;have j:=j.ch;obtain⟨p,af,rfl,_,_,R⟩:=id j.ex;refine I.O (fun E=>?_);refine G.aj ?_;refine E (I.t2 (fun F H=>I.O (fun K=>?_)));refine G.af ?_;refine G.v1 (Y.ub o Tryz.underlying44 o o) (G.nil (K ?_));refine dm (fun q=>?_) (fun q=>?_)
 ·
  obtain rfl:a=[]:=by
   apply k9;intro h;obtain⟨ad,Q,_⟩:=R h;rw[Q]at q;cases q
  refine I.O (fun L=>?_);refine G.aj ?_;refine L ?_;refine I.ret (H (B ?_));exact⟨⟨none,0,0⟩,0,o,aY.nil kJ oK,ae.refl _ _,d⟩
 ·
  refine I.skip (F (I.O (fun M=>?_)));refine G.aU (Z.c2 (dE _ (([]:List dq)) nS kJ oK)) ?_;rintro v5 V ⟨O,az,_⟩;have A:=ae.new d.size;obtain⟨j,d,_⟩:=bO az j d;refine G.af ?_;refine G.aU (eO O j nS h0 h0) ?_;rintro C W ⟨S,ac,am,n⟩;have n:=n.md;have P:=ae.O A am d.size;have d:=d.gn n (ar.T (an.q A));refine G.aj ?_;refine M ?_;refine I.ret (B ?_);obtain⟨U,rfl⟩:∃s:aO,C=s.v:=⟨cF C,ac.bA.symm⟩;exact⟨U,S,o,by simpa using ac,P,d⟩
theorem tu(v1:Value)(a:List dw)(w0:World)(N:Heap)
 (j:b7 N ff 65 v1 a)(ag:a.length≤1073741824):
 aE Tryz.prog w0 114 #[v1] N (fun r x=>∃s:aO,∃k:Nat,r=s.v∧aY k 64 x ff 65 s.v a∧ae 0 N.size k∧al N x):=by
 refine aE.aP [v1] Tryz.func114 ?_;intro X B;have d:al N N:=aa.refl _ _;have j:=j.ch;obtain⟨p,af,rfl,_,_,R⟩:=id j.ex;refine I.O (fun E=>?_);refine G.aj ?_;refine E (I.t2 (fun F H=>I.O (fun K=>?_)));refine G.af ?_;refine G.v1 (Y.ub o Tryz.underlying60 o o) (G.nil (K ?_));refine dm (fun q=>?_) (fun q=>?_)
 ·
  obtain rfl:a=[]:=by
   apply k9;intro h;obtain⟨ad,Q,_⟩:=R h;rw[Q]at q;cases q
  refine I.O (fun L=>?_);refine G.aj ?_;refine L ?_;refine I.ret (H (B ?_));exact⟨⟨none,0,0⟩,0,o,aY.nil px rH,ae.refl _ _,d⟩
 ·
  refine I.skip (F (I.O (fun M=>?_)));refine G.aU (Z.c2 (dE _ (([]:List dw)) oP px rH)) ?_;rintro v5 V ⟨O,az,_⟩;have A:=ae.new d.size;obtain⟨j,d,_⟩:=bO az j d;refine G.af ?_;refine G.aU (eO O j oP h0 h0) ?_;rintro C W ⟨S,ac,am,n⟩;have n:=n.md;have P:=ae.O A am d.size;have d:=d.gn n (ar.T (an.q A));refine G.aj ?_;refine M ?_;refine I.ret (B ?_);obtain⟨U,rfl⟩:∃s:aO,C=s.v:=⟨cF C,ac.bA.symm⟩;exact⟨U,S,o,by simpa using ac,P,d⟩
theorem F3(v1:Value)(a:List hf)(w0:World)(N:Heap)
 (j:b7 N en 33 v1 a)(ag:a.length≤1073741824):
 aE Tryz.prog w0 52 #[v1] N (fun r x=>∃s:aO,∃k:Nat,r=s.v∧aY k 129 x en 33 s.v a∧ae 0 N.size k∧al N x):=by
 refine aE.aP [v1] Tryz.func52 ?_;intro X B;have d:al N N:=aa.refl _ _;have j:=j.ch;obtain⟨p,af,rfl,_,_,R⟩:=id j.ex;refine I.O (fun E=>?_);refine G.aj ?_;refine E (I.t2 (fun F H=>I.O (fun K=>?_)));refine G.af ?_;refine G.v1 (Y.ub o Tryz.underlying27 o o) (G.nil (K ?_));refine dm (fun q=>?_) (fun q=>?_)
 ·
  obtain rfl:a=[]:=by
   apply k9;intro h;obtain⟨ad,Q,_⟩:=R h;rw[Q]at q;cases q
  refine I.O (fun L=>?_);refine G.aj ?_;refine L ?_;refine I.ret (H (B ?_));exact⟨⟨none,0,0⟩,0,o,aY.nil jB nb,ae.refl _ _,d⟩
 ·
  refine I.skip (F (I.O (fun M=>?_)));refine G.aU (Z.c2 (dE _ (([]:List hf)) pD jB nb)) ?_;rintro v5 V ⟨O,az,_⟩;have A:=ae.new d.size;obtain⟨j,d,_⟩:=bO az j d;refine G.af ?_;refine G.aU (eO O j pD h0 h0) ?_;rintro C W ⟨S,ac,am,n⟩;have n:=n.md;have P:=ae.O A am d.size;have d:=d.gn n (ar.T (an.q A));refine G.aj ?_;refine M ?_;refine I.ret (B ?_);obtain⟨U,rfl⟩:∃s:aO,C=s.v:=⟨cF C,ac.bA.symm⟩;exact⟨U,S,o,by simpa using ac,P,d⟩
theorem qk(v1:Value)(a:List UInt8)(w0:World)(N:Heap)
 (j:b7 N bd 1 v1 a)(ag:a.length≤140737488355328):
 aE Tryz.prog w0 59 #[v1] N (fun r x=>∃s:aO,∃k:Nat,r=s.v∧aY k 5 x bd 1 s.v a∧ae 0 N.size k∧al N x):=by
 refine aE.aP [v1] Tryz.func59 ?_;intro X B;have d:al N N:=aa.refl _ _;have j:=j.ch;obtain⟨p,af,rfl,_,_,R⟩:=id j.ex;refine I.O (fun E=>?_);refine G.aj ?_;refine E (I.t2 (fun F H=>I.O (fun K=>?_)));refine G.af ?_;refine G.v1 (Y.ub o Tryz.underlying57 o o) (G.nil (K ?_));refine dm (fun q=>?_) (fun q=>?_)
 ·
  obtain rfl:a=[]:=by
   apply k9;intro h;obtain⟨ad,Q,_⟩:=R h;rw[Q]at q;cases q
  refine I.O (fun L=>?_);refine G.aj ?_;refine L ?_;refine I.ret (H (B ?_));exact⟨⟨none,0,0⟩,0,o,aY.nil fM hh,ae.refl _ _,d⟩
 ·
  refine I.skip (F (I.O (fun M=>?_)));refine G.aU (Z.c2 (dE _ (([]:List UInt8)) fw fM hh)) ?_;rintro v5 V ⟨O,az,_⟩;have A:=ae.new d.size;obtain⟨j,d,_⟩:=bO az j d;refine G.af ?_;refine G.aU (eO O j fw h0 h0) ?_;rintro C W ⟨S,ac,am,n⟩;have n:=n.md;have P:=ae.O A am d.size;have d:=d.gn n (ar.T (an.q A));refine G.aj ?_;refine M ?_;refine I.ret (B ?_);obtain⟨U,rfl⟩:∃s:aO,C=s.v:=⟨cF C,ac.bA.symm⟩;exact⟨U,S,o,by simpa using ac,P,d⟩
theorem Ln(v:Value)(l:List dw)(m:bY)(w0:World)(N:Heap)
 (F:b7 N ff 65 v l)(bp:l.length≤1000):
 aE Tryz.prog w0 56 #[v,mf m] N (fun r aG=>∃s:aO,∃k:Nat,r=s.v∧aY k 64 aG ff 65 s.v (j0 (l++[⟨m.T,m.w,m.y⟩]))∧ae 0 N.size k∧al N aG):=by
 refine aE.aP [v,mf m] Tryz.func56 ?_;intro bo aJ;have n:al N N:=aa.refl _ _;have F:=F.ch;refine I.O (fun aU=>?_);refine G.aU Z.bv ?_;rintro v3 E ⟨rfl,P,aV,_⟩;obtain⟨F,n,_⟩:=bO aV F n;have P:Var 52 E N.size (dL m):=P;refine G.aj ?_;refine aU (I.t1 (fun aH=>?_));refine eA (fun C=>al E C) [] ?_;have d:al E E:=aa.refl _ _;refine U.af 0 o d ?_;refine U.aV 2 dc bx d ?_;refine U.t1 3 o (fun C x=>Y.cast (v2:=bM m.T) (ba (((P.W.drop 1).aR x).take 32) cZ bx (by rw[jd];exact bI _)) (c4 (jd _))) d ?_;refine U.aV 4 dc bx d ?_;refine U.t1 5 o (fun C x=>Y.cast (v2:=bM m.w) (ba (((P.W.drop 33).aR x).take 32) cZ bx (by rw[gB];exact bI _)) (c4 (gB _))) d ?_;refine U.aV 6 dc b3 d ?_;refine U.t1 7 o (fun C x=>bf (P.W.qO.aR x) cd) d ?_;refine U.t1 8 o (fun C x=>Y.build (v:= .agg (ff ⟨m.T,m.w,m.y⟩).toArray) o o (by intro w;exact BD _ _)) d ?_;refine U.two (i:=1) (j:=9) bD ?_ ?_
 ·
  refine cP sU (tu v l w0 _ F.any J) ?_;rintro v6 B ⟨bn,H,rfl,A,L,ag⟩;have aX:=ae.O (ae.refl 0 _) L n.size;have aZ:=ae.O (ae.refl 0 _) L d.size;obtain⟨n,d,_⟩:=bO ag n d;have Q:=A.le;refine⟨.inr d,U.narrow (SH2:=fun C=>aa (ay [H]) B C) (fun C x=>(aa.bt (ks:=[]) (d.nm []) x (ar.T (an.q aZ))).nil) ?_⟩;have d:aa (ay [H]) B B:=aa.refl _ _;have a6:=ae.refl H B.size;refine U.bg 9 ?_;refine fC o (dE _ ([(⟨m.T,m.w,m.y⟩:dw)]) oP px rH) ?_;rintro a8 ad ⟨M,R,bj,S⟩;have az:ad.size=B.size+1:=by rw[S];simp
  have bk:=ae.new d.size;obtain⟨A,n,d,_⟩:=cf R A n d;refine U.b5 d (ar.cons (an.r a6) (ar.T (an.q bk))) ?_;have d:aa (ay [H,(B.size+1)]) ad ad:=aa.refl _ _;have am:=ae.refl H ad.size;have a7:=ae.refl (B.size+1) ad.size;refine U.bg 10 ?_;refine fC o (eO A M.rd oP b2 b2) ?_;rintro a_ K ⟨af,A,V,ac⟩;have ac:=ac.md;have bl:=ae.O am V d.size;obtain⟨n,d,_⟩:=dW ac n aX d (an.r am);have Q:=A.le;refine U.b5 d (ar.cons (an.r bl) (ar.T (an.r a7))) ?_;have d:aa (ay [af,(B.size+1)]) K K:=aa.refl _ _;refine U.t1 11 o (fun C x=>gp) d ?_;refine dB ?_;refine aH (I.O (fun bb=>?_));refine G.av 2 ?_;refine G.v1 (bu A.rd lQ) ?_;have bm:(l++[(⟨m.T,m.w,m.y⟩:dw)]).length=l.length+1:=by simp
  obtain⟨q,x⟩:∃q,q=(l++[(⟨m.T,m.w,m.y⟩:dw)]).length-100:=⟨_,o⟩;have aD:=y6 x;refine G.v1 gq ?_;refine G.v1 (Y.cast (v2:= .int .i64 (q:Int)) (Y.tA o o o) (eI J)) ?_;refine G.aP (g:=fun v=>v) (Y.slice A.rd q ((l++[(⟨m.T,m.w,m.y⟩:dw)]).length) o lQ pX o (.inr ⟨_,_,_,o,o,by first|rfl|omega⟩) (.inl ⟨o,o⟩) J J) fun ai O=>?_;rw[eD,aD]at O;have ax:(j0 (l++[(⟨m.T,m.w,m.y⟩:dw)])).length≤1073741824:=by have:=vV (l++[(⟨m.T,m.w,m.y⟩:dw)]);omega
  have aB:=O.any;have aC:=tu ai _ w0 _ aB ax;refine aW sU aC ?_;rintro bc bd ⟨ak,av,rfl,aF,W,X⟩;have aK:=ae.O (ae.refl 0 _) W n.size;have n:=n.O X;refine G.aj ?_;refine bb ?_;refine I.ret (aJ ?_);exact⟨ak,av,o,aF,aK,n⟩
 ·
  refine fC o (dE _ ([(⟨m.T,m.w,m.y⟩:dw)]) oP px rH) ?_;rintro a8 ad ⟨M,R,bj,S⟩;have az:ad.size=E.size+1:=by rw[S];simp
  have aL:=ae.new d.size;obtain⟨F,n,d,_⟩:=cf R F n d;refine⟨.inr d,U.narrow (SH2:=fun C=>aa (ay [(E.size+1)]) ad C) (fun C x=>(aa.bt (ks:=[]) (d.nm []) x (ar.T (an.q aL))).nil) ?_⟩;have d:aa (ay [(E.size+1)]) ad ad:=aa.refl _ _;have aN:=ae.refl (E.size+1) ad.size;refine U.bg 1 ?_;refine cP sU (tu v l w0 _ F.any J) ?_;rintro v6 B ⟨bn,H,rfl,A,L,ag⟩;have aP:=ae.O (ae.refl 0 _) L n.size;have aQ:=ae.O (ae.refl 0 _) L d.size;obtain⟨M,n,d,_⟩:=cf ag M n d;have Q:=A.le;refine U.b5 d (ar.cons (an.r aN) (ar.T (an.q aQ))) ?_;have d:aa (ay [(E.size+1),H]) B B:=aa.refl _ _;have aR:=ae.refl (E.size+1) B.size;have ap:=ae.refl H B.size;refine U.bg 10 ?_;refine fC o (eO A M.rd oP b2 b2) ?_;rintro a_ K ⟨af,A,V,ac⟩;have ac:=ac.md;have aS:=ae.O ap V d.size;obtain⟨n,d,_⟩:=dW ac n aP d (an.r ap);have Q:=A.le;refine U.b5 d (ar.cons (an.r aR) (ar.T (an.r aS))) ?_;have d:aa (ay [(E.size+1),af]) K K:=aa.refl _ _;refine U.t1 11 o (fun C x=>gp) d ?_;refine dB ?_;refine aH (I.O (fun bg=>?_));refine G.av 2 ?_;refine G.v1 (bu A.rd lQ) ?_;have bm:(l++[(⟨m.T,m.w,m.y⟩:dw)]).length=l.length+1:=by simp
  obtain⟨q,x⟩:∃q,q=(l++[(⟨m.T,m.w,m.y⟩:dw)]).length-100:=⟨_,o⟩;have aD:=y6 x;refine G.v1 gq ?_;refine G.v1 (Y.cast (v2:= .int .i64 (q:Int)) (Y.tA o o o) (eI J)) ?_;refine G.aP (g:=fun v=>v) (Y.slice A.rd q ((l++[(⟨m.T,m.w,m.y⟩:dw)]).length) o lQ pX o (.inr ⟨_,_,_,o,o,by first|rfl|omega⟩) (.inl ⟨o,o⟩) J J) fun ai O=>?_;rw[eD,aD]at O;have ax:(j0 (l++[(⟨m.T,m.w,m.y⟩:dw)])).length≤1073741824:=by have:=vV (l++[(⟨m.T,m.w,m.y⟩:dw)]);omega
  have aB:=O.any;have aC:=tu ai _ w0 _ aB ax;refine aW sU aC ?_;rintro bc bd ⟨ak,av,rfl,aF,W,X⟩;have aT:=ae.O (ae.refl 0 _) W n.size;have n:=n.O X;refine G.aj ?_;refine bg ?_;refine I.ret (aJ ?_);exact⟨ak,av,o,aF,aT,n⟩
end jH
namespace iN
open gV lq e2 ow hn jH
section
variable {P : Program} {w0 : World} {n : Nat} {l : cm} {H H1 : Heap} {T : Oper}
end
section
variable {P : Program} {w0 : World} {n : Nat} {l : cm} {H : Heap} {T : Oper}
theorem Z.Cn{d x:Operand}{t t2 e C:TypeId}{b off A I oe B sz k:Nat}{cs ys:List Value}{ad:Addr}(G:Var e H b cs)(W:∀w,At w0 H w→∀j v,ys[j]?=some v→w.cell? (ad.add j)=some v)(hy:ys.length=k*sz)(U:∀u∈ys,u.oneCell'=true)(S:T.op= .call {callee:= .builtin .copy,args:= #[d,x],argTypes:= #[t,t2]})
 (X:P.underlying t=some (.slice C)) (ag:∀w,(sizeOf C).run P w= .ok sz w) (ah:aK l d=some (.slice (some ⟨b,off,none⟩) A I)) (Y:aK l x=some (.slice (some ad) oe B)) (Q:k=min oe A) (ae:off+k*sz≤cs.length):
 Z P w0 n l H T (fun r V=>r= .int .i64 k∧Var e V b (er cs off ys)∧aa (fun g=>g=b) H V):=by
 intro a w E q;obtain⟨K,L,M⟩:=id G.row;have R:Nat.min oe A=k:=Q.symm
 have N:(Builtin.firstCells sz k (.slice (some ad) oe B)).run P w= .ok ys.toArray w:=
  run_firstCells_some (P:=P) w sz k ad oe B _ hy (fun j v O=>W w q j v O)
 have F:=qY P b off e K ys 0 cs.toArray w (by rw[q.heap];exact L) M b2 U;simp only[mI]at F;refine⟨_,_,w.setRow b (er cs off ys).toArray,?_,q.row _ _,o,⟨wN q G.row (by simp[er];omega)⟩,tZ q _ _⟩;simp[execOp,S,E.eval ah,E.eval Y,resolve,invoke,builtin,Builtin.copy_,run_underlying X,Builtin.lenOf,ag,R,N,F,er,goInt]
theorem PS{z:Value}{α:Type}{f:α→List Value}{z0:α}(h:z.cells.toList=f z0):∀m,(Builtin.zeroCells z.cells m).toList=(List.replicate m z0).flatMap f:=by
 have r:(f z0).length=z.cells.size:=by rw[←h,l8]
 have n:∀m,(Builtin.zeroCells z.cells m).toList=(List.range (m*z.cells.size)).map (fun i=>z.cells[i%z.cells.size]!):=fun m=>by
  unfold Builtin.zeroCells;rw[Array.toList_map,Array.toList_range]
 have aP:(List.range z.cells.size).map (fun i=>z.cells[i%z.cells.size]!)=f z0:=by
  rw[←h];apply r7
  ·simp
  ·intro j q ab
   have d:j<z.cells.size:=by simpa using q
   simp[oT d,getElem!_pos z.cells j d]
 intro m;rw[n]
 induction m with
 |zero=>simp
 |succ m ih=>
  rw[Nat.succ_mul,vw,List.range_add,gg,l9,aP,yO,lD,←ih];congr 1;apply mK;intro j _;simp
theorem Z.G8{α:Type}{F:Nat→Prop}{f:α→List Value}{s x:Operand}{t ll e:TypeId}{G I:IntKind}{ad:Addr}{c m sz bytes:Nat}{i:TypeInfo}{z:Value}{xs:List α}(z0:α)(aq:∀x,(f x).length=sz)(K:∀x,∀u∈f x,u.oneCell'=true)(X:Rd F H f sz (.slice (some ad) xs.length c) xs)
 (W:T.op= .call {callee:= .builtin .append,args:= #[s,x],argTypes:= #[t,ll]})(ai:P.underlying t=some (.slice e))(ak:P.underlying ll=some (.int G))(Q:P.info? e=some i)(ar:i.zero=some z)(af:i.size=sz)(L:i.bytes=bytes)(E:z.cells.toList=f z0)(ae:0<sz)(S:0<m)
 (ag:aK l s=some (.slice (some ad) xs.length c)) (an:aK l x=some (.int I m)) (B:c<xs.length+m) (ao:(xs.length+m)*bytes≤140737488355328) (hm:xs.length+m≤9223372036854775807):
 Z P w0 n l H T (fun r V=>aY (H.size+1) e V f sz r (xs++List.replicate m z0)∧al H V∧∃ax,V=H.push ax):=by
 subst af;subst L;intro a w A d;have holds:=X.oY aq o d
 have hold:(Builtin.firstCells i.size xs.length (.slice (some ad) xs.length c)).run P w.drew= .ok (xs.flatMap f).toArray w.drew:=
  run_firstCells_some (P:=P) w.drew i.size xs.length ad xs.length c _ (length_flatMap aq xs) (fun j v R=>by simpa using holds j v R)
 have Y:=Lib.run_append_grow_zeros (P:=P) w t ll T.type e i z I G ai ak Q ar (some ad) xs.length c (xs.flatMap f) hold m S ae B J (by
  have:m*i.bytes≤(xs.length+m)*i.bytes:=kN _ J;omega) (growslice_fits B ao)
 have q:At w0 H w.drew:=d.drew;have O:=grownCap_ge w (xs.length+m) c e;have N:grownCap w (xs.length+m) c e≤maxLen:=grownCap_le_maxLen w (xs.length+m) c e (by unfold maxLen;omega);have av:z.cells.size=i.size:=by rw[←l8,E,aq]
 have U:=Own.new (e:=e) (G':=fun b=>b+1=H.size+1) (w:=w.drew) (z:=z) (cap:=grownCap w (xs.length+m) c e) (zs:=xs++List.replicate m z0) aq K av (by rw[q.heap]) (by simpa using O) N
 have M:(xs.flatMap f).toArray++Builtin.zeroCells z.cells m=((xs++List.replicate m z0).flatMap f).toArray:=by
  apply Array.ext';rw[yI,PS E,jq]
 have C:w.heap.size=H.size:=by rw[d.heap]
 refine⟨.slice (some ⟨w.heap.size,0,none⟩) (xs.length+m) (grownCap w (xs.length+m) c e),_,w.drew.alloc (.cells ((xs.flatMap f).toArray++Builtin.zeroCells z.cells m++Builtin.zeroCells z.cells (grownCap w (xs.length+m) c e-(xs.length+m))) e),?_,⟨o,d.os,d.tape,d.output,q.hg⟩,⟨?_,?_⟩,?_,?_⟩
 ·simp[execOp,W,resolve,invoke,builtin,A.eval ag,A.eval an,Y,C]
 ·rw[M]
  simpa[C]using U
 ·rw[(q.alloc _).heap];simp
 ·rw[(q.alloc _).heap];exact aa.push _ _ _
 ·exact⟨_,(q.alloc _).heap⟩
theorem Y.FG{x:Operand}{q d:Option Operand}{t e:TypeId}{a:Option Addr}{len cap sz:Nat}(i j:Nat)(C:T.op= .slice t x q d none)(E:∀w,(underlying t).run P w= .ok (.slice e) w)(ag:∀w,(sizeOf e).run P w= .ok sz w)(F:aK l x=some (.slice a len cap))
 (B:q=none∧i=0∨∃p k aF,q=some p∧aK l p=some (.int k aF)∧aF=(i:Int))(A:d=none∧j=len∨∃p k aF,d=some p∧aK l p=some (.int k aF)∧aF=(j:Int))(L:i≤j)(M:j≤cap):
 Y P w0 n l H T (.slice (if cap=i then a else a.map (·.add (i*sz))) (j-i) (cap-i)):=by
 intro ac w r K
 have aP:∀w,(Instr.sliceBounds true len cap (q.map ac.eval) (d.map ac.eval) none).run P w= .ok (i,j,cap) w:=by
  intro w
  rcases B with⟨rfl,rfl⟩|⟨p,k,aF,rfl,G,rfl⟩<;>rcases A with⟨rfl,rfl⟩|⟨eR,a_,N,rfl,I,rfl⟩<;>
   simp[Instr.sliceBounds,Instr.sliceBound,asIntOf,r.eval, *]
 have hu:∀w,(underlying t).run P w= .ok (.slice e) w:=E;simp[execOp,C,r.eval F,Instr.sliceAt,Instr.slice,hu,ag,aP]
theorem Y.I6{x:Operand}{t e:TypeId}{a:Option Addr}{len cap:Nat}(j:T.op= .call {callee:= .builtin .cap,args:= #[x],argTypes:= #[t]})(q:∀w,(underlying t).run P w= .ok (.slice e) w)(r:aK l x=some (.slice a len cap)):Y P w0 n l H T (.int .i64 cap):=by
 intro ac w d A;simp[execOp,j,d.eval r,resolve,invoke,builtin,Builtin.cap_,q,goInt]
theorem aY.view{α:Type}{k:Nat}{e:TypeId}{f:α→List Value}{sz:Nat}{v:Value}{xs:List α}(h:aY k e H f sz v xs)(r:xs≠[]):∃g cap cs,v= .slice (some ⟨g,0,none⟩) xs.length cap∧k=g+1∧Var e H g cs∧xs.length≤cap∧cap≤maxLen∧cs.length=cap*sz∧cs.take (xs.length*sz)=xs.flatMap f:=by
 rcases h.own.ex with⟨_,B⟩|⟨g,cap,cur,A,q,x,d,ab,j,n⟩
 ·exact absurd B r
 ·exact⟨g,cap,cur.toList,A,q.symm,⟨x⟩,d,ab,by rw[l8];exact j,n⟩
theorem aY.back{α:Type}{g:Nat}{e:TypeId}{f:α→List Value}{sz cap:Nat}{cs:List Value}{xs:List α}(aq:∀x,(f x).length=sz)(j:∀x,∀u∈f x,u.oneCell'=true)(d:Var e H g cs)(n:xs.length≤cap)(hm:cap≤maxLen)(ag:cs.length=cap*sz)(q:cs.take (xs.length*sz)=xs.flatMap f):aY (g+1) e H f sz (.slice (some ⟨g,0,none⟩) xs.length cap) xs:=
 ⟨⟨aq,j,.inr ⟨g,cap,cs.toArray,o,o,d.row,n,hm,by simpa using ag,by simpa using q⟩⟩,d.lt⟩
end
theorem On{α:Type}{f:α→List Value}{sz:Nat}(aq:∀x,(f x).length=sz){cs:List Value}{xs ys:List α}{i:Nat}(h:cs.take (xs.length*sz)=xs.flatMap f)(A:cs.length≥xs.length*sz)(q:i+ys.length≤xs.length):(er cs (i*sz) (ys.flatMap f)).take (xs.length*sz)=(xs.take i++ys++xs.drop (i+ys.length)).flatMap f:=by
 have hy:=length_flatMap aq ys;have hm:(i+ys.length)*sz≤xs.length*sz:=kN _ q;have r:(i+ys.length)*sz=i*sz+ys.length*sz:=hH _ _ _
 have j:cs.take (i*sz)=(xs.take i).flatMap f:=by
  have:=aI (List.take (i*sz)) h;rw[r2,kl J]at this;rw[this]
  conv=>lhs;rw[←hY i xs,jq]
  rw[kP (by rw[length_flatMap aq,eJ,kl J])]
 have n:(cs.take (xs.length*sz)).drop ((i+ys.length)*sz)=(xs.drop (i+ys.length)).flatMap f:=by
  rw[h]
  conv=>lhs;rw[←hY (i+ys.length) xs,jq]
  rw[ma (by rw[length_flatMap aq,eJ,kl J])]
 have d:((xs.take i++ys).flatMap f).length=(i+ys.length)*sz:=by
  rw[length_flatMap aq,bT,eJ,kl J]
 rw[er,j,←jq,hy,←r,jq (xs:=xs.take i++ys),←n,vA,d,eY (by rw[d];exact hm),yE]
section
variable {P : Program} {w0 : World} {n : Nat} {l : cm} {H : Heap} {T : Oper}
theorem Z.ya{α:Type}{F:Nat→Prop}{f:α→List Value}{d x:Operand}{t t2 e A:TypeId}{g i q K cap sz k:Nat}{ad:Addr}{I:Nat}{v:Value}{xs ys:List α}(h:aY k e H f sz v xs)(G:v= .slice (some ⟨g,0,none⟩) xs.length cap)(U:Rd F H f sz (.slice (some ad) ys.length I) ys)(R:xs≠[])
 (S:T.op= .call {callee:= .builtin .copy,args:= #[d,x],argTypes:= #[t,t2]})
 (Y:P.underlying t=some (.slice A)) (ag:∀w,(sizeOf A).run P w= .ok sz w) (ah:aK l d=some (.slice (some ⟨g,i*sz,none⟩) q K)) (af:aK l x=some (.slice (some ad) ys.length I)) (ak:ys.length≤q) (B:i+ys.length≤xs.length) (ar:ys≠[]):
 Z P w0 n l H T (fun r V=>r= .int .i64 ys.length∧aY k e V f sz v (xs.take i++ys++xs.drop (i+ys.length))∧aa (fun b=>b+1=k) H V):=by
 obtain⟨g2,ai,cs,j,C,Q,L,ab,M,N⟩:=aY.view h R;rw[G]at j;simp only[Value.slice.injEq,kh,Addr.mk.injEq,true_and,and_true]at j;obtain⟨rfl,rfl⟩:=j;have aq:=h.own.cells;have hlen:=length_flatMap aq ys;have X:(i+ys.length)*sz≤xs.length*sz:=kN _ B;have an:xs.length*sz≤cap*sz:=kN _ L;rw[hH]at X;refine(Z.Cn Q (fun w O=>U.oY aq o O) hlen (fun u hu=>by obtain⟨y,_,hu⟩:=tf.1 hu;exact h.own.one y u hu) S Y ag ah af J J).mono ?_;rintro r V ⟨W,ae,hm⟩;have E:(xs.take i++ys++xs.drop (i+ys.length)).length=xs.length:=by simp;omega
 refine⟨W,?_,?_⟩
 ·rw[C,G,←E]
  refine aY.back aq h.own.one ae J ab ?_ ?_
  ·rw[z_ J,M]
  ·rw[E];exact On aq N J B
 ·exact hm.weaken (fun b _ e=>by rw[C,e])
theorem Z.Jz{k:Nat}{α:Type}{f:α→List Value}{d x:Operand}{t t2 e F:TypeId}{g i E M oe ar cap sz:Nat}{v:Value}{xs:List α}(h:aY k e H f sz v xs)(ak:v= .slice (some ⟨g,0,none⟩) xs.length cap)(A:i<xs.length)(Q:xs.length<cap)
 (W:T.op= .call {callee:= .builtin .copy,args:= #[d,x],argTypes:= #[t,t2]})
 (ae:P.underlying t=some (.slice F)) (ag:∀w,(sizeOf F).run P w= .ok sz w) (ah:aK l d=some (.slice (some ⟨g,(i+1)*sz,none⟩) E M)) (an:aK l x=some (.slice (some ⟨g,i*sz,none⟩) oe ar)) (R:xs.length-i=min oe E):
 Z P w0 n l H T (fun r V=>r= .int .i64 (xs.length-i:Nat)∧aY k e V f sz (.slice (some ⟨g,0,none⟩) (xs.length+1) cap) (xs.take (i+1)++xs.drop i)∧aa (fun b=>b+1=k) H V):=by
 have U:xs≠[]:=by intro e;rw[e]at A;simp at A
 obtain⟨g2,ax,cs,C,K,I,ay,ab,N,G⟩:=aY.view h U;rw[ak]at C;simp only[Value.slice.injEq,kh,Addr.mk.injEq,true_and,and_true]at C;obtain⟨rfl,rfl⟩:=C;have aq:=h.own.cells;have S:(xs.drop i).length=xs.length-i:=ia;have hlen:((xs.drop i).flatMap f).length=(xs.length-i)*sz:=by rw[length_flatMap aq,S]
 have af:i*sz+(xs.length-i)*sz=xs.length*sz:=by rw[←hH];congr 1;omega
 have az:(i+1)*sz+(xs.length-i)*sz=(xs.length+1)*sz:=by rw[←hH];congr 1;omega
 have aB:(xs.length+1)*sz≤cap*sz:=kN _ Q;have aC:(i+1)*sz≤xs.length*sz:=kN _ A
 have av:∀j,j≤xs.length→cs.take (j*sz)=(xs.take j).flatMap f:=fun j q=>by
  have hm:j*sz≤xs.length*sz:=kN _ q;have:=aI (List.take (j*sz)) G;rw[r2,kl hm]at this;rw[this]
  conv=>lhs;rw[←hY j xs,jq]
  rw[kP (by rw[length_flatMap aq,eJ,kl q])]
 have Y:(cs.take (xs.length*sz)).drop (i*sz)=(xs.drop i).flatMap f:=by
  rw[G]
  conv=>lhs;rw[←hY i xs,jq]
  rw[ma (by rw[length_flatMap aq,eJ,kl J])]
 have L:cz H ⟨g,i*sz,none⟩ ((xs.drop i).flatMap f):=by
  have:=(I.W.take (xs.length*sz)).drop (i*sz);rw[Y,add_eq rfl]at this
  simpa using this
 refine(Z.Cn (k:=xs.length-i) (sz:=sz) I (fun w O j v q=>by rw[O.cell,add_eq L.spot];exact L.cells j v q) hlen (fun u hu=>by obtain⟨y,_,hu⟩:=tf.1 hu;exact h.own.one y u hu) W ae ag ah an R J).mono ?_;rintro r V ⟨X,ai,hm⟩;have B:(xs.take (i+1)++xs.drop i).length=xs.length+1:=by simp;omega
 refine⟨X,?_,hm.weaken (fun b _ e=>by rw[K,e])⟩;rw[K,←B];refine aY.back aq h.own.one ai J ab ?_ ?_
 ·rw[z_ J,N]
 ·rw[B,er,av (i+1) J,←jq,kP (by rw[length_flatMap aq,B])]
theorem Y.FF{x:Operand}{d:Option Operand}{t e:TypeId}{g len cap sz:Nat}(j:Nat)(A:T.op= .slice t x none d none)(B:∀w,(underlying t).run P w= .ok (.slice e) w)(ag:∀w,(sizeOf e).run P w= .ok sz w)(C:aK l x=some (.slice (some ⟨g,0,none⟩) len cap))
 (q:d=none∧j=len∨∃p k aF,d=some p∧aK l p=some (.int k aF)∧aF=(j:Int))(r:j≤cap):Y P w0 n l H T (.slice (some ⟨g,0,none⟩) j cap):=by
 have:=Y.FG (P:=P) (w0:=w0) (n:=n) (H:=H) 0 j A B ag C (.inl ⟨o,o⟩) q (iT _) r
 simpa[add_eq]using this
theorem Y.q3{x p:Operand}{t e:TypeId}{g len cap sz:Nat}{k:IntKind}{aF:Int}(i:Nat)(A:T.op= .slice t x (some p) none none)(B:∀w,(underlying t).run P w= .ok (.slice e) w)(ag:∀w,(sizeOf e).run P w= .ok sz w)(C:aK l x=some (.slice (some ⟨g,0,none⟩) len cap))
 (r:aK l p=some (.int k aF))(j:aF=(i:Int))(d:i≤len)(aq:i<cap)(q:len≤cap):Y P w0 n l H T (.slice (some ⟨g,i*sz,none⟩) (len-i) (cap-i)):=by
 have:=Y.FG (P:=P) (w0:=w0) (n:=n) (H:=H) i len A B ag C (.inr ⟨_,_,_,o,r,j⟩) (.inl ⟨o,o⟩) d q;rw[aA J]at this
 simpa[add_eq]using this
end
abbrev mx:bU:=PN
theorem KL{l:List bU}{x:bU}{i:Nat}(h:i=l.length):l++[x]=l.take i++x::l.drop i:=by subst h;simp
theorem KM{l:List bU}{x:bU}{i n:Nat}(q:i<l.length)(aB:n=l.length+1-i):
 ((l.take i++List.replicate n mx).take i++[x]++(l.take i++List.replicate n mx).drop (i+1)).take (i+1)++l.drop i++((l.take i++List.replicate n mx).take i++[x]++(l.take i++List.replicate n mx).drop (i+1)).drop (i+1+(l.drop i).length)=l.take i++x::l.drop i:=by
 have d:(l.take i).length=i:=by rw[eJ];omega
 have ab:(l.take i++[x]).length=i+1:=by simp[d]
 have aP:(l.take i++List.replicate n mx).take i=l.take i:=kP d;rw[aP,kP ab];have j:(l.take i++[x]++(l.take i++List.replicate n mx).drop (i+1)).drop (i+1+(l.drop i).length)=[]:=List.drop_eq_nil_of_le (by simp[d];omega);rw[j];simp
theorem KN{l:List bU}{x:bU}{i:Nat}(j:i<l.length):(l.take (i+1)++l.drop i).take i++[x]++(l.take (i+1)++l.drop i).drop (i+1)=l.take i++x::l.drop i:=by
 have d:(l.take (i+1)).length=i+1:=by rw[eJ];omega
 rw[ma d,r1 J,r2,kl J];simp
theorem Nd{F:Nat→Prop}{H:Heap}{l:List bU}{g cap i:Nat}(h:Rd F H cb 33 (.slice (some ⟨g,0,none⟩) l.length cap) l):Rd F H cb 33 (.slice (some ⟨g,0,none⟩) (l.take i).length cap) (l.take i):=by
 obtain⟨a,c,e,E,ab,B⟩:=h.ex;cases e;refine⟨_,_,o,by rw[eJ];omega,ab,fun C=>?_⟩;obtain⟨ad,aP,n,q,r,A⟩:=B (by intro e;subst e;simp at C);exact⟨ad,aP,n,q,r,fun j x d=>A j x (by rw[List.getElem?_take]at d;split at d;exact d;cases d)⟩
theorem Nb{F:Nat→Prop}{H:Heap}{l:List bU}{g cap i:Nat}(h:Rd F H cb 33 (.slice (some ⟨g,0,none⟩) l.length cap) l):Rd F H cb 33 (.slice (some ⟨g,i*33,none⟩) (l.drop i).length (cap-i)) (l.drop i):=by
 obtain⟨a,c,e,E,ab,A⟩:=h.ex;cases e;refine⟨_,_,o,by rw[ia];omega,by omega,fun B=>?_⟩;obtain⟨ad,aP,C,n,q,r⟩:=A (by intro e;subst e;simp at B);cases aP;refine⟨_,o,o,n,q,fun j x d=>?_⟩;rw[List.getElem?_drop]at d;have:=r (i+j) x d
 simpa[hH]using this
section
variable {P : Program} {w0 : World} {n : Nat} {l : cm} {H : Heap} {T : Oper}
theorem Y.overlaps{f:FuncId}{fn:Func}{args:List Operand}{B:Array TypeId}{tS tR e:TypeId}{g d A x off bn q sz:Nat}{cs:List Value}{r:Array Value}(j:H[d]?=some (.cells r e (0,0)))(N:Var e H g cs)(K:d≠g)(F:cs.length≠0)
 (L:T.op= .call {callee:= .value (.func f),args:=args.toArray,argTypes:=B})(G:P.funcs[f]?=some fn)(I:(fn.name== "runtime.NumGoroutine")=false)(ao:fn.body.isNone=true)(aB:Extern.findNext fn=none)(he:Extern.find fn=some (Extern.SlicesOverlaps.overlaps #[tS,tS] #[tR]))
 (M:P.underlying tS=some (.slice e)) (ag:∀w,(sizeOf e).run P w= .ok sz w) (E:iA l args=some [.slice (some ⟨d,0,none⟩) A x,.slice (some ⟨g,off,none⟩) bn q]):Y P w0 n l H T (.bool false):=by
 refine Y.ext L G I ao aB he E (fun w hw=>?_);obtain⟨O,C,_⟩:=N.row;refine Lib.run_overlaps_apart w tS tR e M sz ag ⟨d,0,none⟩ ⟨g,off,none⟩ A x bn q K e e r.size cs.toArray.size ?_ ?_ (by simpa using F) ?_ ?_
 ·simp[World.shape?,hw.heap,j]
 ·simp[World.shape?,hw.heap,C]
 ·simp[World.frozen?,hw.heap,j]
 ·simp[World.frozen?,hw.heap,j]
end
section
variable {α : Type} {P : Program} {w0 : World} {n : Nat} {l : cm} {H : Heap} {T : Oper} {e : TypeId} {f : α → List Value} {sz : Nat}
theorem Z.La{t:TypeId}{k bytes:Nat}{parts:List (Nat×Operand)}(d:List Value)(zs:List α)(Q:T.op= .buildSlice t k parts.toArray)(ae:hC P t e sz bytes)(R:iA l (parts.map (·.2))=some d)(O:parts.map (·.1)=List.range k)(j:d.length=k)(ay:k*sz≤16777216)(ax:k≤16777216)
 (aq:∀x,(f x).length=sz)(X:∀x,∀u∈f x,u.oneCell'=true)(I:d.map (fun v=>v.cells.toList)=zs.map f):
 Z P w0 n l H T (fun r V=>Own (fun b=>b=H.size) e V f sz r zs∧al H V∧∃c:Array Value,V=H.push (.cells c e (0,0))):=by
 obtain⟨U,i,z,C,an,ag,av,az⟩:=ae;subst ag;intro a w aa K;have M:=aa.mC R;have W:zs.length=k:=by have:=aI List.length I;simpa[j]using this.symm
 have S:(parts.toArray.map (fun(x:Nat×Operand)=>(x.1,a.eval x.2))).toList=(d.zipIdx 0).map (fun p=>(p.2,p.1)):=by
  have aP:parts.map (fun(x:Nat×Operand)=>(x.1,a.eval x.2))=(List.range k).zip d:=by
   rw[←O,←M,l9];clear O M R Q
   induction parts with
   |nil=>rfl
   |cons p dh ih=>simp[ih]
  rw[qC];simp only;rw[aP,Dx,D3 j]
 have L:∀v∈d,v.cells.size=i.size:=by
  intro v ai;have:v.cells.toList∈zs.map f:=by rw[←I];exact cN.2 ⟨v,ai,o⟩
  obtain⟨x,_,ak⟩:=cN.1 this;have:=aq x;rw[ak]at this
  simpa using this
 have N:d.flatMap (fun v=>v.cells.toList)=zs.flatMap f:=by rw[rZ,rZ,I]
 have Y:∀(q:Array Value),((Array.range (k*i.size)).map (q[·%q.size]!)).toList=[]++((Array.range (k*i.size)).map (q[·%q.size]!)).toList:=fun _=>rfl
 have G:∃cs:Array Value,cs.toList=zs.flatMap f∧(Instr.buildSlice t k (parts.toArray.map (fun(x:Nat×Operand)=>(x.1,a.eval x.2)))).run P w= .ok (.slice (some ⟨w.heap.size,0,none⟩) k k) (w.alloc (.cells cs e)):=by
  by_cases A:k*i.size=0
  ·obtain⟨r,E,F⟩:=s_ i.size d 0 #[] [] [] o bl (by simp[j,A]) L
   refine⟨r,by rw[F,N];rfl,?_⟩;simp only[Instr.buildSlice,Sem.run_bind,run_underlying U,Result.andThen_ok,sizeOf,typeInfo,run_program,C,Sem.run_pure,S];have ar:∀g:Nat→Value,(Array.range 0).map g= #[]:=fun g=>by simp
   simp[A,ar,E,newRow]
  ·obtain⟨r,E,F⟩:=s_ i.size d 0 ((Array.range (k*i.size)).map (z.cells[·%z.cells.size]!)) [] _ (Y _) bl (by simp[j]) L
   refine⟨r,by rw[F,N];rfl,?_⟩;simp only[Instr.buildSlice,Sem.run_bind,run_underlying U,Result.andThen_ok,sizeOf,typeInfo,run_program,C,Sem.run_pure,S];have af:¬(k*i.size>2^24):=by simp only[Nat.reducePow];omega
   simp[A,af,zeroValue,typeInfo,C,an,E,newRow]
 obtain⟨cs,B,G⟩:=G;refine⟨.slice (some ⟨w.heap.size,0,none⟩) k k,H.push (.cells cs e),w.alloc (.cells cs e),?_,K.alloc (.cells cs e),⟨aq,X,.inr ⟨H.size,k,cs,?_,o,.of bl,?_,?_,?_,?_⟩⟩,al.pu _ _,_,o⟩
 ·simp only[execOp,Q,Sem.run_bind,G,Result.andThen_ok,Sem.run_pure]
 ·rw[W,K.heap]
 ·omega
 ·unfold maxLen;omega
 ·rw[←l8,B,length_flatMap aq,W]
 ·rw[←length_flatMap aq,eY (by rw[←B];exact dz _),B]
theorem Z.Lb{t:TypeId}{k bytes:Nat}{parts:List (Nat×Operand)}(d:List Value)(zs:List α)(G:T.op= .buildSlice t k parts.toArray)(B:hC P t e sz bytes)(I:iA l (parts.map (·.2))=some d)(A:parts.map (·.1)=List.range k)(C:d.length=k)(F:k*sz≤16777216)(E:k≤16777216)
 (aq:∀x,(f x).length=sz)(j:∀x,∀u∈f x,u.oneCell'=true)(K:d.map (fun v=>v.cells.toList)=zs.map f):
 Z P w0 n l H T (fun r V=>aY (H.size+1) e V f sz r zs∧al H V∧∃c:Array Value,V=H.push (.cells c e (0,0))):=
 (Z.La d zs G B I A C F E aq j K).mono fun r V ⟨j,ab,c,q⟩=>⟨aY.new (fun _ e=>e) j q,ab,c,q⟩
end
theorem KO(k C:Nat)(v S:Value)(l:List bU)(x:bU)(i:Nat)(w0:World)(N:Heap)
 (j:aY k 68 N cb 33 v l)(q:aY C 68 N cb 33 S [x])(af:ak k C)(b5:i≤l.length)(bK:∃c,N[C-1]?=some (.cells c 68 (0,0)))(b7:l.length≤1048576):
 aE Tryz.prog w0 63 #[v,.int .i64 i,S] N (fun r U=>∃av:Value,∃ar:Nat,r=av∧aY ar 68 U cb 33 av (l.take i++x::l.drop i)∧ae k N.size ar∧aa (ay [k]) N U):=by
 refine aE.aP [v,.int .i64 i,S] Tryz.func63 ?_;intro bL R;have n:aa (ay [k]) N N:=aa.refl _ _;have E:=ae.refl k N.size;have a6:=j.le;have bW:=q.le;have b8:=j.len;refine I.O (fun aC=>?_);refine G.aj ?_;refine aC (I.O (fun aD=>?_));refine G.av 2 ?_;refine G.aP (g:=fun v=>v) (Y.slice j.rd i l.length o dy db o (.inr ⟨_,_,_,o,o,by first|rfl|omega⟩) (.inl ⟨o,o⟩) J J) fun a0 b9=>?_;refine G.nil (aD (I.O (fun aF=>?_)));refine G.af ?_;refine G.v1 (Y.cast (v2:= .int .i64 1) (bu q.rd dy) o) ?_;refine G.aj ?_;refine aF (I.t1 (fun aG=>I.O (fun aH=>?_)));refine G.af ?_;refine G.v1 ((cC).gE (fun h=>by simp at h)) (G.nil (aH ?_));refine dZ ?_;refine I.skip (aG (I.O (fun aJ=>?_)));refine G.af ?_;refine G.v1 (bu j.rd dy) ?_;refine G.aj ?_;refine aJ (I.t2 (fun aK aL=>I.O (fun aN=>?_)));refine G.av 2 ?_;refine G.v1 cC (G.nil (aN ?_));refine a8 (fun aO=>?_) (fun aO=>?_)
 ·
  refine I.O (fun aP=>?_);refine G.av 2 ?_;refine G.aU (eO j q.rd k7 (by simp only[fx,je];omega) (by simp only[fx,je];omega)) ?_;rintro aQ bB ⟨aR,j,a_,ac⟩;have ac:=ac.md;have aS:=ae.O E a_ n.size;obtain⟨n,_⟩:=c0 ac n (an.r E);have a6:=j.le;refine G.aj ?_;refine aP ?_;refine I.ret (aL (R ?_));exact⟨aQ,aR,o,by rw[←KL J];exact j,aS,n⟩
 ·
  have H:i<l.length:=by omega
  have bG:l≠[]:=by intro e;rw[e]at H;simp at H
  obtain⟨g,cap,cs,B,bF,bJ,b0,bC,b3,_⟩:=aY.view j bG;unfold maxLen at bC;obtain⟨O,X,bY,M,b6,_,b1,b4,_,_⟩:=aY.view q bl;obtain⟨bZ,ai⟩:=bK;rw[show C-1=O by omega]at ai;have bE:O≠g:=fun e=>af g bF.symm J;refine I.skip (aK (I.t2 (fun ba bb=>I.O (fun bd=>?_))));refine G.av 2 ?_;refine G.v1 bN ?_;refine G.af ?_;refine G.v1 (Y.I6 o dy (aI some B)) ?_;refine G.v1 fA (G.nil (bd ?_));refine a8 (fun aT=>?_) (fun aT=>?_)
  ·
   obtain⟨bH,i0,z0,ag,V,aU,bz,_⟩:=k7
   have aV:z0.cells.toList=cb mx:=by
    have d:(zeroValue 68).run Tryz.prog w0= .ok (.agg (cb mx).toArray) w0:=by kernel_rfl
    simp[zeroValue,typeInfo,ag,V]at d;rw[d];rfl
   have K:(l.take i).length=i:=by rw[eJ];omega
   refine I.O (fun bf=>?_);refine G.av 2 ?_;refine G.v1 (Y.FF i o dy db (aI some B) (.inr ⟨_,_,_,o,o,o⟩) J) ?_;refine G.av 2 ?_;refine G.v1 bN ?_;refine G.af ?_;refine G.v1 (Y.cast (v2:= .int .i64 ((l.length+1-i:Nat):Int)) gq (by congr 1;omega)) ?_;refine G.aU (Z.G8 (F:=fun b=>b+1=k) (ad:=⟨g,0,none⟩) (c:=cap) (xs:=l.take i) (m:=l.length+1-i) mx eb iQ (by have d:=j.rd;rw[B]at d;exact Nd d) o bH Tryz.underlying3 ag V aU bz aV bc J (by rw[K];rfl) o (by rw[K];omega) (by rw[K];omega) (by rw[K];omega)) ?_;rintro aW aX ⟨on,bg,bV,az⟩;have bS:aX.size=N.size+1:=by rw[az];simp
   have aZ:=ak.new j.le;have W:=ae.new n.size;obtain⟨j,q,n,_⟩:=cf bg j q n;have A:(l.take i++List.replicate (l.length+1-i) mx).length=l.length+1:=by rw[bT,K,nV];omega
   obtain⟨g2,bX,_,L,_,_,bA,_,_,_⟩:=aY.view on (by intro e;rw[e]at A;simp at A);rw[A]at L bA;refine G.aj ?_;refine bf (I.O (fun am=>?_));refine G.av 2 ?_;refine G.v1 (Y.q3 i o dy db (aI some L) o o J J J) ?_;refine G.af ?_;refine G.aU (Z.ya (i:=i) on (by rw[A];exact L) (show Rd (fun b=>b+1=C) _ cb 33 (.slice (some ⟨O,0,none⟩) [x].length X) [x]from by have d:=q.rd;rw[M]at d;exact d) (by intro e;rw[e]at A;simp at A) o Tryz.underlying30 db o (aI some M) b2 (by rw[A];simp;omega) bl) ?_;rintro a2 a3 ⟨rfl,on,bj⟩;obtain⟨j,n,_⟩:=dW bj j aZ n (an.q W);have P:((l.take i++List.replicate (l.length+1-i) mx).take i++[x]++(l.take i++List.replicate (l.length+1-i) mx).drop (i+[x].length)).length=l.length+1:=by simp;omega
   refine G.nil (am (I.t1 (fun ap=>?_)));refine ka 8 (fun bM bw=>?_);refine G.av 3 ?_;refine G.v1 bN ?_;refine G.v1 (Y.q3 (i+1) o dy db (aI some L) o bl J J J) ?_;refine G.av 2 ?_;refine G.v1 (Y.q3 i o dy db (aI some B) o o J J J) ?_;refine G.nil (bw _ ?_);refine G.aU (Z.ya (i:=i+1) (ys:=l.drop i) on (by rw[P];exact L) (show Rd (fun b=>b+1=k) _ cb 33 (.slice (some ⟨g,i*33,none⟩) (l.drop i).length (cap-i)) (l.drop i)from by have d:=j.rd;rw[B]at d;exact Nb d) (by intro e;rw[e]at P;simp at P) o Tryz.underlying30 db o (by rw[ia];rfl) (by rw[ia];omega) (by rw[P,ia];omega) (by intro e;have d:=aI List.length e;rw[ia]at d;simp at d;omega)) ?_;rintro a4 a5 ⟨rfl,on,bk⟩;obtain⟨n,_⟩:=c0 bk n (an.q W);refine G.nil (ap (I.O (fun bm=>?_)));refine G.aZ 2 ?_;refine bm ?_;refine I.ret (bb (R ?_));exact⟨aW,(N.size+1),o,by have d:=on;rw[show i+[x].length=i+1 from o,KM H rfl]at d;exact d,(by unfold ae;omega),n⟩
  ·
   refine I.skip (ba (I.O (fun bn=>?_)));refine G.av 3 ?_;refine G.v1 bN ?_;refine G.v1 (Y.FF (l.length+1) o dy db (aI some B) (.inr ⟨_,_,_,o,o,by simp⟩) J) ?_;refine G.aj ?_;refine bn (I.t2 (fun _ a7=>I.O (fun bo=>?_)));refine G.av 4 ?_;refine G.v1 bN ?_;refine G.v1 (Y.q3 (i+1) o dy db o o bl J J J) ?_;refine G.v1 (Y.overlaps (tS:=30) (tR:=4) ai bJ bE J o o bD bD bD bD Tryz.underlying30 db (aI (fun z=>some [z,_]) M)) ?_;refine G.v1 fB (G.nil (bo ?_));refine I.kc o ?_;refine I.t1 (fun bp=>?_);refine ka 8 (fun bO bx=>?_);refine G.av 3 ?_;refine G.v1 bN ?_;refine G.v1 (Y.q3 (i+1) o dy db o o bl J J J) ?_;refine G.av 2 ?_;refine G.v1 (Y.q3 i o dy db o o o J J J) ?_;refine G.nil (bx _ ?_);refine G.aU (Z.Jz (i:=i) j B H J o Tryz.underlying30 db o o J) ?_;rintro bP bQ ⟨rfl,j,bq⟩;obtain⟨q,n,_⟩:=dW bq q af.symm n (an.r E);have Q:(l.take (i+1)++l.drop i).length=l.length+1:=by simp;omega
   refine G.nil (bp (I.O (fun bt=>?_)));refine G.av 2 ?_;refine G.v1 (Y.q3 i o dy db o o o J J J) ?_;refine G.af ?_;refine G.aU (Z.ya (i:=i) j (by rw[Q]) (show Rd (fun b=>b+1=C) _ cb 33 (.slice (some ⟨O,0,none⟩) [x].length X) [x]from by have d:=q.rd;rw[M]at d;exact d) (by intro e;rw[e]at Q;simp at Q) o Tryz.underlying30 db o (aI some M) b2 (by rw[Q];simp;omega) bl) ?_;rintro bR a9 ⟨rfl,j,ax⟩;obtain⟨n,_⟩:=c0 ax n (an.r E);refine G.nil (bt (I.O (fun aB=>?_)));refine G.aZ 2 ?_;refine aB ?_;refine I.ret (a7 (R ?_));exact⟨.slice (some ⟨g,0,none⟩) (l.length+1) cap,k,o,by have d:=j;rw[show i+[x].length=i+1 from o,KN H]at d;exact d,E,n⟩
theorem sY:∀{a b:List UInt8},Lib.compareBytes a b<0↔Op.bytesLess a b=true
 |[],[]=>by simp[Lib.compareBytes,Op.bytesLess]
 |[],_::_=>by simp[Lib.compareBytes,Op.bytesLess]
 |_::_,[]=>by simp[Lib.compareBytes,Op.bytesLess]
 |x::a,y::b=>by
  simp only[Lib.compareBytes,Op.bytesLess];by_cases d:x<y
  ·simp[d]
  ·by_cases ab:y<x
   ·have:¬x=y:=fun e=>by subst e;exact d ab
    simp[d,ab,this]
   ·have e:x=y:=by apply pE;rw[r4]at d ab;omega
    subst e;simp[d,sY (a:=a) (b:=b)]
theorem x8:∀{a b:List UInt8},Lib.compareBytes a b=0↔a=b
 |[],[]=>by simp[Lib.compareBytes]
 |[],_::_=>by simp[Lib.compareBytes]
 |_::_,[]=>by simp[Lib.compareBytes]
 |x::a,y::b=>by
  simp only[Lib.compareBytes];by_cases d:x<y
  ·have:¬x=y:=fun e=>by subst e;simp[r4]at d
   simp[d,this]
  ·by_cases ab:y<x
   ·have:¬x=y:=fun e=>by subst e;exact d ab
    simp[d,ab,this]
   ·have e:x=y:=by apply pE;rw[r4]at d ab;omega
    subst e;simp[d,x8 (a:=a) (b:=b)]
theorem Jn(u v:Value)(a b:List UInt8)(w0:World)(N:Heap)
 (d:b7 N bd 1 u a)(ao:b7 N bd 1 v b):
 aE Tryz.prog w0 62 #[u,v] N (fun r j=>r= .int .i64 (Lib.compareBytes a b)∧al N j):=by
 refine aE.aP [u,v] Tryz.func62 ?_;intro B A;have x:al N N:=aa.refl _ _;have d:=d.ch;have ao:=ao.ch;refine I.O (fun n=>?_);refine G.aj ?_;refine n (I.O (fun q=>?_));refine G.av 2 ?_;refine G.v1 (Y.compare d ao o Tryz.func136 bD bD bD bD o) ?_;refine G.aj ?_;refine q ?_;refine I.ret (A ?_);exact⟨o,x⟩
theorem Ao(s:dR)(F:Nat→Prop)(w0:World)(N:Heap)
 (ag:fr F N s)(ca:bp F N.size)(ok:s.m.Ok):
 aE Tryz.prog w0 39 #[fZ s] N (fun r Q=>∃s2:dR,∃cl:Nat,∃aQ:Nat→Prop,r=fZ s2∧jT aQ Q s2∧aY cl 68 Q cb 33 s2.cG.v s2.el∧ae 0 N.size cl∧bp aQ Q.size∧(∀c,aQ c→N.size≤c)∧ax aQ cl∧s2.m=s.m∧al N Q):=by
 refine aE.enter (args:=[fZ s]) Tryz.func39 o o o ?_;intro fU fM;have A:al N N:=aa.refl _ _;have aU:=NI ok;have z2:=Le ok;have z3:=JO ok;have z4:=Lk ok;have z5:=Lz ok;have gz:=OW ok;refine I.O (fun ft=>?_);refine G.aU Z.bv ?_;rintro v1 H1 ⟨rfl,R,h9,_⟩;obtain⟨ag,A,_⟩:=bO h9 ag A;have R:Var 47 H1 N.size (cc s):=R;refine G.aU (Z.a7 mq) ?_;rintro v2 Q ⟨rfl,C,fw,_⟩;have fx:=ae.new A.size;obtain⟨ag,R,A,_⟩:=cf fw ag R A;refine G.nil (ft ?_)
 refine I.cut (fun(bL:aO×Nat×Nat)=>match bL with|(O,av,V)=>[(1,.pointer (some ⟨N.size,0,none⟩)),(2,.pointer (some ⟨H1.size,0,none⟩)),(3,.pointer (some ⟨V,0,none⟩))])
  (fun(O,av,V) (H:Heap)=>(aY av 71 H eX 33 O.v s.bm)∧Var 47 H V (cc ⟨s.ah,O,s.bm,dN,[],s.q,dN,[]⟩)∧ae 0 Q.size av∧ae 0 Q.size ((V+1))∧ak av ((V+1))∧al Q H) (fun _ cG _=>?_) ?_
 ·
  have ac:al Q Q:=aa.refl _ _;refine eA (fun B=>al Q B) [9] ?_;have E:al Q Q:=aa.refl _ _;refine U.aV 0 c8 b3 E ?_;refine U.t1 1 o (fun B n=>bf (R.W.aR n) cd) E ?_;refine U.aV 2 c8 jE E ?_;refine U.t1 3 o (fun B n=>bf ((R.W.drop 1).aR n) lx) E ?_;refine U.aV 5 c8 dP E ?_;refine U.t1 6 o (fun B n=>Y.cast (v2:=hx s.q) (ba (((R.W.drop 3).aR n).take 70) kF dP (by rw[rK];exact eC _)) (c4 (rK s))) E ?_;refine U.two (i:=4) (j:=8) bD ?_ ?_
  ·
   refine cP BL (E6 s.fI.v s.bm w0 _ ag.r.any J) ?_;rintro fz aN ⟨O,av,rfl,or,bj,a5⟩;have dh:=ae.O (ae.refl 0 _) bj ac.size;have di:=ae.O (ae.refl 0 _) bj E.size;obtain⟨ac,E,_⟩:=bO a5 ac E;have cm:=or.le;refine⟨.inr E,U.narrow (SH2:=fun B=>aa (ay [av]) aN B) (fun B n=>(aa.bt (ks:=[]) (E.nm []) n (ar.T (an.q di))).nil) ?_⟩;have E:aa (ay [av]) aN aN:=aa.refl _ _;have eh:=ae.refl av aN.size;refine U.t1 (v:=fZ ⟨s.ah,O,s.bm,dN,[],s.q,dN,[]⟩) 7 o (fun B n=>?_) E ?_
   ·exact Y.build (v:=fZ ⟨s.ah,O,s.bm,dN,[],s.q,dN,[]⟩) o o (by intro w;exact BE _)
   refine U.bg 8 ?_;refine fC o (Z.nE o mq) ?_;rintro v3 aP ⟨rfl,d,cg,fA,ch⟩;have e6:aP.size=aN.size+1:=by rw[ch];simp
   have cr:=ak.new or.le;have ct:=ae.new ac.size;have e7:=ae.new E.size;obtain⟨or,ac,E,_⟩:=cf cg or ac E;refine U.b5 E (ar.cons (an.r eh) (ar.T (an.q e7))) ?_;refine U.bg 9 ?_;refine iK o (et d _ (cc ⟨s.ah,O,s.bm,dN,[],s.q,dN,[]⟩) (kK _) dJ (cq _) ((dD (cq _).symm))) ?_;rintro ce ⟨d,aZ⟩;have aZ:=aZ.e3;obtain⟨or,ac,_⟩:=dW aZ or cr ac ct;refine⟨.inl o,?_⟩;refine dB ?_;refine aT.sub (cG (O,av,aN.size) _ ?_) ⟨o,o,o,trivial⟩;exact⟨or,d,dh,ct,cr,ac⟩
  ·
   refine fC o (Z.nE o mq) ?_;rintro v3 aP ⟨rfl,d,cg,fA,ch⟩;have e6:aP.size=Q.size+1:=by rw[ch];simp
   have cv:=ae.new ac.size;have e8:=ae.new E.size;obtain⟨ag,ac,E,_⟩:=cf cg ag ac E;refine⟨.inr E,U.narrow (SH2:=fun B=>aa (ay [(Q.size+1)]) aP B) (fun B n=>(aa.bt (ks:=[]) (E.nm []) n (ar.T (an.q e8))).nil) ?_⟩;have E:aa (ay [(Q.size+1)]) aP aP:=aa.refl _ _;have e9:=ae.refl (Q.size+1) aP.size;refine U.bg 4 ?_;refine cP BL (E6 s.fI.v s.bm w0 _ ag.r.any J) ?_;rintro fz aN ⟨O,av,rfl,or,bj,a5⟩;have cy:=ak.app ak.z d.lt bj;have eF:=ae.O (ae.refl 0 _) bj ac.size;have ci:=ae.O (ae.refl 0 _) bj E.size;obtain⟨d,ac,E,_⟩:=cf a5 d ac E;have cm:=or.le;refine U.b5 E (ar.cons (an.r e9) (ar.T (an.q ci))) ?_;have E:aa (ay [(Q.size+1),av]) aN aN:=aa.refl _ _;refine U.t1 (v:=fZ ⟨s.ah,O,s.bm,dN,[],s.q,dN,[]⟩) 7 o (fun B n=>?_) E ?_
   ·exact Y.build (v:=fZ ⟨s.ah,O,s.bm,dN,[],s.q,dN,[]⟩) o o (by intro w;exact BE _)
   refine U.bg 9 ?_;refine iK o (et d _ (cc ⟨s.ah,O,s.bm,dN,[],s.q,dN,[]⟩) (kK _) dJ (cq _) ((dD (cq _).symm))) ?_;rintro ce ⟨d,aZ⟩;have aZ:=aZ.e3;obtain⟨or,ac,_⟩:=dW aZ or cy.symm ac cv;refine⟨.inl o,?_⟩;refine dB ?_;refine aT.sub (cG (O,av,Q.size) _ ?_) ⟨o,o,o,trivial⟩;exact⟨or,d,eF,cv,cy.symm,ac⟩
 ·
  rintro⟨O,av,V⟩ ga cV;obtain⟨or,d,cn,az,cQ,cT⟩:=cV;have e_:=ak.app ak.z C.lt cn;have dG:=ae.O (ae.refl 0 _) cn A.size;have bX:=ax.app ax.z (ca.mono A.size) az;have br:=ak.app ak.z R.lt az;have bY:=ak.app ak.z C.lt az;have b0:=ae.O (ae.refl 0 _) az A.size;obtain⟨ag,R,C,A,_⟩:=ed cT ag R C A;have cm:=or.le;have gb:=d.le;have a9:=cQ;refine I.O (fun fB=>?_);refine G.aV c8 dP ?_;refine G.aX R.W.sx b1 fR hp ?_;refine aW B5 (F3 s.q.cx.v s.q.bj w0 _ ag.q.any J) ?_;rintro gh gi ⟨aV,dl,rfl,aG,b7,fa⟩;have co:=ak.app ak.z C.lt b7;have b8:=ak.app ak.z d.lt b7;have fc:=ae.O (ae.refl 0 _) b7 A.size;obtain⟨ag,R,C,or,d,A,_⟩:=fY fa ag R C or d A;have gd:=aG.le;refine G.aV c8 dP ?_;refine G.aV b1 fR ?_;refine G.s1 (du d 69 (cc ⟨s.ah,O,s.bm,dN,[],{s.q with cx:=aV},dN,[]⟩) fR (by rw[cq];omega) ((Ae _ _))) ?_;rintro b_ ⟨d,bK⟩;obtain⟨ag,R,C,or,aG,A,_⟩:=mn bK ag bX R br C bY or a9 aG b8.symm A b0;refine G.nil (fB (I.t1 (fun cJ=>I.O (fun dn=>?_))));refine G.a6 R.W c8 h2 jU ?_;refine G.v1 (bu ag.g ij) ?_;refine G.af (G.nil (dn ?_));refine I.aC (fun _ fE _=>?_)
  refine I.bb (fun(bL:Nat×aO×Nat×(List hd)×(Nat→Prop))=>match bL with|(j,s1,ai,aB,aH)=>[(1,.pointer (some ⟨N.size,0,none⟩)),(2,.pointer (some ⟨H1.size,0,none⟩)),(3,.pointer (some ⟨V,0,none⟩)),(23,s.c9.v),(24,.int .i64 (s.cj.length:Int)),(25,.int .i64 (j:Int))])
   (fun(j,s1,ai,aB,aH) (H:Heap)=>(j≤s.cj.length)∧Var 47 H V (cc ⟨s.ah,O,s.bm,s1,aB,{s.q with cx:=aV},dN,[]⟩)∧aY ai 62 H gN 2 s1.v aB∧(∀x∈aB,Rd aH H ff 65 x.v.v x.l)∧bp aH H.size∧ax aH (V+1)∧ax aH ai∧ax aH (H1.size+1)∧(∀c,aH c→N.size≤c)∧c7 aB=c7 (s.cj.take j)∧ae 0 b_.size ai∧ak (V+1) ai∧aa (ay [(V+1)]) b_ H)
   (fun(j,s1,ai,aB,aH)=>s.cj.length-j) (0,dN,0,[],fun _=>False) ⟨o,o,o,o,o,o,trivial⟩ ?_ ?_
  ·
   exact⟨J,d,aY.nil jo na,(fun x h=>by cases h),(fun b e=>e.elim),(fun b e=>e.elim),(fun b e=>e.elim),(fun b e=>e.elim),(fun c e=>e.elim),rfl,ae.refl _ _,ak.z,aa.refl _ _⟩
  rintro⟨j,s1,ai,aB,aH⟩ bT fF fT hg ds;obtain⟨gv,d,K,S,bA,f1,f2,f5,bB,bG,am,cN,W⟩:=fF;have fg:=ak.app ak.z C.lt am;have cs:=ae.O (ae.refl 0 _) am A.size;obtain⟨ag,R,C,or,aG,A,_⟩:=mn W ag bX R br C bY or a9 aG b8.symm A b0;have cW:=K.le;have bm:=cN;have c0:=ae.refl (V+1) b_.size;have cz:=am;refine I.O (fun fG=>?_);refine G.v1 bZ (G.nil (fG ?_));refine I.t2 (fun fH fI=>?_);refine a8 (fun fJ=>?_) (fun fJ=>?_)
  ·
   refine I.skip (fH (I.t1 (fun fh=>I.aC (fun bQ _ _=>I.O (fun fl=>?_)))));have bF:j<s.cj.length:=by omega
   obtain⟨y,a7⟩:∃q,q=s.cj[j]:=⟨_,o⟩;have bJ:y∈s.cj:=by rw[a7];exact cU bF
   have fN:=z4 y bJ;have gw:aB.length=j:=by have ck:=aI List.length bG;simp only[c7,dg,eJ]at ck;omega
   refine G.cn (Y.cg ag.g j o ij iD o o) fun gq fi=>?_;refine G.v1 (Y.cast (v2:= .agg (gN y).toArray) (ba fi.W uG iD (jo _)) (by rw[a7])) ?_;refine G.aU (Z.a7 AB) ?_;rintro v5 fQ ⟨rfl,bk,fK,_⟩;have fj:=ax.new (ca.mono A.size);have fk:=ak.new C.lt;have fm:=ak.new d.lt;have bn:=ak.new K.le;have ev:=(ax.new (bA.mono J):ax _ (bT.size+1));have ew:=ae.new A.size;have ey:=ae.new W.size;obtain⟨ag,C,d,K,S,A,W,_⟩:=kr fK ag C d K S A W;refine G.s1 (et bk _ (gN y) (na y) iD (jo _) ((dD (jo _).symm))) ?_;rintro bP ⟨bk,ek⟩;obtain⟨ag,C,d,K,S,A,W,_⟩:=nw ek ag fj C fk d fm K bn S ev A ew W (an.q ey);refine G.nil (fl ?_);refine eA (fun B=>aa (ay [ai]) bP B) [11] ?_;have M:aa (ay [ai]) bP bP:=aa.refl _ _;have ez:=ae.refl ai bP.size;refine U.t1 0 o (fun B n=>Y.fieldAddr (d.aJ n (au.T bm)).W o c8 o o h2 bc o) M ?_;refine U.t1 1 o (fun B n=>bf ((d.aJ n (au.T bm)).W.drop 2) jU) M ?_;refine U.t1 2 o (fun B n=>Y.fieldAddr (bk.aJ n (au.T bn.symm)).W o iI o o b3 bc o) M ?_;refine U.t1 3 o (fun B n=>Y.gO (bk.aJ n (au.T bn.symm)).W o cd o) M ?_;refine U.t1 4 o (fun B n=>Y.fieldAddr (bk.aJ n (au.T bn.symm)).W o iI o o ju bc o) M ?_;refine U.t1 5 o (fun B n=>bf ((bk.aJ n (au.T bn.symm)).W.drop 1) k1) M ?_;refine U.bg 6 ?_;refine cP sU (tu y.v.v y.l w0 _ (ag.n y bJ).any J) ?_;rintro gj aR ⟨bV,bb,rfl,aL,bq,eB⟩;have eE:=ak.app ak.z C.lt bq;have cR:=ak.app ak.z d.lt bq;have cA:=ak.app ak.z K.le bq;have eG:=ae.O (ae.refl 0 _) bq A.size;have eI:=ae.O (ae.refl 0 _) bq M.size;obtain⟨d,K,S,W,M,_⟩:=dH eB d K S W M;have f_:=aL.le;refine U.b5 M (ar.cons (an.r ez) (ar.T (an.q eI))) ?_;have M:aa (ay [ai,bb]) aR aR:=aa.refl _ _;have eM:=ae.refl ai aR.size;have eQ:=ae.refl bb aR.size;refine U.t1 7 o (fun B n=>Y.build (v:= .agg (gN ⟨y.n,bV,y.l⟩).toArray) o o fy) M ?_;refine U.bg 8 ?_;refine fC o (Z.c2 (dE _ ([(⟨y.n,bV,y.l⟩:hd)]) nT jo na)) ?_;rintro gk aC ⟨fO,eR,_⟩;have eS:=ak.new d.lt;have eo:=ae.new M.size;obtain⟨d,K,S,aL,W,M,_⟩:=fY eR d K S aL W M;refine U.b5 M (ar.cons (an.r eM) (ar.cons (an.r eQ) (ar.T (an.q eo)))) ?_;have M:aa (ay [ai,bb,(aR.size+1)]) aC aC:=aa.refl _ _;have cp:=ae.refl ai aC.size;have ep:=ae.refl bb aC.size;have dj:=ae.refl (aR.size+1) aC.size;refine U.bg 9 ?_;refine fC o (eO K fO.rd nT b2 b2) ?_;rintro cH cI ⟨cK,K,bt,be⟩;have be:=be.md;have b4:=ak.app bm d.lt bt;have dk:=ax.app f2 (bA.mono J) bt;have dm:=ak.app cA.symm aL.le bt;have dp:=ae.O cz bt W.size;have dq:=ae.O cp bt M.size;obtain⟨d,S,aL,W,M,_⟩:=g_ be d bm S f2 aL cA.symm W (an.q cz) M (an.r cp);have cW:=K.le;obtain⟨cL,rfl⟩:∃s:aO,cH=s.v:=⟨cF cH,K.bA.symm⟩;refine U.b5 M (ar.cons (an.r dq) (ar.cons (an.r ep) (ar.T (an.r dj)))) ?_;have M:aa (ay [cK,bb,(aR.size+1)]) cI cI:=aa.refl _ _;refine U.t1 10 o (fun B n=>Y.fieldAddr (d.aJ n (au.cons b4 (au.cons cR (au.T eS)))).W o c8 o o h2 bc o) M ?_;refine U.bg 11 ?_;refine iK o (du d 2 (cc ⟨s.ah,O,s.bm,cL,aB++[⟨y.n,bV,y.l⟩],{s.q with cx:=aV},dN,[]⟩) h2 (by rw[cq];omega) ((wU _ _))) ?_;rintro gp ⟨d,cD⟩;obtain⟨K,S,aL,W,_⟩:=dT cD K b4.symm S f1 aL cR.symm W (an.r c0);refine⟨.inl o,?_⟩;refine dB ?_;refine bQ (fh (I.region ?_));refine G.v1 bN ?_;refine G.af (G.nil ?_);refine aT.sub (hg (j+1,cL,cK,aB++[⟨y.n,bV,y.l⟩],fun b=>aH b∨b+1=bb) _ ?_ ?_) ⟨o,o,o,o,(aF J),(aF J),trivial⟩
   ·exact⟨J,d,K,wQ S (fun b e=> .inl e) (aL.rd.imp (fun b _ e=> .inr e)),bp.e8 (bA.mono J) aL.le,ax.e8 f1 cR,ax.e8 dk dm.symm,ax.e8 f5 eE,oD bB eG,by unfold c7 at bG⊢;rw[gg,bG,eP bF,gg,←a7];rfl,dp,b4,W⟩
   ·first|omega|(simp only;omega)|(simp;omega)
  ·
   obtain rfl:j=s.cj.length:=by omega
   rw[eD]at bG;refine I.exit (fI (ds (fE ?_)));refine cJ (I.t1 (fun eT=>I.O (fun eU=>?_)));refine G.aX R.W.lk c8 eN fD ?_;refine G.v1 (bu ag.e dy) ?_;refine G.af (G.nil (eU ?_));refine I.aC (fun _ eV _=>?_)
   refine I.bb (fun(bL:Nat×aO×Nat×(List bU)×(Nat→Prop))=>match bL with|(i,a6,a_,aD,aJ)=>[(2,.pointer (some ⟨H1.size,0,none⟩)),(3,.pointer (some ⟨V,0,none⟩)),(42,s.cG.v),(43,.int .i64 (s.el.length:Int)),(44,.int .i64 (i:Int))])
    (fun(i,a6,a_,aD,aJ) (H:Heap)=>(i≤s.el.length)∧Var 47 H V (cc ⟨s.ah,O,s.bm,s1,aB,{s.q with cx:=aV},a6,aD⟩)∧aY a_ 68 H cb 33 a6.v aD∧(∀x∈aD,Rd aJ H bd 1 x.v.v x.d)∧bp aJ H.size∧ax aJ (V+1)∧ax aJ a_∧ax aJ (H1.size+1)∧(∀c,aJ c→N.size≤c)∧da aD=da (s.el.take i)∧ae 0 bT.size a_∧ak (V+1) a_∧aa (ay [(V+1)]) bT H)
    (fun(i,a6,a_,aD,aJ)=>s.el.length-i) (0,dN,0,[],fun _=>False) ⟨o,o,o,o,o,trivial⟩ ?_ ?_
   ·
    exact⟨J,d,aY.nil eb iQ,(fun x h=>by cases h),(fun b e=>e.elim),(fun b e=>e.elim),(fun b e=>e.elim),(fun b e=>e.elim),(fun c e=>e.elim),rfl,ae.refl _ _,ak.z,aa.refl _ _⟩
   rintro⟨i,a6,a_,aD,aJ⟩ fL fo gl eW eY;obtain⟨gu,d,P,af,aj,f3,f4,f6,a2,bH,aX,cO,X⟩:=fo;have dx:=ak.app ak.z C.lt aX;have dz:=ak.app ak.z or.le aX;have dC:=ak.app ak.z aG.le aX;have dF:=ak.app ak.z K.le aX;have dI:=ax.app ax.z (bA.mono J) aX;have dK:=ae.O (ae.refl 0 _) aX A.size;obtain⟨ag,C,or,aG,K,S,A,_⟩:=nw X ag bX C bY or a9 aG b8.symm K bm.symm S f1 A b0;have cX:=P.le;have bR:=cO;have c2:=ae.refl (V+1) bT.size;have a0:=aX;refine I.O (fun eZ=>?_);refine G.v1 bZ (G.nil (eZ ?_));refine I.t2 (fun e0 e1=>?_);refine a8 (fun fp=>?_) (fun fp=>?_)
   ·
    refine I.skip (e0 (I.t1 (fun e2=>I.aC (fun e3 _ _=>I.O (fun e4=>?_)))));have bF:i<s.el.length:=by omega
    obtain⟨y,a7⟩:∃q,q=s.el[i]:=⟨_,o⟩;have bJ:y∈s.el:=by rw[a7];exact cU bF
    have fN:=z5 y bJ;have gx:aD.length=i:=by have ck:=aI List.length bH;simp only[da,dg,eJ]at ck;omega
    refine G.cn (Y.cg ag.e i o dy db o o) fun gf er=>?_;refine G.v1 (Y.cast (v2:= .agg (cb y).toArray) (ba er.W kH db (eb _)) (by rw[a7])) ?_;refine G.aU (Z.a7 oo) ?_;rintro gy fS ⟨rfl,bl,fq,_⟩;have dL:=ax.new (ca.mono A.size);have dM:=ak.new C.lt;have dQ:=ak.new d.lt;have ap:=ak.new P.le;have dS:=(ax.new (aj.mono J):ax _ (fL.size+1));have dU:=ae.new A.size;have dV:=ae.new X.size;obtain⟨ag,C,d,P,af,A,X,_⟩:=kr fq ag C d P af A X;refine G.s1 (et bl _ (cb y) (iQ y) db (eb _) ((dD (eb _).symm))) ?_;rintro bS ⟨bl,ei⟩;obtain⟨ag,C,d,P,af,A,X,_⟩:=nw ei ag dL C dM d dQ P ap af dS A dU X (an.q dV);refine G.nil (e4 ?_);refine eA (fun B=>aa (ay [a_]) bS B) [11] ?_;have L:aa (ay [a_]) bS bS:=aa.refl _ _;have dX:=ae.refl a_ bS.size;refine U.t1 0 o (fun B n=>Y.fieldAddr (d.aJ n (au.T bR)).W o c8 o o eN bc o) L ?_;refine U.t1 1 o (fun B n=>Y.gO (d.aJ n (au.T bR)).W.lk o fD o) L ?_;refine U.t1 2 o (fun B n=>Y.fieldAddr (bl.aJ n (au.T ap.symm)).W o gU o o bx bc o) L ?_;refine U.t1 3 o (fun B n=>Y.cast (v2:=bM y.k) (ba ((bl.aJ n (au.T ap.symm)).W.take 32) cZ bx (by rw[show(cb y).take 32=b9 y.k from gS y];exact bI _)) (c4 (show(cb y).take 32=b9 y.k from gS y))) L ?_;refine U.t1 4 o (fun B n=>Y.fieldAddr (bl.aJ n (au.T ap.symm)).W o gU o o dt bc o) L ?_;refine U.t1 5 o (fun B n=>Y.gO (bl.aJ n (au.T ap.symm)).W.mP o fe o) L ?_;refine U.bg 6 ?_;refine cP rA (qk y.v.v y.d w0 _ (ag.d y bJ).any J) ?_;rintro gm aS ⟨bC,bg,rfl,aK,bw,eu⟩;have dY:=ak.app ak.z C.lt bw;have b5:=ak.app ak.z d.lt bw;have a3:=ak.app ak.z P.le bw;have dZ:=ae.O (ae.refl 0 _) bw A.size;have d_:=ae.O (ae.refl 0 _) bw L.size;obtain⟨d,P,af,X,L,_⟩:=dH eu d P af X L;have fW:=aK.le;refine U.b5 L (ar.cons (an.r dX) (ar.T (an.q d_))) ?_;have L:aa (ay [a_,bg]) aS aS:=aa.refl _ _;have ec:=ae.refl a_ aS.size;have ee:=ae.refl bg aS.size;refine U.t1 (v:=mQ ⟨y.k,bC,y.d⟩) 7 o (fun B n=>?_) L ?_
    ·exact Y.build (v:=mQ ⟨y.k,bC,y.d⟩) o o (by intro w;exact sS _ _ _)
    refine U.bg 8 ?_;refine fC o (Z.c2 (dE _ ([(⟨y.k,bC,y.d⟩:bU)]) k7 eb iQ)) ?_;rintro gn bE ⟨fP,eK,_⟩;have ef:=ak.new d.lt;have eg:=ae.new L.size;obtain⟨d,P,af,aK,X,L,_⟩:=fY eK d P af aK X L;refine U.b5 L (ar.cons (an.r ec) (ar.cons (an.r ee) (ar.T (an.q eg)))) ?_;have L:aa (ay [a_,bg,(aS.size+1)]) bE bE:=aa.refl _ _;have a4:=ae.refl a_ bE.size;have c3:=ae.refl bg bE.size;have c6:=ae.refl (aS.size+1) bE.size;refine U.bg 9 ?_;refine fC o (eO P fP.rd k7 b2 b2) ?_;rintro bo cB ⟨cC,P,bz,bi⟩;have bi:=bi.md;have b6:=ak.app bR d.lt bz;have c9:=ax.app f4 (aj.mono J) bz;have dc:=ak.app a3.symm aK.le bz;have de:=ae.O a0 bz X.size;have df:=ae.O a4 bz L.size;obtain⟨d,af,aK,X,L,_⟩:=g_ bi d bR af f4 aK a3.symm X (an.q a0) L (an.r a4);have cX:=P.le;obtain⟨eH,rfl⟩:∃s:aO,bo=s.v:=⟨cF bo,P.bA.symm⟩;refine U.b5 L (ar.cons (an.r df) (ar.cons (an.r c3) (ar.T (an.r c6)))) ?_;have L:aa (ay [cC,bg,(aS.size+1)]) cB cB:=aa.refl _ _;refine U.t1 10 o (fun B n=>Y.fieldAddr (d.aJ n (au.cons b6 (au.cons b5 (au.T ef)))).W o c8 o o eN bc o) L ?_;refine U.bg 11 ?_;refine iK o (du d 73 (cc ⟨s.ah,O,s.bm,s1,aB,{s.q with cx:=aV},eH,aD++[⟨y.k,bC,y.d⟩]⟩) eN (by rw[cq];omega) ((Ac _ _))) ?_;rintro fX ⟨d,cY⟩;obtain⟨P,af,aK,X,_⟩:=dT cY P b6.symm af f3 aK b5.symm X (an.r c2);refine⟨.inl o,?_⟩;refine dB ?_;refine e3 (e2 (I.region ?_));refine G.v1 bN ?_;refine G.af (G.nil ?_);refine aT.sub (eW (i+1,eH,cC,aD++[⟨y.k,bC,y.d⟩],fun b=>aJ b∨b+1=bg) _ ?_ ?_) ⟨o,o,o,(aF J),(aF J),trivial⟩
    ·exact⟨J,d,P,wQ af (fun b e=> .inl e) (aK.rd.imp (fun b _ e=> .inr e)),bp.e8 (aj.mono J) aK.le,ax.e8 f3 b5,ax.e8 c9 dc.symm,ax.e8 f6 dY,oD a2 dZ,by unfold da at bH⊢;rw[gg,bH,eP bF,gg,←a7];rfl,de,b6,X⟩
    ·first|omega|(simp only;omega)|(simp;omega)
   ·
    obtain rfl:i=s.el.length:=by omega
    rw[eD]at bH;refine I.exit (e1 (eY (eV ?_)));refine eT (I.O (fun c5=>?_));refine G.v1 (ba d.W fV dJ (cq _)) ?_;refine G.s1 (et C _ (cc ⟨s.ah,O,s.bm,s1,aB,{s.q with cx:=aV},a6,aD⟩) (kK _) dJ (cq _) ((dD (cq _).symm))) ?_;rintro dd ⟨C,ej⟩;obtain⟨or,aG,K,S,P,af,A,_⟩:=nw ej or e_.symm aG co.symm K fg.symm S f5 P dx.symm af f6 A fx;refine G.nil (c5 ?_);refine I.ret (fM .ret (.inr o) _ _ _ (lg o o C.W fV dJ (cq _)) ?_);exact⟨⟨s.ah,O,s.bm,s1,aB,{s.q with cx:=aV},a6,aD⟩,a_,(fun b=>b+1=av∨b+1=dl∨b+1=ai∨aH b∨aJ b),rfl,⟨or.rd.imp (fun b _ e=> .inl e),K.rd.imp (fun b _ e=> .inr (.inr (.inl e))),(fun y hy=>(S y hy).imp (fun b _ e=> .inr (.inr (.inr (.inl e))))),aG.rd.imp (fun b _ e=> .inr (.inl e)),(fun y hy=>(af y hy).imp (fun b _ e=> .inr (.inr (.inr (.inr e)))))⟩,P,dK,(fun b e=>by have bh:=or.le;have bW:=aG.le;have cw:=K.le;rcases e with e|e|e|e|e;omega;omega;omega;exact(bA.mono J) b e;exact(aj.mono J) b e),(fun c e=>by have bh:=dG;have bW:=fc;have cw:=cs;unfold ae at bh bW cw;rcases e with e|e|e|e|e;omega;omega;omega;exact bB c e;exact a2 c e),(fun b e ab=>by rcases e with e|e|e|e|e;exact dz b e ab;exact dC b e ab;exact dF b e ab;exact dI b e ab;exact f4 b e ab),by unfold dR.m;simp only[bG,bH];rfl,A⟩
end iN
namespace sH
open gV lq e2 ow hn xi pd jH iN
theorem Eg{a:bU}{i:Nat}{x:UInt8}(h:a.k.1[i]?=some x):((cb a).drop 0)[i]?=some (.int .u8 x.toNat):=by
 rw[nh,cb,List.getElem?_append_left (by rw[bI];have:=(List.getElem?_eq_some_iff.1 h).1;rw[a.k.2]at this;exact this),b9,List.getElem?_map,h];rfl
def sG(l:List bU):Prop:=l.Pairwise (fun a b=>blt a.k.1 b.k.1)
theorem sG.of{l:List bU}(h:ei (da l)):sG l:=by unfold ei da at h;rw[qG]at h;exact h
theorem Ly(a b:bU)(w0:World)(N:Heap)
 :
 aE Tryz.prog w0 61 #[mQ a,mQ b] N (fun r n=>r= .int .i64 (Lib.compareBytes a.k.1 b.k.1)∧al N n):=by
 refine aE.aP [mQ a,mQ b] Tryz.func61 ?_;intro P M;have d:al N N:=aa.refl _ _;refine I.O (fun E=>?_);refine G.aU Z.bv ?_;rintro v2 n ⟨rfl,j,H,_⟩;obtain⟨d,_⟩:=b6 H d;have j:Var 68 n N.size (cb a):=j;refine G.aU Z.bv ?_;rintro v3 C ⟨rfl,q,ac,_⟩;obtain⟨j,d,_⟩:=bO ac j d;have q:Var 68 C n.size (cb b):=q;refine G.aj ?_;refine E (I.t1 (fun ad=>?_));refine ka 4 (fun Q L=>?_);refine G.aV gU bx ?_;refine G.aP (g:=fun v=>v) (Y.uc (F:=fun c=>c=N.size) (f:=bd) (xs:=a.k.1) j.W o j.lt a.k.2 (fun i x h=>⟨Eg h,o⟩) (0) (32) o (fun w=> .inl (nv w)) dK o (.inl ⟨o,o⟩) (.inl ⟨o,o⟩) J J bc) fun v6 A=>?_;rw[nh,eY (by rw[a.k.2];omega)]at A;refine G.aV gU bx ?_;refine G.aP (g:=fun v=>v) (Y.uc (F:=fun c=>c=n.size) (f:=bd) (xs:=b.k.1) q.W o q.lt b.k.2 (fun i x h=>⟨Eg h,o⟩) (0) (32) o (fun w=> .inl (nv w)) dK o (.inl ⟨o,o⟩) (.inl ⟨o,o⟩) J J bc) fun R B=>?_;rw[nh,eY (by rw[b.k.2];omega)]at B;refine G.nil (L _ ?_);refine aW IN (Jn _ _ a.k.1 b.k.1 w0 _ A.any B.any) ?_;rintro v9 O ⟨rfl,K⟩;have d:=d.O K;refine G.aj ?_;refine ad ?_;refine I.ret (M ?_);exact⟨o,d⟩
theorem D4(w0:World)(H:Heap)(x y:bU):im Tryz.prog w0 (.func (.func 61) #[] #[]) [mQ x,mQ y] H (fun r d=>r= .int .i64 (Lib.compareBytes x.k.1 y.k.1)∧al H d):=
 im.of (caps:=[]) IM (Ly x y w0 H)
theorem HA(v1:Value)(l:List bU)(x:bU)(w0:World)(N:Heap)
 (C:b7 N cb 33 v1 l)(bb:l.length≤1000000)(ag:sG l):
 aE Tryz.prog w0 60 #[v1,mQ x,.func (.func 61) #[] #[]] N (fun r X=>∃at_:Nat,∃fd:Bool,r= .tuple #[.int .i64 (at_:Int),.bool fd]∧(at_≤l.length∧(∀j (h:j<l.length),j<at_→blt l[j].k.1 x.k.1)∧(∀j (h:j<l.length),at_≤j→¬blt l[j].k.1 x.k.1))∧(fd=true↔∃h:at_<l.length,l[at_].k=x.k)∧al N X):=by
 refine aE.aP [v1,mQ x,.func (.func 61) #[] #[]] Tryz.func60 ?_;intro aS W;have E:al N N:=aa.refl _ _;have C:=C.ch;refine I.O (fun aG=>?_);refine G.aU Z.bv ?_;rintro v4 P ⟨rfl,F,aH,_⟩;obtain⟨C,E,_⟩:=bO aH C E;have F:Var 68 P N.size (cb x):=F;refine G.aZ 2 ?_;refine aG (I.O (fun a7=>?_));refine G.af ?_;refine G.v1 (bu C dy) ?_;refine G.aj ?_;refine a7 (I.O (fun aJ=>?_));refine G.aZ 3 ?_;refine aJ (I.t1 (fun aK=>I.aC (fun _ aL _=>?_)))
 refine I.bb (fun(aQ:Nat×Nat)=>match aQ with|(i,j)=>[(0,v1),(2,.func (.func 61) #[] #[]),(4,.pointer (some ⟨N.size,0,none⟩)),(8,.int .i64 (l.length:Int)),(9,.int .i64 (i:Int)),(10,.int .i64 (j:Int))])
  (fun(i,j) (H:Heap)=>(i≤j∧j≤l.length)∧(∀q (h:q<l.length),q<i→blt l[q].k.1 x.k.1)∧(∀q (h:q<l.length),j≤q→¬blt l[q].k.1 x.k.1)∧al P H)
  (fun(i,j)=>j-i) (0,l.length) ⟨o,o,o,o,o,o,trivial⟩ ?_ ?_
 ·
  exact⟨J,fun q h ab=>by omega,fun q h ab=>by omega,aa.refl _ _⟩
 rintro⟨i,j⟩ am aN aR S ae;obtain⟨a_,M,ab,L⟩:=aN;obtain⟨C,F,E,_⟩:=cf L C F E;refine I.t2 (fun af ai=>I.O (fun ak=>?_));refine G.av 2 ?_;refine G.v1 bZ (G.nil (ak ?_));refine a8 (fun an=>?_) (fun an=>?_)
 ·
  refine I.skip (af (I.aC (fun ap _ _=>I.O (fun ax=>?_))));refine G.av 2 ?_;refine G.v1 (Y.cast (v2:= .int .i64 ((i+j:Nat):Int)) bN (eI J)) ?_;refine G.v1 (Y.jm o gZ Ar o) ?_;refine G.v1 (Y.cast (v2:= .int .u64 (((i+j)/2:Nat):Int)) (Y.ua (1) o o o gP J) (by rw[q2,l_,oT J])) ?_;refine G.v1 (Y.qs o Ar gZ o (IntWalk.i64_in _ J)) ?_;refine G.aj ?_;refine ax (I.t1 (fun ay=>?_));refine ka 6 (fun aU aO=>?_);refine G.av 3 ?_;refine G.cn (Y.pC C ((i+j)/2) o dy db o o gP J) fun aV aB=>?_;refine G.v1 (ba aB.W kH db (eb _)) ?_;refine G.v1 (ba F.W kH db (eb _)) ?_;refine G.nil (aO _ ?_);refine G.qp o o o cS o o (D4 w0 _ _ x) ?_;rintro aX aZ ⟨rfl,aC⟩;obtain⟨L,_⟩:=b6 aC L;refine G.v1 bZ (G.nil (ay ?_));refine a8 (fun ac=>?_) (fun ac=>?_)
  ·
   refine I.region ?_;refine G.af ?_;refine G.v1 bN ?_;refine G.aj ?_;refine ap ?_;refine aT.sub (S ((i+j)/2+1,j) _ ?_ ?_) ⟨o,o,o,(aF J),(aF J),(aF J),trivial⟩
   ·exact⟨J,fun q h O=>by
     by_cases A:q=(i+j)/2
     ·subst A;exact sY.1 ac
     ·exact ql (DD.1 ag q ((i+j)/2) h J J) (sY.1 ac),ab,L⟩
   ·first|omega|(simp only;omega)|(simp;omega)
  ·
   refine I.region ?_;refine G.aZ 2 ?_;refine ap ?_;refine aT.sub (S (i,(i+j)/2) _ ?_ ?_) ⟨o,o,o,(aF J),(aF J),(aF J),trivial⟩
   ·exact⟨J,M,fun q h O V=>by
     by_cases A:q=(i+j)/2
     ·subst A;exact absurd (sY.2 V) ac
     ·exact absurd (sY.2 (ql (DD.1 ag ((i+j)/2) q J h J) V)) ac,L⟩
   ·first|omega|(simp only;omega)|(simp;omega)
 ·
  refine I.exit (ai (ae (aL ?_)));refine aK (I.t1 (fun Q=>?_));refine eA (fun B=>al am B) [] ?_;have n:=al.refl am;refine U.af 0 o n ?_;refine U.af 1 o n ?_;refine U.af 2 o n ?_;refine U.t1 3 o (fun B A=>bZ) n ?_;refine U.af 4 o n ?_;refine U.bL (d:=39) o (fun ar=>?_) (fun ar=>?_)
  ·
   refine U.cB 5 o (fun B A=>gj) bR n ?_;refine U.cB 6 o (fun B A=>gj) bR n ?_;refine U.cB 7 o (fun B A=>gj) bR n ?_;refine U.e (g:=fun ad=> .pointer (some ad)) 8 bD o bD bD bD (Y.pC C _ o dy db o o o ic) bR o o n (fun aW az=>?_);refine U.cB 9 o (fun B A=>ba (az.W.aR A) kH db (eb _)) bR n ?_;refine U.cB 10 o (fun B A=>ba (F.W.aR A) kH db (eb _)) bR n ?_;refine U.bg 11 ?_;refine e_.qp o o o o bR o o (D4 w0 _ _ x) ?_;rintro a6 aD ⟨rfl,R⟩;obtain⟨E,_⟩:=b6 R E;have av:=n.O R;refine U.dx av ?_;have K:=al.refl aD;refine U.cB 12 o (fun B A=>cC) bR K ?_;refine U.t1 13 o (fun B A=>ga) K ?_;refine U.t1 14 o (fun B A=>gp) K ?_;refine U.t1 15 o (fun B A=>gp) K ?_;refine dB ?_;have aP:=K;refine Q ?_;refine I.ret (W ?_);exact⟨i,_,o,⟨by omega,M,fun q h O=>ab q h J⟩,⟨fun h=>⟨by omega,hr (x8.1 (ki h))⟩,fun⟨_,h⟩=>cT (x8.2 (by rw[h]))⟩,E⟩
  ·
   refine U.g1 5 o o o o n ?_;refine U.g1 6 o o o o n ?_;refine U.g1 7 o o o o n ?_;refine U.g1 8 o o o o n ?_;refine U.g1 9 o o o o n ?_;refine U.g1 10 o o o o n ?_;refine U.g1 11 o o o o n ?_;refine U.g1 12 o o o o n ?_;refine U.t1 13 o (fun B A=>fT) n ?_;refine U.t1 14 o (fun B A=>gp) n ?_;refine U.t1 15 o (fun B A=>gp) n ?_;refine dB ?_;have aP:=n;refine Q ?_;refine I.ret (W ?_);exact⟨i,_,o,⟨by omega,M,fun q h O=>ab q h J⟩,⟨fun h=>(by cases h),fun⟨h,_⟩=>J⟩,E⟩
abbrev xf(z:aO×List dw):Value:=z.1.v
abbrev o9:aO×List dw:=(dN,[])
theorem zm{β:Type}{m:List (aD×β)}{k:aD}{b:β}{p:aD×β}(h:p∈hk m k b):p.2=b∨p∈m:=by
 unfold hk at h;split at h
 ·obtain⟨q,d,e⟩:=cN.1 h
  split at e
  ·rw[←e];exact .inl o
  ·rw[←e];exact .inr d
 ·rcases gG.1 h with h|h
  ·exact .inr h
  ·rw[eU.1 h];exact .inl o
theorem K_{l:List hd}{m:List (aD×(aO×List dw))}{j:Nat}(aB:((c7 l).map (·.1)).Nodup)(h:∀q,(aH m q).map (·.2)=aH (c7 (l.take j)) q)(n:j<l.length):∀q,(aH (hk m l[j].n (l[j].v,l[j].l)) q).map (·.2)=aH (c7 (l.take (j+1))) q:=by
 intro q;have e:c7 (l.take (j+1))=c7 (l.take j)++[(l[j].n,l[j].l)]:=by unfold c7;rw[eP n,gg];rfl
 have A:aH (c7 (l.take j)) l[j].n=none:=by
  cases x:aH (c7 (l.take j)) l[j].n with
  |none=>rfl
  |some z=>
   have r:=gF.1 (show(aH (c7 (l.take j)) l[j].n).isSome=true by rw[x];rfl)
   have ab:(c7 l).map (·.1)=(c7 (l.take j)).map (·.1)++l[j].n::(c7 (l.drop (j+1))).map (·.1):=by
    conv=>lhs;rw[←hY j l,oS n]
    unfold c7;rw[gg,gg,dk,dk]
   rw[ab,nY]at aB;exact absurd o (aB.2.2 _ r _ gw)
 rw[nn,e,xh.zh];by_cases d:q=l[j].n
 ·rw[aM d,d,A,aM rfl];rfl
 ·rw[aA d,aA d,h];simp
theorem Fh{aQ:Nat→Prop}{H:Heap}{m:List (aD×(aO×List dw))}{k:aD}{z:aO×List dw}(h:∀p∈m,Rd aQ H ff 65 p.2.1.v p.2.2)(d:z=(aH m k).getD o9):Rd aQ H ff 65 z.1.v z.2:=by
 cases j:aH m k with
 |none=>rw[j]at d;rw[d];exact Rd.nil _ _ _ _
 |some y=>rw[j]at d;rw[d];exact h _ (E.sf j)
theorem K6{m:List (aD×(aO×List dw))}{k:aD}{z:aO×List dw}{n:Nat}(h:∀p∈m,p.2.2.length≤n)(d:z=(aH m k).getD o9):z.2.length≤n:=by
 cases j:aH m k with
 |none=>rw[j]at d;rw[d];exact iT _
 |some y=>rw[j]at d;rw[d];exact h _ (E.sf j)
theorem K9{m:List (aD×(aO×List dw))}{L:m1}{y:bY}{s:aO}{z:aO×List dw}(h:∀q,(aH m q).map (·.2)=aH L q)(fu:ei L)(hw:¬y.w=bJ)(j:z=(aH m y.n).getD o9):∀q,(aH (hk m y.n (s,j0 (z.2++[⟨y.T,y.w,y.y⟩]))) q).map (·.2)=aH (js L y) q:=by
 intro q
 have e:(aH L y.n).getD []=z.2:=by
  rw[←h]
  cases n:aH m y.n with
  |none=>rw[n]at j;rw[j];rfl
  |some w=>rw[n]at j;rw[j];rfl
 unfold js;rw[aA hw,nn,tC _ _ _ _ fu,e];by_cases d:q=y.n
 ·rw[aM d,aM d];rfl
 ·rw[aA d,aA d,h]
theorem K7{m:List (aD×(aO×List dw))}{L:m1}{y:bY}(h:∀q,(aH m q).map (·.2)=aH L q)(hw:y.w=bJ):∀q,(aH (e4 m y.n) q).map (·.2)=aH (js L y) q:=by
 intro q;unfold js;rw[aM hw,lH,lH];by_cases d:q=y.n
 ·rw[aM d,aM d];rfl
 ·rw[aA d,aA d,h]
def j5(m:List (aD×dv))(x:aD):dq:=⟨x,(aH m x).getD bJ⟩
def kt(m:List (aD×(aO×List dw)))(x:aD):hd:=⟨x,((aH m x).getD o9).1,((aH m x).getD o9).2⟩
theorem zf{β:Type}(f:aD→β):∀(out:List aD) (q:aD),aH (out.map (fun x=>(x,f x))) q=if q∈out then some (f q)else none
 |[],q=>by simp[aH]
 |x::out,q=>by
  rw[dk,aH,zf f out q];by_cases d:q=x
  ·subst d;simp
  ·simp[d]
theorem Dj{β:Type}{f:aD→β}{out:List aD}(h:h7 out):ei (out.map (fun x=>(x,f x))):=by
 unfold ei;rw[qG];exact h
theorem J_{m:List (aD×dv)}{u:e1}{out:List aD}(hu:ei u)(n:∀q,aH m q=aH u q)(j:h7 out)(hm:∀k,k∈out↔k∈m.map (·.1)):bX (out.map (j5 m))=u:=by
 have e:bX (out.map (j5 m))=out.map (fun x=>(x,(aH m x).getD bJ)):=by simp[bX,j5]
 rw[e];refine yw (Dj j) hu (fun q=>?_);rw[zf,←n];by_cases h:q∈out
 ·rw[aM h]
  have ab:=gF.2 ((hm q).1 h);obtain⟨z,d⟩:=tl.1 ab;rw[d];rfl
 ·rw[aA h]
  cases d:aH m q with
  |none=>rfl
  |some z=>exact absurd ((hm q).2 (gF.1 (by rw[d];rfl))) h
theorem J9{m:List (aD×dv)}{w:List (aD×(aO×List dw))}{u:e1}{L:m1}{out:List aD}(A:ei L)(B:L.map (·.1)=u.map (·.1))(E:∀q,aH m q=aH u q)(hw:∀q,(aH w q).map (·.2)=aH L q)(C:h7 out)(hm:∀k,k∈out↔k∈m.map (·.1)):c7 (out.map (kt w))=L:=by
 have e:c7 (out.map (kt w))=out.map (fun x=>(x,((aH w x).getD o9).2)):=by simp[c7,kt]
 rw[e];refine yw (Dj C) A (fun q=>?_)
 have r:q∈out↔(aH L q).isSome=true:=by
  rw[hm,←gF,E,gF,←B,gF]
 rw[zf];by_cases h:q∈out
 ·rw[aM h]
  obtain⟨z,j⟩:=tl.1 (r.1 h);rw[j];have d:=hw q;rw[j]at d
  cases n:aH w q with
  |none=>rw[n]at d;cases d
  |some y=>rw[n]at d;rw[←d];rfl
 ·rw[aA h]
  cases j:aH L q with
  |none=>rfl
  |some z=>exact absurd (r.2 (by rw[j];rfl)) h
theorem zl(y:bU)(s:aO):(cb y).set 32 s.v=cb ⟨y.k,s,y.d⟩:=by
 unfold cb;rw[List.set_append,aA (by rw[bI];omega),bI];rfl
theorem CG{l:List bU}{x:bU}{p:Nat}(d:∀j (h:j<l.length),j<p→blt l[j].k.1 x.k.1)(q:p<l.length)(ab:l[p].k=x.k):da (l.set p x)=fm (da l) x.k.1 x.d:=by
 rw[Ko (k:=p) (by simpa[da]using q) (fun j h n=>by have:=d j (by simpa[da]using h) n;simpa[da]using this) (by simp[da,ab])];simp[da,vD]
theorem JP{l:List bU}{x:bU}{p:Nat}(n:∀j (h:j<l.length),j<p→blt l[j].k.1 x.k.1)(q:∀j (h:j<l.length),p≤j→¬blt l[j].k.1 x.k.1)(E:p≤l.length)(ab:¬ ∃h:p<l.length,l[p].k=x.k):da (l.take p++x::l.drop p)=fm (da l) x.k.1 x.d:=by
 rw[yy (k:=p) (by simpa[da]using E) (fun j h C=>by have:=n j (by simpa[da]using h) C;simpa[da]using this) (fun h=>by
  have d:p<l.length:=by simpa[da]using h
  have r:=q p d (dz _);have A:¬l[p].k=x.k:=fun e=>ab ⟨d,e⟩;simp only[da,oV];refine mb (fun B=>A (hr (oH r B))))]
 simp[da,tk,vH]
theorem FD{F aQ:Nat→Prop}{H:Heap}{l:List bU}{x:bU}(p:Nat)(h:∀y∈l,Rd F H bd 1 y.v.v y.d)(d:∀b,F b→aQ b)(j:Rd aQ H bd 1 x.v.v x.d):∀y∈l.set p x,Rd aQ H bd 1 y.v.v y.d:=by
 intro y hy;rcases List.mem_or_eq_of_mem_set hy with hy|hy
 ·exact(h y hy).imp (fun b _ e=>d b e)
 ·rw[hy];exact j
theorem KJ{F aQ:Nat→Prop}{H:Heap}{l:List bU}{x:bU}(p:Nat)(h:∀y∈l,Rd F H bd 1 y.v.v y.d)(d:∀b,F b→aQ b)(j:Rd aQ H bd 1 x.v.v x.d):∀y∈l.take p++x::l.drop p,Rd aQ H bd 1 y.v.v y.d:=by
 intro y hy;rcases gG.1 hy with hy|hy
 ·exact(h y (kQ hy)).imp (fun b _ e=>d b e)
 ·rcases dU.1 hy with hy|hy
  ·rw[hy];exact j
  ·exact(h y (y2 hy)).imp (fun b _ e=>d b e)
theorem GP{el:List bU}{l:mw}{n:Nat}:(iu l (el.take n)).length≤l.length+n:=by
 have d:=xF (el.take n) l;have ab:(el.take n).length≤n:=by rw[eJ];exact y1 _ _
 omega
set_option maxHeartbeats 16000000 in
theorem Bf(s:dR)(t:bS)(F eG:Nat→Prop)(w0:World)(N:Heap)
 (ag:fr F N s)(dZ:bp F N.size)(M:gk eG N t)(cr:bp eG N.size)(ok:s.m.Ok)(aq:eL s.m t=0)(ev:oy t):
 aE Tryz.prog w0 24 #[fZ s,fo t] N (fun r bw=>∃ew:dR,r=fZ ew∧fr (fun b=>N.size≤b) bw ew∧ew.m=s.m.ap t∧al N bw):=by
 refine aE.enter (args:=[fZ s,fo t]) Tryz.func24 o o o ?_;intro ky kk;have B:al N N:=aa.refl _ _;have lS:=ok.ap aq;have fM:=u1 aq;have lT:=ev.bj;have lU:=ev.ml;have lV:=ev.el;have z3:=ok.kT;refine I.O (fun jX=>?_);refine G.aU Z.bv ?_;rintro v2 bw ⟨rfl,aR,jY,_⟩;obtain⟨ag,M,B,_⟩:=cf jY ag M B;have aR:Var 47 bw N.size (cc s):=aR;refine G.aU Z.bv ?_;rintro v3 bn ⟨rfl,L,jZ,_⟩;obtain⟨ag,M,aR,B,_⟩:=ed jZ ag M aR B;have L:Var 32 bn bw.size (dM t):=L;refine G.aU (Z.a7 mq) ?_;rintro v4 ku ⟨rfl,C,j1,_⟩;have iJ:=ae.new B.size;obtain⟨ag,M,aR,L,B,_⟩:=dH j1 ag M aR L B;refine G.nil (jX (I.O (fun fn=>?_)));refine G.v1 (ba aR.W fV dJ (cq _)) ?_;refine aW x4 (Ao s F w0 _ ag (dZ.mono B.size) ok) ?_;rintro f1 R ⟨s2,cw,aQ,rfl,E,A,eo,j8,gl,ek,b_,bo⟩;have eH:=ax.app ax.z (cr.mono B.size) eo;have fh:=ak.app ak.z C.lt eo;have fi:=ae.O (ae.refl 0 _) eo B.size;obtain⟨ag,M,aR,L,C,B,_⟩:=fY bo ag M aR L C B;have eQ:=A.le;have az:=j8;have dC:ax _ (bn.size+1):=ax.jV gl (by first|exact lJ|exact lK|omega);have lN:=E.g.len;have ej:∀c,aQ c→N.size≤c:=fun c e=>by have bh:=gl c e;omega
 refine G.aU (Z.a7 mq) ?_;rintro v5 kv ⟨rfl,d,j2,_⟩;have dF:=ax.new (dZ.mono B.size);have bH:=ax.new (cr.mono B.size);have dI:=ak.new aR.lt;have bL:=ak.new L.lt;have bR:=ak.new C.lt;have bT:=ak.new A.le;have bB:=(ax.new (az.mono J):ax _ (R.size+1));have bV:=ae.new B.size;obtain⟨ag,M,aR,L,C,A,E,B,_⟩:=fP j2 ag M aR L C A E B;refine G.s1 (et d _ (cc s2) (kK _) dJ (cq _) ((dD (cq _).symm))) ?_;rintro bi ⟨d,gX⟩;obtain⟨ag,M,aR,L,C,A,E,B,_⟩:=jG gX ag dF M bH aR dI L bL C bR A bT E bB B bV;refine G.nil (fn ?_)
 refine I.cut (fun(aL:(List UInt8))=>[(2,.pointer (some ⟨N.size,0,none⟩)),(3,.pointer (some ⟨bw.size,0,none⟩)),(4,.pointer (some ⟨bn.size,0,none⟩)),(5,.pointer (some ⟨R.size,0,none⟩))])
  (fun(aL:(List UInt8)) (H:Heap)=>(Var 47 H R.size (cc {s2 with ah:=aL}))∧(aL=if t.bz=true then t.ah else s2.ah)∧aa (ay [(R.size+1)]) bi H) (fun _ gf _=>?_) ?_
 ·
  have cT:aa (ay [(R.size+1)]) bi bi:=aa.refl _ _;have gv:=ae.refl (R.size+1) bi.size;refine I.O (fun j3=>?_);refine G.a6 L.W bP ee fc ?_;refine G.nil (j3 ?_);refine dm (fun dd=>?_) (fun dd=>?_)
  ·
   refine I.region ?_;refine G.a6 L.W bP b3 cd ?_;refine G.aV c8 b3 ?_;refine G.s1 (du d 0 (cc {s2 with ah:=t.ah}) b3 (by rw[cq];omega) ((FP _))) ?_;rintro ln ⟨d,gG⟩;obtain⟨cT,_⟩:=c0 gG cT (an.r gv);refine G.nil ?_;refine aT.sub (gf t.ah _ ?_) ⟨o,o,o,o,trivial⟩;exact⟨d,by rw[aM dd],cT⟩
  ·
   refine I.skip ?_;refine aT.sub (gf s2.ah _ ?_) ⟨o,o,o,o,trivial⟩;exact⟨d,by rw[aA (by simp[dd])],cT⟩
 ·
  intro aL cL a0;obtain⟨d,ka,gC⟩:=a0;obtain⟨ag,M,aR,L,C,A,E,B,_⟩:=jG gC ag dF M bH aR dI L bL C bR A bT E bB B bV
  refine I.cut (fun(bD:dj×(Nat→Prop))=>match bD with|(aX,bF)=>[(2,.pointer (some ⟨N.size,0,none⟩)),(3,.pointer (some ⟨bw.size,0,none⟩)),(4,.pointer (some ⟨bn.size,0,none⟩)),(5,.pointer (some ⟨R.size,0,none⟩))])
   (fun(aX,bF) (H:Heap)=>(Var 47 H R.size (cc {s2 with ah:=aL,q:=aX}))∧(∀u:Unit,Rd bF H en 33 aX.cx.v aX.bj)∧bp bF H.size∧ax bF (R.size+1)∧ax bF cw∧ax bF (bn.size+1)∧(∀c,bF c→N.size≤c)∧(aX.p=if t.ag=true then(if t.q.k=0 then fU else t.q.p)else s.m.q)∧aa (ay [(R.size+1)]) cL H) (fun _ ef _=>?_) ?_
  ·
   have am:aa (ay [(R.size+1)]) cL cL:=aa.refl _ _;have dz:=ae.refl (R.size+1) cL.size;refine I.O (fun ta=>?_);refine G.a6 L.W bP ee fc ?_;refine G.nil (ta ?_);refine dm (fun c5=>?_) (fun c5=>?_)
   ·
    refine I.O (fun fs=>?_);refine G.aV bP dP ?_;refine G.v1 (Y.cast (v2:=hx t.q) (ba ((L.W.drop 4).take 70) kF dP (by rw[lA];exact eC _)) (c4 (lA t))) ?_;refine G.aV c8 dP ?_;refine G.s1 (S.var d _ (cc {s2 with ah:=aL,q:=t.q}) rfl rfl rfl rfl ((l3 _)) dP (eC _) (by rw[cq];exact iS o) ((wV _))) ?_;rintro hT ⟨d,gH⟩;obtain⟨M,L,C,A,B,am,cp⟩:=mn gH M bH L bL C bR A bT B bV am (an.r dz);refine G.nil (fs (I.O (fun j4=>?_)));refine G.aV bP dP ?_;refine G.aX L.W.O5 b1 fR hp ?_;refine aW B5 (F3 t.q.cx.v t.q.bj w0 _ M.q.any J) ?_;rintro f2 f3 ⟨gh,fv,rfl,cy,aC,h9⟩;have iL:=ak.app ak.z C.lt aC;have iM:=ak.app ak.z A.le aC;have eW:=ak.app ak.z d.lt aC;have iN:=ae.O (ae.refl 0 _) aC B.size;obtain⟨L,d,am,_⟩:=cf h9 L d am;have kB:=cy.le;refine G.aV c8 dP ?_;refine G.aV b1 fR ?_;refine G.s1 (du d 69 (cc {s2 with ah:=aL,q:={t.q with cx:=gh}}) fR (by rw[cq];omega) ((Ae _ _))) ?_;rintro lo ⟨d,gJ⟩;obtain⟨L,cy,am,_⟩:=dQ gJ L bL cy eW.symm am (an.r dz);refine G.nil (j4 (I.O (fun j6=>?_)));refine G.aV bP dP ?_;refine G.aX L.W.sA b1 b8 cX ?_;refine G.v1 cC (G.nil (j6 ?_));refine a8 (fun j7=>?_) (fun j7=>?_)
    ·
     refine I.region ?_;refine G.v1 (Y.build (v:=hx fU) o o fy) ?_;refine G.aV c8 dP ?_;refine G.s1 (S.var d _ (cc {s2 with ah:=aL,q:=fU}) rfl rfl rfl rfl ((l3 _)) dP (eC _) (by rw[cq];exact iS o) ((wV _))) ?_;rintro lp ⟨d,gK⟩;obtain⟨am,_⟩:=c0 gK am (an.r dz);refine G.nil ?_;refine aT.sub (ef (fU,fun _=>False) _ ?_) ⟨o,o,o,o,trivial⟩;exact⟨d,(fun _=>Rd.nil _ _ _ _),(fun b e=>e.elim),(fun b e=>e.elim),(fun b e=>e.elim),(fun b e=>e.elim),(fun c e=>e.elim),by rw[aM c5,aM J];rfl,am⟩
    ·
     refine I.skip ?_;refine aT.sub (ef ({t.q with cx:=gh},fun b=>b+1=fv) _ ?_) ⟨rfl,rfl,rfl,rfl,trivial⟩;exact⟨d,(fun _=>cy.rd),bp.of cy.le,(ax.of eW.symm),(ax.of iM.symm),(ax.of iL.symm),(fun c e=>by have bh:=iN;unfold ae at bh;omega),by rw[aM c5,aA J];rfl,am⟩
   ·
    refine I.skip ?_;refine aT.sub (ef (s2.q,aQ) _ ?_) ⟨o,o,o,o,trivial⟩;exact⟨d,(fun _=>E.q),(az.mono J),bB,ek,dC,ej,by rw[aA (by simp[c5])];exact aI d_.q b_,am⟩
  ·
   rintro⟨aX,bF⟩ kz a2;obtain⟨d,aB,a5,dk,kp,kq,a9,kh,gD⟩:=a2;obtain⟨ag,M,aR,L,C,A,E,B,_⟩:=jG gD ag dF M bH aR dI L bL C bR A bT E bB B bV;refine I.O (fun iO=>?_);refine G.v1 (ba aR.W fV dJ (cq _)) ?_;refine aW B6 (F0 s F w0 _ ag (dZ.mono B.size)) ?_;rintro f4 bj ⟨bE,rfl,O,bW,dl⟩;have cJ:=ax.app ax.z (cr.mono B.size) bW;have dn:=ak.app ak.z L.lt bW;have eY:=ak.app ak.z C.lt bW;have eZ:=ak.app ak.z A.le bW;have dK:=ax.app ax.z (az.mono J) bW;have ck:=ak.app ak.z d.lt bW;have iR:=ax.app ax.z (a5.mono J) bW;have e0:=ae.O (ae.refl 0 _) bW B.size;obtain⟨M,L,C,A,E,d,aB,B,_⟩:=fP dl M L C A E d aB B;have kC:=O.le;have kl:=Eb s.bm ok.hV.nodup;refine G.aj ?_;refine iO (I.O (fun hg=>?_));refine G.aU (Z.ey (Z.qL aN xf o)) ?_;rintro f5 gi ⟨rfl,K,e1,_⟩;have fj:=ax.new (cr.mono B.size);have fK:=ak.new L.lt;have fL:=ak.new C.lt;have fN:=ak.new A.le;have dS:=(ax.new (az.mono J):ax _ (bj.size+1));have b5:=ak.new d.lt;have ce:=(ax.new (a5.mono J):ax _ (bj.size+1));have cV:=ak.new O.le;have fO:=ae.new B.size;obtain⟨M,L,C,A,E,d,aB,O,_⟩:=fP e1 M L C A E d aB O;obtain⟨B,_⟩:=b6 e1 B;have ds:=K.lt;refine G.aj ?_;refine hg (I.t1 (fun iT=>I.O (fun iU=>?_)));refine G.a6 d.W c8 h2 jU ?_;refine G.v1 (bu E.g ij) ?_;refine G.af (G.nil (iU ?_));refine I.aC (fun _ iV _=>?_)
   refine I.bb (fun(bD:Nat×(List (aD×(aO×List dw))))=>match bD with|(j,af)=>[(3,.pointer (some ⟨bw.size,0,none⟩)),(4,.pointer (some ⟨bn.size,0,none⟩)),(5,.pointer (some ⟨R.size,0,none⟩)),(6,.map (some bE)),(7,.map (some bj.size)),(46,s2.c9.v),(47,.int .i64 (s2.cj.length:Int)),(48,.int .i64 (j:Int))])
    (fun(j,af) (H:Heap)=>(j≤s2.cj.length)∧cW H aN xf bj.size af∧(∀p∈af,∃y∈s2.cj,p.2=(y.v,y.l))∧(∀q,(aH af q).map (·.2)=aH (c7 (s2.cj.take j)) q)∧aa (ay [(bj.size+1)]) gi H)
    (fun(j,af)=>s2.cj.length-j) (0,[]) ⟨o,o,o,o,o,o,o,o,trivial⟩ ?_ ?_
   ·
    exact⟨J,K,(fun p h=>by cases h),(fun q=>rfl),aa.refl _ _⟩
   rintro⟨j,af⟩ eg b9 f6 iW iX;obtain⟨lI,K,eu,eh,bz⟩:=b9;obtain⟨M,L,C,A,E,d,aB,O,_⟩:=jG bz M fj L fK C fL A fN E dS d b5 aB ce O cV;obtain⟨B,_⟩:=c0 bz B fO;have gw:=ae.refl (bj.size+1) gi.size;refine I.O (fun h3=>?_);refine G.v1 bZ (G.nil (h3 ?_));refine I.t2 (fun h4 h5=>?_);refine a8 (fun jn=>?_) (fun jn=>?_)
   ·
    refine I.skip (h4 (I.t1 (fun h6=>I.aC (fun h7 _ _=>I.O (fun h_=>?_)))));have a6:j<s2.cj.length:=by omega
    obtain⟨y,aZ⟩:∃q,q=s2.cj[j]:=⟨_,o⟩;have cv:y∈s2.cj:=by rw[aZ];exact cU a6
    refine G.cn (Y.cg E.g j o ij iD o o) fun k0 ia=>?_;refine G.v1 (Y.cast (v2:= .agg (gN y).toArray) (ba ia.W uG iD (jo _)) (by rw[aZ])) ?_;refine G.aU (Z.a7 AB) ?_;rintro v9 kx ⟨rfl,di,jM,_⟩;have ib:=ak.new K.lt;have ie:=ae.new bz.size;obtain⟨K,bz,_⟩:=bO jM K bz;refine G.s1 (et di _ (gN y) (na y) iD (jo _) ((dD (jo _).symm))) ?_;rintro kS ⟨di,gL⟩;obtain⟨K,bz,_⟩:=dW gL K ib bz (an.q ie);refine G.nil (h_ (I.region ?_));refine G.af ?_;refine G.a6 di.W iI b3 cd ?_;refine G.a6 di.W iI ju k1 ?_;refine G.s1 (S.oZ ((y.v,y.l)) K gx o uh Tryz.underlying9 o o o) ?_;rintro kT ⟨K,gM⟩;obtain⟨bz,_⟩:=c0 gM bz (an.r gw);refine G.nil (h7 (h6 (I.region ?_)));refine G.v1 bN ?_;refine G.af (G.nil ?_);refine aT.sub (iW (j+1,hk af y.n (y.v,y.l)) _ ?_ ?_) ⟨o,o,o,o,o,o,(aF J),(aF J),trivial⟩
    ·exact⟨J,K,(fun p bb=>by rcases zm bb with h|h;exact⟨y,cv,h⟩;exact eu p h),(by rw[aZ];exact K_ (by rw[show c7 s2.cj=s.m.eg from aI d_.eg b_];exact ok.fu.nodup) eh a6),bz⟩
    ·first|omega|(simp only;omega)|(simp;omega)
   ·
    obtain rfl:j=s2.cj.length:=by omega
    rw[eD,show c7 s2.cj=s.m.eg from aI d_.eg b_]at eh;have kc:∀p∈af,p.2.2.length≤100:=fun p bb=>by obtain⟨y,hy,e⟩:=eu p bb;rw[e];exact ok.cj (y.n,y.l) (by rw[←show c7 s2.cj=s.m.eg from aI d_.eg b_];exact cN.2 ⟨y,hy,o⟩)
    refine I.exit (h5 (iX (iV ?_)));refine iT (I.t1 (fun ig=>I.O (fun ik=>?_)));refine G.a6 L.W bP fz gd ?_;refine G.v1 (bu M.m e7) ?_;refine G.af (G.nil (ik ?_));refine I.aC (fun _ il _=>?_)
    refine I.bb (fun(bD:Nat×(List (aD×dv))×(List (aD×(aO×List dw)))×(Nat→Prop))=>match bD with|(i,av,ai,a7)=>[(3,.pointer (some ⟨bw.size,0,none⟩)),(4,.pointer (some ⟨bn.size,0,none⟩)),(5,.pointer (some ⟨R.size,0,none⟩)),(6,.map (some bE)),(7,.map (some bj.size)),(59,t.dI.v),(60,.int .i64 (t.ml.length:Int)),(61,.int .i64 (i:Int))])
     (fun(i,av,ai,a7) (H:Heap)=>(i≤t.ml.length)∧cW H aN bM bE av∧(∀q,aH av q=aH ((t.ml.take i).foldl eV s.m.cv) q)∧cW H aN xf bj.size ai∧(∀p∈ai,Rd a7 H ff 65 p.2.1.v p.2.2)∧bp a7 H.size∧ax a7 (bE+1)∧ax a7 (bj.size+1)∧ax a7 (R.size+1)∧ax a7 cw∧ax a7 (bn.size+1)∧(∀c,a7 c→N.size≤c)∧(∀q,(aH ai q).map (·.2)=aH ((t.ml.take i).foldl js s.m.eg) q)∧(∀p∈ai,p.2.2.length≤100)∧aa (ay [(bE+1),(bj.size+1)]) eg H)
     (fun(i,av,ai,a7)=>t.ml.length-i) (0,o4 s.bm,af,aQ) ⟨o,o,o,o,o,o,o,o,trivial⟩ ?_ ?_
    ·
     exact⟨J,O,kl,K,(fun p bb=>by obtain⟨y,hy,e⟩:=eu p bb;rw[e];exact E.n y hy),(az.mono J),dK,dS,bB,ek,dC,ej,eh,kc,aa.refl _ _⟩
    rintro⟨i,av,ai,a7⟩ gj jN f7 fQ im;obtain⟨lG,O,cg,K,P,dq,ez,dp,ch,eB,eE,a3,c2,er,W⟩:=jN;have M:=M.aJ W (aS.cons cJ (aS.T fj));have L:=L.aJ W (au.cons dn (au.T fK));have C:=C.aJ W (au.cons eY (au.T fL));have A:=A.aJ W (au.cons eZ (au.T fN));have E:=E.aJ W (aS.cons dK (aS.T dS));have d:=d.aJ W (au.cons ck (au.T b5));have aB:=fun u=>(aB u).aJ W (aS.cons iR (aS.T ce));have B:=B.gn W (ar.cons (an.q e0) (ar.T (an.q fO)));have k2:=W.size;have gy:=ae.refl (bE+1) eg.size;have eT:=ae.refl (bj.size+1) eg.size;refine I.O (fun iq=>?_);refine G.v1 bZ (G.nil (iq ?_));refine I.t2 (fun ir iv=>?_);refine a8 (fun jO=>?_) (fun jO=>?_)
    ·
     refine I.skip (ir (I.t1 (fun eF=>I.aC (fun ci _ _=>I.O (fun iw=>?_)))));have a6:i<t.ml.length:=by omega
     obtain⟨y,aZ⟩:∃q,q=t.ml[i]:=⟨_,o⟩;have cv:y∈t.ml:=by rw[aZ];exact cU a6
     refine G.cn (Y.cg M.m i o e7 eS o o) fun pw iy=>?_;refine G.v1 (Y.cast (v2:= .agg (dL y).toArray) (ba iy.W kG eS (fq _)) (by rw[aZ])) ?_;refine G.aU (Z.a7 o8) ?_;rintro f8 f9 ⟨rfl,bk,fS,_⟩;have iz:=ak.new C.lt;have iA:=ak.new A.le;have iB:=(ax.new (az.mono J):ax _ (gj.size+1));have iC:=ak.new d.lt;have fT:=ak.new O.le;have iE:=ak.new K.lt;have iF:=(ax.new (dq.mono J):ax _ (gj.size+1));have iG:=ae.new B.size;have iH:=ae.new W.size;obtain⟨C,A,E,d,O,K,P,B,_⟩:=fP fS C A E d O K P B;obtain⟨W,_⟩:=b6 fS W;refine G.s1 (et bk _ (dL y) (l2 y) eS (fq _) ((dD (fq _).symm))) ?_;rintro kU ⟨bk,eI⟩;obtain⟨C,A,E,d,O,K,P,B,_⟩:=jG eI C iz A iA E iB d iC O fT K iE P iF B iG;obtain⟨W,_⟩:=c0 eI W (an.q iH);refine G.nil (iw (I.O (fun d0=>?_)));refine G.af ?_;refine G.v1 (ba bk.W kG eS (fq _)) ?_;refine aW B7 (Ek bE av y w0 _ O) ?_;rintro lf lq ⟨rfl,O,dG⟩;obtain⟨C,A,E,d,K,P,bk,B,_⟩:=jG dG C eY A eZ E dK d ck K cV.symm P ez bk fT.symm B e0;obtain⟨W,_⟩:=c0 dG W (an.r gy);refine G.nil (d0 (I.O (fun d1=>?_)));refine G.aV dc bx ?_;refine G.v1 (Y.cast (v2:=bM y.w) (ba ((bk.W.drop 33).take 32) cZ bx (by rw[gB];exact bI _)) (c4 (gB _))) ?_;refine aW nL (n_ y.w w0 _) ?_;rintro gc d2 ⟨rfl,fW⟩;obtain⟨C,A,E,d,O,K,P,bk,_⟩:=fP fW C A E d O K P bk;obtain⟨B,W,_⟩:=bO fW B W;refine G.nil (d1 ?_);refine a8 (fun d3=>?_) (fun d3=>?_)
     ·
      refine I.region ?_;refine G.af ?_;refine G.a6 bk.W dc b3 cd ?_;refine G.xd (Z.u9 K gx o uh Tryz.underlying9 o o) cS o ?_;rintro kV kD ⟨rfl,K,gO⟩;obtain⟨O,P,W,_⟩:=dQ gO O cV P dp W (an.r eT);refine G.nil (ci (eF (I.region ?_)));refine G.v1 bN ?_;refine G.af (G.nil ?_);refine aT.sub (fQ (i+1,mR av y,e4 ai y.n,a7) _ ?_ ?_) ⟨o,o,o,o,o,o,(aF J),(aF J),trivial⟩
      ·exact⟨J,O,(fun q=>by rw[nc a6,←aZ,zg,tD (nd ok.hV),cg]),K,(fun p bb=>P p (v7 bb).1),(dq.mono J),ez,dp,ch,eB,eE,J,by rw[nc a6,←aZ];exact K7 c2 (by simpa using d3),(fun p bb=>er p (v7 bb).1),W⟩
      ·first|omega|(simp only;omega)|(simp;omega)
     ·
      refine eA (fun bG=>al d2 bG) [9] ?_;have a_:al d2 d2:=aa.refl _ _;obtain⟨z,cp⟩:∃z,z=(aH ai y.n).getD o9:=⟨_,o⟩;have lR:=K6 er cp;refine U.af 0 o a_ ?_;refine U.aV 1 dc b3 a_ ?_;refine U.t1 2 o (fun bG E=>bf (bk.W.aR E) cd) a_ ?_;refine U.af 3 o a_ ?_;refine U.aV 4 dc b3 a_ ?_;refine U.t1 5 o (fun bG E=>bf (bk.W.aR E) cd) a_ ?_;refine U.t1 6 o (fun bG E=>Y.cast (v2:=z.1.v) (Y.lookup (z0:=o9) (K.aR E).fX gx o uh Tryz.underlying9 GH o o) (by rw[cp])) a_ ?_;refine U.t1 7 o (fun bG E=>ba (bk.W.aR E) kG eS (fq _)) a_ ?_;refine U.bg 8 ?_;refine cP IK (Ln z.1.v z.2 y w0 _ (Fh P cp).any J) ?_;rintro lr jP ⟨ga,gb,rfl,cz,bY,d4⟩;have d5:=ak.app ak.z C.lt bY;have d6:=ak.app ak.z A.le bY;have d7:=ak.app ak.z d.lt bY;have d8:=ak.app ak.z O.le bY;have fX:=ak.app ak.z K.lt bY;have d9:=ae.O (ae.refl 0 _) bY B.size;have co:=ae.O (ae.refl 0 _) bY a_.size;obtain⟨E,O,K,P,W,a_,_⟩:=fY d4 E O K P W a_;have kA:=cz.le;refine⟨.inr a_,U.narrow (SH2:=fun bG=>aa (ay [gb]) jP bG) (fun bG E=>(aa.bt (ks:=[]) (a_.nm []) E (ar.T (an.q co))).nil) ?_⟩;refine U.bg 9 ?_;refine iK o (S.oZ ((ga,j0 (z.2++[⟨y.T,y.w,y.y⟩]))) K gx o uh Tryz.underlying9 o o o) ?_;rintro kE ⟨K,gQ⟩;obtain⟨O,P,cz,W,_⟩:=dT gQ O cV P dp cz fX.symm W (an.r eT);refine⟨.inl o,?_⟩;refine dB ?_;refine ci (eF (I.region ?_));refine G.v1 bN ?_;refine G.af (G.nil ?_);refine aT.sub (fQ (i+1,mR av y,hk ai y.n (ga,j0 (z.2++[⟨y.T,y.w,y.y⟩])),fun b=>a7 b∨b+1=gb) _ ?_ ?_) ⟨o,o,o,o,o,o,(aF J),(aF J),trivial⟩
      ·exact⟨J,O,(fun q=>by rw[nc a6,←aZ,zg,tD (nd ok.hV),cg]),K,(fun p bb=>by rcases zm bb with h|h;rw[h];exact cz.rd.imp (fun b _ e=> .inr e);exact(P p h).imp (fun b _ e=> .inl e)),bp.e8 (dq.mono J) cz.le,ax.e8 ez d8,ax.e8 dp fX,ax.e8 ch d7,ax.e8 eB d6,ax.e8 eE d5,oD a3 d9,by rw[nc a6,←aZ];exact K9 c2 (vo ok.fu) (by simpa using d3) cp,(fun p bb=>by rcases zm bb with h|h;rw[h];exact vV _;exact er p h),W⟩
      ·first|omega|(simp only;omega)|(simp;omega)
    ·
     obtain rfl:i=t.ml.length:=by omega
     rw[eD]at cg c2;have lL:=ze O.fX.nodup (nd ok.hV).nodup cg;have lO:=fM.iC;refine I.exit (iv (im (il ?_)));refine ig (I.O (fun jv=>?_));refine G.aV c8 jE ?_;refine G.s1 (du d 1 (cc {s2 with ah:=aL,q:=aX,fI:=dN,bm:=[]}) jE (by rw[cq];omega) ((Ad dN []))) ?_;rintro kL ⟨d,eM⟩;obtain⟨M,L,C,A,E,aB,O,K,_⟩:=jG eM M bH L bL C bR A bT E bB aB dk O ck.symm K b5.symm;obtain⟨P,B,_⟩:=dW eM P ch B bV;refine G.aV c8 h2 ?_;refine G.s1 (du d 2 (cc {s2 with ah:=aL,q:=aX,fI:=dN,bm:=[],c9:=dN,cj:=[]}) h2 (by rw[cq];omega) ((wU dN []))) ?_;rintro kN ⟨d,eR⟩;obtain⟨M,L,C,A,E,aB,O,K,_⟩:=jG eR M bH L bL C bR A bT E bB aB dk O ck.symm K b5.symm;obtain⟨P,B,_⟩:=dW eR P ch B bV;refine G.nil (jv (I.t1 (fun jw=>I.O (fun jx=>?_))));refine G.af ?_;refine aW B8 (DH bE w0 _) ?_;rintro ge lu ⟨hf,rfl,bt,ep,f_⟩;have hP:=ak.app ak.z C.lt ep;have hR:=ak.app ak.z A.le ep;have br:=ak.app ak.z d.lt ep;obtain⟨M,L,C,A,E,d,aB,O,_⟩:=fP f_ M L C A E d aB O;obtain⟨K,P,B,_⟩:=cf f_ K P B;have kX:=bt.le;refine aW x5 (Ol hf bE bM av w0 _ bt O J) ?_;rintro lv c6 ⟨jQ,ly,V,rfl,on,jy,ca,cs⟩;have hU:=ak.app ak.z d.lt jy;obtain⟨M,L,C,A,E,d,aB,O,_⟩:=fP cs M L C A E d aB O;obtain⟨K,P,bt,B,_⟩:=ed cs K P bt B;have kY:=on.le;have ke:=sj (tU ca.1) (fun k kb=>(ca.2 k).1 kb);rw[dg]at ke;refine G.v1 (bu on.rd jR) ?_;refine G.af (G.nil (jx ?_));refine I.aC (fun _ jz _=>?_)
     refine I.bb (fun(bD:Nat×aO×Nat×aO×Nat)=>match bD with|(X,og,b4,j_,b0)=>[(3,.pointer (some ⟨bw.size,0,none⟩)),(4,.pointer (some ⟨bn.size,0,none⟩)),(5,.pointer (some ⟨R.size,0,none⟩)),(6,.map (some bE)),(7,.map (some bj.size)),(88,jQ.v),(89,.int .i64 (V.length:Int)),(90,.int .i64 (X:Int))])
      (fun(X,og,b4,j_,b0) (H:Heap)=>(X≤V.length)∧Var 47 H R.size (cc {s2 with ah:=aL,q:=aX,fI:=og,bm:=(V.take X).map (j5 av),c9:=j_,cj:=(V.take X).map (kt ai)})∧aY b4 71 H eX 33 og.v ((V.take X).map (j5 av))∧aY b0 62 H gN 2 j_.v ((V.take X).map (kt ai))∧ae 0 c6.size b4∧ae 0 c6.size b0∧ak (R.size+1) b4∧ak (R.size+1) b0∧ak b4 b0∧aa (ay [(R.size+1)]) c6 H)
      (fun(X,og,b4,j_,b0)=>V.length-X) (0,dN,0,dN,0) ⟨o,o,o,o,o,o,o,o,trivial⟩ ?_ ?_
     ·
      exact⟨J,d,aY.nil kJ oK,aY.nil jo na,ae.refl _ _,ae.refl _ _,ak.z,ak.z,ak.z,aa.refl _ _⟩
     rintro⟨X,og,b4,j_,b0⟩ ei jS lz jA jB;obtain⟨lM,d,aK,aJ,cm,cO,gE,gF,gz,ac⟩:=jS;have bQ:=ak.app ak.z C.lt cm;have fl:=ak.app ak.z A.le cm;have hW:=ak.app ak.z K.lt cm;have hX:=ae.O (ae.refl 0 _) cm B.size;have hY:=ak.app ak.z C.lt cO;have hZ:=ak.app ak.z A.le cO;have ho:=ae.O (ae.refl 0 _) cO B.size;obtain⟨M,L,C,A,E,aB,O,K,_⟩:=jG ac M bH L bL C bR A bT E bB aB dk O ck.symm K b5.symm;obtain⟨P,bt,on,B,_⟩:=dT ac P ch bt br.symm on hU.symm B bV;have gZ:=aK.le;have hb:=aJ.le;have dV:=gE;have cA:=gF;have bK:=gz;have eU:=ae.refl (R.size+1) c6.size;have fk:=cm;have fm:=cO;refine I.O (fun jC=>?_);refine G.v1 bZ (G.nil (jC ?_));refine I.t2 (fun em iP=>?_);refine a8 (fun jT=>?_) (fun jT=>?_)
     ·
      refine I.skip (em (I.t1 (fun jD=>I.aC (fun cn _ _=>I.O (fun jH=>?_)))));have a6:X<V.length:=by omega
      obtain⟨x,hex⟩:∃x,x=V[X]:=⟨_,o⟩;have gq:(V.take (X+1)).map (j5 av)=(V.take X).map (j5 av)++[j5 av x]:=by rw[eP a6,gg,←hex];rfl
      have gu:(V.take (X+1)).map (kt ai)=(V.take X).map (kt ai)++[kt ai x]:=by rw[eP a6,gg,←hex];rfl
      have lP:(V.take X).length=X:=by rw[eJ];omega
      refine G.v1 (mo on X jR b3) ?_;refine G.v1 (Y.cast (v2:=aN x) (bf (on.W (j:=X) ic) cd) (by rw[hex])) ?_;refine G.aj ?_;refine jH (I.O (fun es=>?_));refine G.a6 d.W c8 jE lx ?_;refine G.av 3 ?_;refine G.v1 (Y.lookup (z0:=bJ) O.fX gx o oi Tryz.underlying9 o7 o o) ?_;refine G.v1 (Y.build (v:= .agg (eX (j5 av x)).toArray) o o (by intro w;exact xW _ _)) ?_;refine G.aU (Z.c2 (dE _ ([j5 av x]) nS kJ oK)) ?_;rintro k3 k5 ⟨km,hs,_⟩;obtain⟨K,d,aK,aJ,ac,_⟩:=dH hs K d aK aJ ac;refine G.aU (eO aK km.rd nS b2 b2) ?_;rintro fA kI ⟨jI,aK,dX,dY⟩;have dY:=dY.md;have cR:=ak.app dV d.lt dX;have fp:=ak.app bK.symm aJ.le dX;have ht:=ae.O fk dX ac.size;obtain⟨K,d,aJ,ac,_⟩:=dT dY K hW d dV aJ bK.symm ac (an.q fk);have gZ:=aK.le;obtain⟨dU,rfl⟩:∃s:aO,fA=s.v:=⟨cF fA,aK.bA.symm⟩;refine G.aV c8 jE ?_;refine G.s1 (du d 1 (cc {s2 with ah:=aL,q:=aX,fI:=dU,bm:=(V.take X).map (j5 av)++[j5 av x],c9:=j_,cj:=(V.take X).map (kt ai)}) jE (by rw[cq];omega) ((Ad _ _))) ?_;rintro kZ ⟨d,hc⟩;obtain⟨K,aK,aJ,ac,_⟩:=dT hc K b5.symm aK cR.symm aJ cA.symm ac (an.r eU);refine G.nil (es (I.region ?_));refine G.a6 d.W c8 h2 jU ?_;refine G.av 3 ?_;refine G.v1 (Y.lookup (z0:=o9) K.fX gx o uh Tryz.underlying9 GH o o) ?_;refine G.v1 (Y.build (v:= .agg (gN (kt ai x)).toArray) o o fy) ?_;refine G.aU (Z.c2 (dE _ ([kt ai x]) nT jo na)) ?_;rintro k6 k8 ⟨kn,hv,_⟩;obtain⟨d,aK,aJ,ac,_⟩:=ed hv d aK aJ ac;refine G.aU (eO aJ kn.rd nT b2 b2) ?_;rintro fB ft ⟨jJ,aJ,be,cD⟩;have cD:=cD.md;have fw:=ak.app cA d.lt be;have hz:=ak.app fp.symm aK.le be;have hA:=ae.O fm be ac.size;obtain⟨d,aK,ac,_⟩:=dQ cD d cA aK fp.symm ac (an.q fm);have hb:=aJ.le;obtain⟨fC,rfl⟩:∃s:aO,fB=s.v:=⟨cF fB,aJ.bA.symm⟩;refine G.aV c8 h2 ?_;refine G.s1 (du d 2 (cc {s2 with ah:=aL,q:=aX,fI:=dU,bm:=(V.take X).map (j5 av)++[j5 av x],c9:=fC,cj:=(V.take X).map (kt ai)++[kt ai x]}) h2 (by rw[cq];omega) ((wU _ _))) ?_;rintro ex ⟨d,hd⟩;obtain⟨aK,aJ,ac,_⟩:=dQ hd aK cR.symm aJ fw.symm ac (an.r eU);refine G.nil (cn (jD (I.region ?_)));refine G.v1 bN ?_;refine G.af (G.nil ?_);refine aT.sub (jA (X+1,dU,jI,fC,jJ) _ ?_ ?_) ⟨o,o,o,o,o,o,(aF J),(aF J),trivial⟩
      ·exact⟨J,(by rw[gq,gu];exact d),(by rw[gq];exact aK),(by rw[gu];exact aJ),ht,hA,cR,fw,hz,ac⟩
      ·first|omega|(simp only;omega)|(simp;omega)
     ·
      obtain rfl:X=V.length:=by omega
      rw[eD]at d aK aJ;refine I.exit (iP (jB (jz ?_)));refine jw (I.t1 (fun jK=>I.O (fun jL=>?_)));refine G.aX L.W.ig bP eN fD ?_;refine G.v1 (bu M.e dy) ?_;refine G.af (G.nil (jL ?_));refine I.aC (fun _ i_ _=>?_)
      refine I.bb (fun(bD:Nat×aO×Nat×(List bU)×(Nat→Prop))=>match bD with|(i4,bA,bC,aU,bl)=>[(4,.pointer (some ⟨bn.size,0,none⟩)),(5,.pointer (some ⟨R.size,0,none⟩)),(116,t.cG.v),(117,.int .i64 (t.el.length:Int)),(118,.int .i64 (i4:Int))])
       (fun(i4,bA,bC,aU,bl) (H:Heap)=>(i4≤t.el.length)∧Var 47 H R.size (cc {s2 with ah:=aL,q:=aX,fI:=og,bm:=(V.map (j5 av)),c9:=j_,cj:=(V.map (kt ai)),cG:=bA,el:=aU})∧aY bC 68 H cb 33 bA.v aU∧(∀y∈aU,Rd bl H bd 1 y.v.v y.d)∧bp bl H.size∧ax bl (R.size+1)∧ax bl bC∧ax bl (bn.size+1)∧(∀c,bl c→N.size≤c)∧da aU=iu s.m.iw (t.el.take i4)∧ae cw ei.size bC∧ak (R.size+1) bC∧aa (ay [(R.size+1),cw]) ei H)
       (fun(i4,bA,bC,aU,bl)=>t.el.length-i4) (0,s2.cG,cw,s2.el,aQ) ⟨o,o,o,o,o,trivial⟩ ?_ ?_
      ·
       exact⟨J,d,A,E.d,(az.mono J),bB,ek,dC,ej,aI d_.iw b_,ae.refl _ _,bT.symm,aa.refl _ _⟩
      rintro⟨i4,bA,bC,aU,bl⟩ jV jW lC fE ja;obtain⟨lH,d,A,aG,cQ,cB,dh,ey,a4,b7,dx,gY,Q⟩:=jW;have hB:=ak.app fh C.lt dx;have hC:=ae.O fi dx B.size;have M:=M.aJ Q (aS.cons bH (aS.T eH));have C:=C.aJ Q (au.cons bR (au.T fh));have aB:=fun u=>(aB u).aJ Q (aS.cons dk (aS.T kp));have P:=fun p ki=>(P p ki).aJ Q (aS.cons ch (aS.T eB));have bt:=bt.aJ Q (au.cons br.symm (au.T hR.symm));have aK:=aK.aJ Q (au.cons dV.symm (au.T fl.symm));have aJ:=aJ.aJ Q (au.cons cA.symm (au.T hZ.symm));have B:=B.gn Q (ar.cons (an.q bV) (ar.T (an.q fi)));have k_:=Q.size;have eQ:=A.le;have cH:=gY;have gA:=ae.refl (R.size+1) ei.size;have cI:=dx;have kd:=aI List.length b7;have lF:=GP (el:=t.el) (l:=s.m.iw) (n:=i4);simp only[da,dg]at kd;have j9:sG aU:=sG.of (by rw[b7];exact vn ok.mc);refine I.O (fun jb=>?_);refine G.v1 bZ (G.nil (jb ?_));refine I.t2 (fun jc jd=>?_);refine a8 (fun je=>?_) (fun je=>?_)
      ·
       refine I.skip (jc (I.t1 (fun fF=>I.aC (fun fG _ _=>I.O (fun jf=>?_)))));have a6:i4<t.el.length:=by omega
       obtain⟨y,aZ⟩:∃q,q=t.el[i4]:=⟨_,o⟩;have cv:y∈t.el:=by rw[aZ];exact cU a6
       have lQ:y.d.length≤65536:=by
        have ct:=tB fM.iw y cv;unfold ix at ct;split at ct
        ·cases ct
        ·split at ct
         ·cases ct
         ·omega
       refine G.cn (Y.cg M.e i4 o dy db o o) fun kO hD=>?_;refine G.v1 (Y.cast (v2:= .agg (cb y).toArray) (ba hD.W kH db (eb _)) (by rw[aZ])) ?_;refine G.aU (Z.a7 oo) ?_;rintro lD lE ⟨rfl,bg,jg,_⟩;have hF:=ax.new (cr.mono B.size);have hG:=ak.new C.lt;have e2:=ak.new A.le;have e3:=ak.new d.lt;have e6:=(ax.new (cQ.mono J):ax _ (jV.size+1));have hH:=ae.new B.size;have e8:=ae.new Q.size;obtain⟨M,C,A,d,aG,B,Q,_⟩:=kr jg M C A d aG B Q;refine G.s1 (et bg _ (cb y) (iQ y) db (eb _) ((dD (eb _).symm))) ?_;rintro kW ⟨bg,gR⟩;obtain⟨M,C,A,d,aG,B,Q,_⟩:=nw gR M hF C hG A e2 d e3 aG e6 B hH Q (an.q e8);refine G.nil (jf (I.O (fun jh=>?_)));refine G.aX bg.W.mP gU dt fe ?_;refine aW rA (qk y.v.v y.d w0 _ (M.d y cv).any J) ?_;rintro lB la ⟨bq,fH,rfl,aV,cl,hI⟩;have e9:=ak.app ak.z C.lt cl;have cK:=ak.app ak.z A.le cl;have ec:=ak.app ak.z d.lt cl;have hJ:=ak.app ak.z bg.lt cl;have e_:=ae.O (ae.refl 0 _) cl B.size;obtain⟨A,d,aG,bg,Q,_⟩:=dH hI A d aG bg Q;have kQ:=aV.le;refine G.aV gU dt ?_;refine G.s1 (du bg 32 (cb ⟨y.k,bq,y.d⟩) dt (by rw[eb];omega) ((zl _ _))) ?_;rintro fb ⟨bg,gS⟩;obtain⟨A,d,aG,aV,Q,_⟩:=g_ gS A e2 d e3 aG e6 aV hJ.symm Q (an.q e8);refine G.nil (jh (I.O (fun ji=>?_)));refine G.aX d.W.lk c8 eN fD ?_;refine G.v1 (ba bg.W kH db (eb _)) ?_;refine aW IL (HA bA.v aU ⟨y.k,bq,y.d⟩ w0 _ A.rd.any J j9) ?_;rintro lb jj ⟨p,fd,rfl,kj,gm,hL⟩;obtain⟨A,d,aG,bg,aV,Q,_⟩:=fY hL A d aG bg aV Q;obtain⟨gn,gp,kf⟩:=kj;refine G.af ?_;refine G.v1 c3 ?_;refine G.v1 c3 ?_;refine G.aZ 2 ?_;refine ji (I.O (fun jk=>?_));refine G.af (G.nil (jk ?_));refine dm (fun cY=>?_) (fun cY=>?_)
       ·
        obtain⟨df,kg⟩:=gm.1 cY;refine I.region ?_;refine G.aX d.W.lk c8 eN fD ?_;refine G.af ?_;refine G.v1 (ba bg.W kH db (eb _)) ?_;refine G.v1 (Y.wx A p o dy db o o gP J) ?_;refine G.s1 (S.zC A p 0 (⟨y.k,bq,y.d⟩:bU) (cb ⟨y.k,bq,y.d⟩) o o o o (iQ _) db (eb _) df bc (dD (by rw[eb,eb])).symm) ?_;rintro lh ⟨A,gT⟩;obtain⟨d,aG,aV,Q,_⟩:=dT gT d cH aG dh aV cK.symm Q (an.r cI);refine G.nil (fG (fF (I.region ?_)));refine G.v1 bN ?_;refine G.af (G.nil ?_);refine aT.sub (fE (i4+1,bA,bC,aU.set p ⟨y.k,bq,y.d⟩,fun b=>bl b∨b+1=fH) _ ?_ ?_) ⟨o,o,o,(aF J),(aF J),trivial⟩
        ·exact⟨J,d,A,FD p aG (fun b e=> .inl e) (aV.rd.imp (fun b _ e=> .inr e)),bp.e8 (cQ.mono J) aV.le,ax.e8 cB ec,ax.e8 dh cK,ax.e8 ey e9,oD a4 e_,by rw[uJ a6,←aZ,←b7];exact CG (x:=⟨y.k,bq,y.d⟩) gp df kg,cI,cH,Q⟩
        ·first|omega|(simp only;omega)|(simp;omega)
       ·
        have df:¬_:=fun h=>by rw[gm.2 h]at cY;cases cY
        refine I.region ?_;refine G.aX d.W.lk c8 eN fD ?_;refine G.af ?_;refine G.v1 (ba bg.W kH db (eb _)) ?_;refine G.aU (Z.Lb _ [(⟨y.k,bq,y.d⟩:bU)] o k7 o o o bc bc eb iQ o) ?_;rintro ld jl ⟨ko,hM,hN,fa⟩;have kR:jl.size=jj.size+1:=by rw[fa];simp
        have hO:=ak.new A.le;obtain⟨A,d,aG,aV,Q,_⟩:=dH hM A d aG aV Q;refine aW IP (KO bC _ bA.v _ aU ⟨y.k,bq,y.d⟩ p w0 _ A ko hO gn ⟨hN,by rw[fa];simp⟩ J) (fun fJ f0 jm=>?_);have hh:=d.lt;have hi:=aV.le;obtain⟨lj,jq,rfl,A,de,hj⟩:=jm;have fg:=ak.app cH hh de;have eK:=ax.app dh (cQ.mono J) de;have hl:=ak.app cK.symm hi de;have hn:=ae.O cI de Q.size;obtain⟨d,aG,aV,Q,_⟩:=dT hj d cH aG dh aV cK.symm Q (an.r cI);have eQ:=A.le;obtain⟨fx,rfl⟩:∃s:aO,fJ=s.v:=⟨cF fJ,A.bA.symm⟩;refine G.aV c8 eN ?_;refine G.s1 (du d 73 (cc {s2 with ah:=aL,q:=aX,fI:=og,bm:=(V.map (j5 av)),c9:=j_,cj:=(V.map (kt ai)),cG:=fx,el:=aU.take p++⟨y.k,bq,y.d⟩::aU.drop p}) eN (by rw[cq];omega) ((Ac _ _))) ?_;rintro lk ⟨d,gV⟩;obtain⟨A,aG,aV,Q,_⟩:=dT gV A fg.symm aG cB aV ec.symm Q (an.r gA);refine G.nil (fG (fF (I.region ?_)));refine G.v1 bN ?_;refine G.af (G.nil ?_);refine aT.sub (fE (i4+1,fx,jq,aU.take p++⟨y.k,bq,y.d⟩::aU.drop p,fun b=>bl b∨b+1=fH) _ ?_ ?_) ⟨o,o,o,(aF J),(aF J),trivial⟩
        ·exact⟨J,d,A,KJ p aG (fun b e=> .inl e) (aV.rd.imp (fun b _ e=> .inr e)),bp.e8 (cQ.mono J) aV.le,ax.e8 cB ec,ax.e8 eK hl.symm,ax.e8 ey e9,oD a4 e_,by rw[uJ a6,←aZ,←b7];exact JP (x:=⟨y.k,bq,y.d⟩) gp kf gn df,hn,fg,Q⟩
        ·first|omega|(simp only;omega)|(simp;omega)
      ·
       obtain rfl:i4=t.el.length:=by omega
       rw[eD]at b7;refine I.exit (jd (ja (i_ ?_)));refine jK (I.O (fun jt=>?_));refine G.v1 (ba d.W fV dJ (cq _)) ?_;refine G.s1 (et C _ (cc {s2 with ah:=aL,q:=aX,fI:=og,bm:=(V.map (j5 av)),c9:=j_,cj:=(V.map (kt ai)),cG:=bA,el:=aU}) (kK _) dJ (cq _) ((dD (cq _).symm))) ?_;rintro ll ⟨C,gW⟩;obtain⟨A,aB,P,bt,aK,aJ,aG,B,_⟩:=jG gW A hB.symm aB kq P eE bt hP.symm aK bQ.symm aJ hY.symm aG ey B iJ;refine G.nil (jt ?_);refine I.ret (kk .ret (.inr o) _ _ _ (lg o o C.W fV dJ (cq _)) ?_)
       exact⟨{s2 with ah:=aL,q:=aX,fI:=og,bm:=(V.map (j5 av)),c9:=j_,cj:=(V.map (kt ai)),cG:=bA,el:=aU},rfl,⟨aK.rd.imp (fun b _ e=>by have bh:=hX;unfold ae at bh;omega),aJ.rd.imp (fun b _ e=>by have bh:=ho;unfold ae at bh;omega),(fun y hy=>by obtain⟨x,bt,e⟩:=cN.1 hy;rw[←e];exact(Fh P o).imp (fun b _ e=>a3 b e)),(aB ()).imp (fun b _ e=>a9 b e),A.rd.imp (fun b _ e=>by have bh:=hC;unfold ae at bh;omega),(fun y hy=>(aG y hy).imp (fun b _ e=>a4 b e))⟩,by
        have aP:aL=if t.bz=true then t.ah else s.m.ah:=by rw[ka];congr 1;exact aI d_.ah b_
        have iY:=J_ (nd ok.hV) cg ca.1 ca.2;have iZ:=J9 (vo ok.fu) (vT ok.c6) cg c2 ca.1 ca.2;show d_.mk aL (bX _) (c7 _) aX.p (da aU)=_;rw[aP,iY,iZ,kh,b7];rfl,B⟩
end sH
namespace xj
open gV e2 hn iN
theorem Bp:∀{l:List dq} {n:List UInt8} {i:Nat} (d:i<l.length),(∀j (h:j<l.length),j<i→¬l[j].n=n)→l[i].n=n→jJ (bX l) n=l[i].i
 |x::l,n,0,_,_,e=>by
  have e:x.n=n:=e
  simp[jJ,bX,aH,e]
 |x::l,n,i+1,d,h,e=>by
  have r:¬x.n=n:=h 0 (y3 _) (y3 _);have:=Bp (l:=l) (n:=n) (i:=i) (Nat.lt_of_succ_lt_succ d) (fun j A ab=>h (j+1) (y4 A) (y4 ab)) e;simp only[jJ,bX,dk,aH]at this⊢;rw[aA (fun q=>r q.symm)];exact this
theorem Hk{l:List dq}{n:List UInt8}(h:∀j (h:j<l.length),¬l[j].n=n):jJ (bX l) n=bJ:=by
 induction l with
 |nil=>rfl
 |cons x l ih=>
  have d:¬x.n=n:=h 0 (y3 _);have:=ih (fun j r=>h (j+1) (y4 r));simp only[jJ,bX,dk,aH]at this⊢;rw[aA (fun q=>d q.symm)];exact this
theorem Bo(s:dR)(n:List UInt8)(w0:World)(N:Heap)
 (j:b7 N eX 33 s.fI.v s.bm):
 aE Tryz.prog w0 19 #[fZ s,aN n] N (fun r B=>r=bM (jJ (bX s.bm) n)∧al N B):=by
 refine aE.enter (args:=[fZ s,aN n]) Tryz.func19 o o o ?_;intro aQ O;have d:al N N:=aa.refl _ _;have j:=j.ch;have aZ:=j.len;refine I.O (fun am=>?_);refine G.aU Z.bv ?_;rintro v2 B ⟨rfl,A,ax,_⟩;obtain⟨j,d,_⟩:=bO ax j d;have A:Var 47 B N.size (cc s):=A;refine G.aU (Z.a7 o7) ?_;rintro v4 K ⟨rfl,x,ap,_⟩;have M:=ae.new d.size;obtain⟨j,A,d,_⟩:=cf ap j A d;have x:Var 26 K B.size (b9 bJ):=x;refine G.nil (am (I.t2 (fun ay aB=>I.O (fun aC=>?_))));refine G.aj ?_;refine aC (I.aC (fun _ aD aG=>?_))
 refine I.bb (fun(i:Nat)=>[(1,aN n),(2,.pointer (some ⟨N.size,0,none⟩)),(4,.pointer (some ⟨B.size,0,none⟩)),(5,.int .i64 i)])
  (fun(i:Nat) (H:Heap)=>(i≤s.bm.length)∧(∀q (h:q<s.bm.length),q<i→¬s.bm[q].n=n)∧al K H)
  (fun(i:Nat)=>s.bm.length-i) 0 ⟨o,o,o,o,trivial⟩ ?_ ?_
 ·
  exact⟨J,(fun q h ab=>absurd ab (rY _)),aa.refl _ _⟩
 intro i aW aH aP aJ az;obtain⟨aX,F,L⟩:=aH;obtain⟨j,A,x,d,_⟩:=ed L j A x d;refine I.t2 (fun P Q=>I.O (fun R=>?_));refine G.af ?_;refine G.a6 A.W c8 jE lx ?_;refine G.v1 (bu j jQ) ?_;refine G.v1 bZ (G.nil (R ?_));refine a8 (fun U=>?_) (fun U=>?_)
 ·
  refine I.skip (P (I.t2 (fun V W=>I.aC (fun X _ af=>I.O (fun ai=>?_)))));refine G.a6 A.W c8 jE lx ?_;refine G.af ?_;have aL:i<s.bm.length:=by omega
  obtain⟨y,C⟩:∃q,q=s.bm[i]:=⟨_,o⟩;refine G.cn (Y.cg j i o jQ lh o o) fun aR ak=>?_;refine G.aV p3 b3 ?_;refine G.v1 (Y.cast (v2:=aN y.n) (bf (ak.W.drop 0) cd) (by rw[C])) ?_;refine G.af ?_;refine G.v1 (Y.oc o o o) (G.nil (ai ?_));refine a8 (fun E=>?_) (fun E=>?_)
  ·
   refine I.O (fun an=>?_);refine G.a6 A.W c8 jE lx ?_;refine G.af ?_;refine G.cn (Y.cg j i o jQ lh o o) fun aS ar=>?_;refine G.aV p3 bx ?_;refine G.v1 (Y.cast (v2:=bM y.i) (ba ((ar.W.drop 1).take 32) cZ bx (by rw[vi];exact bI _)) ((by rw[C];exact c4 (vi _)))) ?_;refine G.s1 (S.var x _ (b9 y.i) o o o o (ke y.i) bx (bI _) (by first|decide|simp[bI]) ((dD ((bI _).trans (bI _).symm)))) ?_;rintro aU ⟨x,ag⟩;obtain⟨d,_⟩:=c0 ag d M;refine G.nil (an ?_);refine I.ret (af (W (az (aG (aB (O .ret (.inr o) _ _ _ (lg o o x.W cZ bx (bI _)) ?_))))));exact⟨by rw[Bp aL F (by rw[←C];exact E),←C];first|done|rfl,d⟩
  ·
   refine I.skip (X (V (I.region ?_)));refine G.af ?_;refine G.v1 bN ?_;refine G.aj ?_;refine aT.sub (aJ (i+1) _ ?_ ?_) ⟨o,o,o,(aF J),trivial⟩
   ·exact⟨J,(fun q h ab=>by rcases vR.1 ab with aK|rfl;exact F q h aK;rw[←C];exact E),L⟩
   ·first|omega|(simp only;omega)|(simp;omega)
 ·
  refine I.exit (Q (az (aD ?_)));refine ay (I.O (fun av=>?_));refine G.v1 (Y.build (v:=bM bJ) o o fy) ?_;refine G.s1 (S.var x _ (b9 bJ) o o o o (ke bJ) bx (bI _) (by first|decide|simp[bI]) ((dD ((bI _).trans (bI _).symm)))) ?_;rintro aV ⟨x,ac⟩;obtain⟨d,_⟩:=c0 ac d M;refine G.nil (av ?_);refine I.ret (O .ret (.inr o) _ _ _ (lg o o x.W cZ bx (bI _)) ?_);exact⟨by rw[Hk (fun q aO=>F q aO J)];first|done|rfl,d⟩
end xj
namespace xk
open gV e2 hn jH iN
theorem OL{P:Program}{w0:World}{n:Nat}{l:cm}{H:Heap}{T:Oper}{x y:Operand}{t u:TypeId}{a b:List UInt8}(q:T.op= .binOp .geq t x y u)(r:aK l x=some (aN a))(hy:aK l y=some (aN b)):Y P w0 n l H T (.bool (!(Op.bytesLess a b))):=by
 intro ac w j A;have aP:=ByteArray.toList_eq (ByteArray.mk a.toArray);have d:=ByteArray.toList_eq (ByteArray.mk b.toArray);have h:(a==b)=decide (a=b):=by by_cases h:a=b<;>simp[h]
 simp only at aP d;simp[execOp,q,j.eval r,j.eval hy,binOp,Op.stringOp,eqGuard,aN,aP,d,h]
def j2(m:bY)(a:List dq×Bool)(x:dq):List dq×Bool:=
 let b:= !a.2&& !(Op.bytesLess x.n m.n)
 let T:=if b=true then a.1++[⟨m.n,m.w⟩]else a.1
 (if x.n≠m.n then T++[x]else T,a.2||b)
def np(m:bY)(l:List dq):List dq:=
 let a:=l.foldl (j2 m) ([],decide (m.w=bJ))
 if a.2=true then a.1 else a.1++[⟨m.n,m.w⟩]
theorem LV{m:bY}{l:List dq}{i:Nat}(d:i<l.length)(a:List dq×Bool):(l.take (i+1)).foldl (j2 m) a=j2 m ((l.take i).foldl (j2 m) a) l[i]:=by
 rw[eP d,oU];rfl
theorem tF(m:bY):∀(l:List dq) (T:List dq),l.foldl (j2 m) (T,true)=(T++l.filter (fun x=>decide (x.n≠m.n)),true)
 |[],T=>by simp
 |x::l,T=>by
  rw[gX];by_cases h:x.n=m.n
  ·rw[show j2 m (T,true) x=(T,true)by simp[j2,h],tF m l];simp[h]
  ·rw[show j2 m (T,true) x=(T++[x],true)by simp[j2,h],tF m l];simp[h]
theorem Dc(m:bY):∀(l:List dq),bX (l.filter (fun x=>decide (x.n≠m.n)))=e4 (bX l) m.n
 |[]=>rfl
 |x::l=>by
  have ih:=Dc m l;by_cases h:x.n=m.n
  ·simp only[bX,e4,dk]at ih⊢
   simp[h]at ih⊢;exact ih
  ·simp only[bX,e4,dk]at ih⊢
   simp[h]at ih⊢;exact ih
theorem LY{m:bY}{x:dq}(T:List dq)(h:Op.bytesLess x.n m.n=true)(aB:¬x.n=m.n):j2 m (T,false) x=(T++[x],false):=by simp[j2,h,aB]
theorem LW{m:bY}{x:dq}(T:List dq)(h:Op.bytesLess x.n m.n=false)(aB:x.n=m.n):j2 m (T,false) x=(T++[⟨m.n,m.w⟩],true):=by
 rw[aB]at h;simp[j2,h,aB]
theorem LX{m:bY}{x:dq}(T:List dq)(h:Op.bytesLess x.n m.n=false)(aB:¬x.n=m.n):j2 m (T,false) x=(T++[⟨m.n,m.w⟩]++[x],true):=by simp[j2,h,aB]
def we(m:bY)(a:List dq×Bool):List dq:=if a.2=true then a.1 else a.1++[⟨m.n,m.w⟩]
theorem sv(a b:List dq):bX (a++b)=bX a++bX b:=gg
theorem Eo(m:bY):∀(l:List dq) (T:List dq),ei (bX l)→bX (we m (l.foldl (j2 m) (T,false)))=bX T++fm (bX l) m.n m.w
 |[],T,_=>by simp[we,bX,fm]
 |x::l,T,r=>by
  have aq:=jf.1 r;have n:∀y∈l,blt x.n y.n:=fun y hy=>aq.1 (y.n,y.i) (cN.2 ⟨y,hy,o⟩);have A:bX (x::l)=(x.n,x.i)::bX l:=rfl;rw[gX,A]
  cases h:Op.bytesLess x.n m.n with
  |true=>
   have aB:¬x.n=m.n:=fun e=>by rw[e]at h;exact nG _ h
   rw[LY T h aB,Eo m l _ aq.2,sv,fm,aA aB,aA (rn h),dA]
   rfl
  |false=>
   have j:(x.n=m.n∨blt m.n x.n)→l.filter (fun y=>decide (y.n≠m.n))=l:=fun q=>tm.2 (fun y hy=>by
    refine cT (fun e=>?_);have d:=n y hy;rcases q with q|q
    ·rw[q,e]at d;exact nG _ d
    ·rw[e]at d;exact rn d q)
   by_cases aB:x.n=m.n
   ·rw[LW T h aB,tF,we,aM o,j (.inl aB),fm,aM aB,sv,sv,dA]
    rfl
   ·have ao:blt m.n x.n:=mb (fun q=>aB (oH (by unfold blt;rw[h];exact Bool.false_ne_true) q))
    rw[LX T h aB,tF,we,aM o,j (.inr ao),fm,aA aB,aM ao,sv,sv,sv,dA,dA];rfl
theorem En(m:bY)(l:List dq)(d:ei (bX l)):bX (np m l)=eV (bX l) m:=by
 unfold np eV;by_cases h:m.w=bJ
 ·rw[aM h,show decide (m.w=bJ)=true from cT h,tF]
  simp only[if_true,hq];exact Dc m l
 ·rw[aA h,show decide (m.w=bJ)=false from cL h]
  exact Eo m l [] d
theorem El(v:Value)(l:List dq)(m:bY)(w0:World)(N:Heap)
 (A:b7 N eX 33 v l)(cA:l.length≤1000000):
 aE Tryz.prog w0 64 #[v,mf m] N (fun r aG=>∃s2:aO,∃a_:Nat,r=s2.v∧aY a_ 71 aG eX 33 s2.v (np m l)∧ae 0 N.size a_∧al N aG):=by
 refine aE.aP [v,mf m] Tryz.func64 ?_;intro cb aV;have B:al N N:=aa.refl _ _;have A:=A.ch;have bP:=A.cD;have bK:=m.w.2;have cr:=bJ.2;refine I.O (fun a3=>?_);refine G.aU Z.bv ?_;rintro v3 W ⟨rfl,x,a4,_⟩;obtain⟨A,B,_⟩:=bO a4 A B;have x:Var 52 W N.size (dL m):=x;refine G.aj ?_;refine a3 (I.O (fun a5=>?_));refine G.aj ?_;refine a5 (I.O (fun aW=>?_));refine G.aV dc bx ?_;refine G.v1 (Y.cast (v2:=bM m.w) (ba ((x.W.drop 33).take 32) cZ bx (by rw[gB];exact bI _)) (c4 (gB _))) ?_;refine G.v1 (Y.build (v:=bM bJ) o o fy) ?_;refine G.v1 (Y.cast (v2:= .bool (decide (m.w=bJ))) (Y.mA o Tryz.eqGuardType26 (fun w=>i_ 9998 Tryz.underlying26 Tryz.underlying5 dK fE cY cY w) o o) ((aI Value.bool (decide_eq_decide.2 ⟨fun e=>hr e,fun e=>aI Subtype.val e⟩)))) ?_;refine G.aj ?_;refine aW (I.t1 (fun aX=>I.O (fun aZ=>?_)));refine G.aj ?_;refine aZ (I.aC (fun _ a9 _=>?_))
 refine I.bb (fun(S:Nat×aO×Nat×(List dq×Bool))=>match S with|(i,s1,n,a)=>[(0,v),(3,.pointer (some ⟨N.size,0,none⟩)),(5,s1.v),(6,.bool a.2),(7,.int .i64 (i:Int))])
  (fun(i,s1,n,a) (H:Heap)=>(i≤l.length)∧aY n 71 H eX 33 s1.v a.1∧a=(l.take i).foldl (j2 m) ([],decide (m.w=bJ))∧a.1.length≤2*i∧ae 0 W.size n∧al W H)
  (fun(i,s1,n,a)=>l.length-i) (0,dN,0,([],decide (m.w=bJ))) ⟨o,o,o,o,o,trivial⟩ ?_ ?_
 ·
  exact⟨J,aY.nil kJ oK,o,bl,ae.refl _ _,aa.refl _ _⟩
 rintro⟨i,s1,n,a⟩ C bF ca bQ bS;obtain⟨cz,j,V,cy,E,L⟩:=bF;have bT:=ax.app ax.z (bP.mono B.size) E;have cR:=ak.app ak.z x.lt E;have X:=ae.O (ae.refl 0 _) E B.size;obtain⟨A,x,B,_⟩:=cf L A x B;have U:=j.le;have aK:=E;refine I.t2 (fun be bU=>I.O (fun bV=>?_));refine G.av 2 ?_;refine G.v1 (bu A jQ) ?_;refine G.v1 bZ (G.nil (bV ?_));refine a8 (fun bi=>?_) (fun bi=>?_)
 ·
  have b4:i<l.length:=by omega
  obtain⟨y,P⟩:∃q,q=l[i]:=⟨_,o⟩;refine I.skip (be ?_)
  refine I.cut (fun(S:aO×Nat×(List dq)×Bool)=>match S with|(sp,R,K,eR)=>[(0,v),(3,.pointer (some ⟨N.size,0,none⟩)),(5,sp.v),(6,.bool eR),(7,.int .i64 (i:Int))])
   (fun(sp,R,K,eR) (H:Heap)=>(aY R 71 H eX 33 sp.v K)∧(K,eR)=j2 m a l[i]∧K.length≤2*i+2∧ae n C.size R∧aa (ay [n]) C H) (fun _ a7 _=>?_) ?_
  ·
   have ac:aa (ay [n]) C C:=aa.refl _ _;have aP:=ae.refl n C.size;refine I.aC (fun aQ _ _=>?_)
   refine I.cut (fun(S:aO×Nat×(List dq)×Bool)=>match S with|(so,Q,T,p)=>[(0,v),(3,.pointer (some ⟨N.size,0,none⟩)),(5,so.v),(6,.bool p),(7,.int .i64 (i:Int))])
    (fun(so,Q,T,p) (H:Heap)=>(aY Q 71 H eX 33 so.v T)∧(T=if(!a.2&& !(Op.bytesLess y.n m.n))=true then a.1++[(⟨m.n,m.w⟩:dq)]else a.1)∧p=(a.2||(!a.2&& !(Op.bytesLess y.n m.n)))∧T.length≤2*i+1∧ae n C.size Q∧aa (ay [n]) C H) (fun _ aR _=>?_) ?_
   ·
    have F:aa (ay [n]) C C:=aa.refl _ _;have av:=ae.refl n C.size;refine I.t1 (fun a6=>?_);refine jk ?_;refine G.af ?_;refine G.v1 fB ?_;refine G.af ?_;refine G.join (d:=29) (v:= .bool (!a.2&& !(Op.bytesLess y.n m.n))) 9 (fun aH=>?_) ?_
    ·
     refine G.split (d:=20) o (fun M=>?_) (fun M=>?_)
     ·
      refine G.av 2 ?_;refine G.e (g:=fun ad=> .pointer (some ad)) (Y.cg A i o jQ lh o o) bR o o (fun cn bb=>?_);refine G.hl p3 b3 ?_;refine G.aG (Y.cast (v2:=aN y.n) (bf (bb.W.drop 0) cd) (by rw[P])) ?_;refine G.wl x.W dc b3 cd ?_;refine G.aG (OL o o o) ?_;refine G.W ?_;exact aH _ (aI (fun b=>some (Value.bool b)) (by simp[M])) (ai (ai (ai (ai (ai (ai (ai (ai (ai (b_ (aI Value.bool M.symm)))))))))))
     ·
      refine G.av 9 ?_;exact aH _ (aI (fun b=>some (Value.bool b)) (by simp[M])) (ai (ai (ai (ai (ai (ai (ai (ai (ai (b_ (aI Value.bool M.symm)))))))))))
    refine G.nil (a6 ?_);refine dm (fun O=>?_) (fun O=>?_)
    ·
     refine I.O (fun bc=>?_);refine G.af ?_;refine G.a6 x.W dc b3 cd ?_;refine G.aV dc bx ?_;refine G.v1 (Y.cast (v2:=bM m.w) (ba ((x.W.drop 33).take 32) cZ bx (by rw[gB];exact bI _)) (c4 (gB _))) ?_;refine G.v1 (Y.build (v:= .agg (eX (⟨m.n,m.w⟩:dq)).toArray) o o (by intro w;exact xW _ _)) ?_;refine G.aU (Z.c2 (dE _ ([(⟨m.n,m.w⟩:dq)]) nS kJ oK)) ?_;rintro ct cv ⟨b6,bd,_⟩;obtain⟨j,F,_⟩:=bO bd j F;refine G.aU (eO j b6.rd nS b2 b2) ?_;rintro aL cw ⟨aC,j,bg,am⟩;have am:=am.md;have bj:=ae.O av bg F.size;obtain⟨F,_⟩:=c0 am F (an.r av);have U:=j.le;obtain⟨bW,rfl⟩:∃s:aO,aL=s.v:=⟨cF aL,j.bA.symm⟩;refine G.aj ?_;refine bc (I.region ?_);refine G.aj ?_;refine aT.sub (aR (bW,aC,a.1++[(⟨m.n,m.w⟩:dq)],true) _ ?_) ⟨o,o,o,o,(aF J),trivial⟩;exact⟨j,by rw[aM O],by rw[O,vQ],by simp;omega,bj,F⟩
    ·
     refine I.skip ?_;refine aT.sub (aR (s1,n,a.1,a.2) _ ?_) ⟨o,o,o,o,(aF J),trivial⟩;exact⟨j,by rw[aA (by rw[O];exact Bool.false_ne_true)],by rw[O,Bool.or_false],by omega,av,F⟩
   ·
    rintro⟨so,Q,T,p⟩ cc bH;obtain⟨j,aS,aU,cB,E,bG⟩:=bH;have aB:=ae.O aP E ac.size;obtain⟨A,x,ac,_⟩:=dQ bG A bT x cR ac (an.r aP);have U:=j.le;refine I.t1 (fun bk=>?_);refine jk ?_;refine G.av 2 ?_;refine G.cn (Y.cg A i o jQ lh o o) fun cp bm=>?_;refine G.aV p3 b3 ?_;refine G.v1 (Y.cast (v2:=aN y.n) (bf (bm.W.drop 0) cd) (by rw[P])) ?_;refine G.a6 x.W dc b3 cd ?_;refine G.v1 (Y.lO o o o) (G.nil (bk ?_));refine a8 (fun af=>?_) (fun af=>?_)
    ·
     refine I.region ?_;refine G.av 3 ?_;refine G.cn (Y.cg A i o jQ lh o o) fun cq bn=>?_;refine G.v1 (Y.cast (v2:= .agg (eX y).toArray) (ba bn.W uI lh (kJ _)) (by rw[P])) ?_;refine G.aU (Z.c2 (dE _ ([y]) nS kJ oK)) ?_;rintro cx cg ⟨b8,bo,_⟩;obtain⟨j,ac,_⟩:=bO bo j ac;refine G.aU (eO j b8.rd nS b2 b2) ?_;rintro a0 ch ⟨bX,j,bp,ap⟩;have ap:=ap.md;have bq:=ae.O aB bp ac.size;obtain⟨ac,_⟩:=c0 ap ac (an.r aB);have U:=j.le;obtain⟨b0,rfl⟩:∃s:aO,a0=s.v:=⟨cF a0,j.bA.symm⟩;refine G.aj ?_;refine aQ ?_;refine aT.sub (a7 (b0,bX,T++[y],p) _ ?_) ⟨o,o,o,o,(aF J),trivial⟩;exact⟨j,by rw[←P];show _=(if y.n≠m.n then(if(!a.2&& !(Op.bytesLess y.n m.n))=true then a.1++[(⟨m.n,m.w⟩:dq)]else a.1)++[y]else(if(!a.2&& !(Op.bytesLess y.n m.n))=true then a.1++[(⟨m.n,m.w⟩:dq)]else a.1),a.2||(!a.2&& !(Op.bytesLess y.n m.n)));rw[aM af,←aS,←aU],by simp;omega,bq,ac⟩
    ·
     refine I.skip (aQ ?_);refine aT.sub (a7 (so,Q,T,p) _ ?_) ⟨o,o,o,o,(aF J),trivial⟩;exact⟨j,by rw[←P];show _=(if y.n≠m.n then(if(!a.2&& !(Op.bytesLess y.n m.n))=true then a.1++[(⟨m.n,m.w⟩:dq)]else a.1)++[y]else(if(!a.2&& !(Op.bytesLess y.n m.n))=true then a.1++[(⟨m.n,m.w⟩:dq)]else a.1),a.2||(!a.2&& !(Op.bytesLess y.n m.n)));rw[aA af,←aS,←aU],by omega,aB,ac⟩
  ·
   rintro⟨sp,R,K,eR⟩ bB bL;obtain⟨j,b5,cC,E,az⟩:=bL;have bt:=ae.O aK E L.size;obtain⟨L,_⟩:=c0 az L aK;have U:=j.le;refine I.region ?_;refine G.af ?_;refine G.v1 bN ?_;refine G.aj ?_;refine aT.sub (bQ (i+1,sp,R,(K,eR)) _ ?_ ?_) ⟨o,o,o,o,(aF J),trivial⟩
   ·exact⟨J,j,by rw[LV b4,←V];exact b5,by show K.length≤_;omega,bt,L⟩
   ·first|omega|(simp only;omega)|(simp;omega)
 ·
  obtain rfl:i=l.length:=by omega
  rw[eD]at V;refine I.exit (bU (bS (a9 ?_)));refine aX (I.t1 (fun aJ=>I.O (fun bw=>?_)));refine G.af ?_;refine G.v1 fB (G.nil (bw ?_));refine dm (fun ag=>?_) (fun ag=>?_)
  ·
   refine I.region ?_;refine G.af ?_;refine G.a6 x.W dc b3 cd ?_;refine G.aV dc bx ?_;refine G.v1 (Y.cast (v2:=bM m.w) (ba ((x.W.drop 33).take 32) cZ bx (by rw[gB];exact bI _)) (c4 (gB _))) ?_;refine G.v1 (Y.build (v:= .agg (eX (⟨m.n,m.w⟩:dq)).toArray) o o (by intro w;exact xW _ _)) ?_;refine G.aU (Z.c2 (dE _ ([(⟨m.n,m.w⟩:dq)]) nS kJ oK)) ?_;rintro ck cl ⟨b9,bz,_⟩;obtain⟨j,B,_⟩:=bO bz j B;refine G.aU (eO j b9.rd nS b2 b2) ?_;rintro a2 cm ⟨b1,j,bA,aD⟩;have aD:=aD.md;have bC:=ae.O X bA B.size;have B:=B.gn aD (ar.T (an.q X));obtain⟨br,rfl⟩:∃s:aO,a2=s.v:=⟨cF a2,j.bA.symm⟩;refine G.aj ?_;refine aJ (I.O (fun bD=>?_));refine G.aZ 2 ?_;refine bD ?_;refine I.ret (aV ?_);exact⟨br,b1,o,by unfold np;simp only[←V];rw[aA (by simpa using ag)];exact j,bC,B⟩
  ·
   refine I.skip (aJ (I.O (fun bE=>?_)));refine G.aZ 2 ?_;refine bE ?_;refine I.ret (aV ?_);exact⟨s1,n,o,by unfold np;simp only[←V];rw[aM (by simpa using ag)];exact j,X,B⟩
end xk
namespace AH
open e2 hn
def j1(n:List UInt8)(l:List hd):List hd:=l.filter (fun x=>decide (x.n≠n))
def pK(n:List UInt8)(l:List hd):List dw:=(l.filter (fun x=>decide (x.n=n))).flatMap (·.l)
theorem vX(n:List UInt8):∀(l:List hd),c7 (j1 n l)=e4 (c7 l) n
 |[]=>rfl
 |x::l=>by
  have ih:=vX n l;by_cases h:x.n=n
  ·simp only[c7,e4,j1,dk]at ih⊢
   simp[h]at ih⊢;exact ih
  ·simp only[c7,e4,j1,dk]at ih⊢
   simp[h]at ih⊢;exact ih
theorem DT(n:List UInt8):∀(l:List hd),ei (c7 l)→pK n l=(aH (c7 l) n).getD []
 |[],_=>rfl
 |x::l,q=>by
  have aq:=jf.1 q;have ih:=DT n l aq.2;by_cases h:x.n=n
  ·have d:l.filter (fun y=>decide (y.n=n))=[]:=r6.2 (fun y hy e=>by
    have j:=aq.1 (y.n,y.l) (cN.2 ⟨y,hy,o⟩);have e:y.n=n:=ki e;exact oG j (h.trans e.symm))
   show((x::l).filter (fun y=>decide (y.n=n))).flatMap (·.l)=(aH ((x.n,x.l)::c7 l) n).getD [];rw[mM (by simp[h]),d,aH,aM h.symm];simp
  ·show((x::l).filter (fun y=>decide (y.n=n))).flatMap (·.l)=(aH ((x.n,x.l)::c7 l) n).getD []
   rw[mL (by simp[h]),aH,aA (fun e=>h e.symm)];exact ih
theorem DS{n:List UInt8}{l:List hd}{i:Nat}(d:i<l.length):j1 n (l.take (i+1))=if l[i].n=n then j1 n (l.take i)else j1 n (l.take i)++[l[i]]:=by
 unfold j1;rw[eP d,vS];by_cases h:l[i].n=n<;>simp[h]
theorem DU{n:List UInt8}{l:List hd}{i:Nat}(d:i<l.length):pK n (l.take (i+1))=if l[i].n=n then pK n (l.take i)++l[i].l else pK n (l.take i):=by
 unfold pK;rw[eP d,vS,jq];by_cases h:l[i].n=n<;>simp[h]
theorem Kp{β:Type}{L:List (aD×β)}(h:ei L)(n:aD)(v:β):fm (e4 L n) n v=fm L n v:=by
 have ah:ei (e4 L n):=r5 _ h;refine yw (rQ ah n v) (rQ h n v) (fun q=>?_);rw[tC _ _ _ _ ah,tC _ _ _ _ h,lH];by_cases d:q=n
 ·rw[aM d,aM d]
 ·rw[aA d,aA d,aA d]
theorem K8{l:List hd}{m:bY}(d:ei (c7 l))(hw:¬m.w=bJ){k:Nat}(C:k≤(j1 m.n l).length)(A:∀j (h:j<(j1 m.n l).length),j<k→blt (j1 m.n l)[j].n m.n)(ab:∀h:k<(j1 m.n l).length,¬blt (j1 m.n l)[k].n m.n)(v:aO):
 c7 ((j1 m.n l).take k++⟨m.n,v,j0 (pK m.n l++[⟨m.T,m.w,m.y⟩])⟩::(j1 m.n l).drop k)=js (c7 l) m:=by
 have ah:ei (c7 (j1 m.n l)):=by rw[vX];exact r5 _ d
 have E:∀x∈j1 m.n l,¬x.n=m.n:=fun x F=>ki (jZ.1 F).2;unfold js
 rw[aA hw,←Kp d,←vX,DT _ _ d,yy (k:=k) (by simp only[c7,dg];exact C) (fun j r B=>by
  simp only[c7,dg]at r;simp only[c7,oV];exact A j r B) (fun n=>by
  simp only[c7,dg]at n;simp only[c7,oV];exact mb (fun q=>E _ (cU n) (oH (ab n) q)))]
 simp only[c7,gg,dk,tk,vH]
end AH
namespace AI
open gV e2 hn jH iN AH
theorem Lo(v:Value)(l:List hd)(m:bY)(F:Nat→Prop)(w0:World)(N:Heap)
 (M:Rd F N gN 2 v l)(dt:bp F N.size)(aB:∀y∈l,Rd F N ff 65 y.v.v y.l)(bg:bp F N.size)(fq:l.length≤1000000)(eu:∀y∈l,y.l.length≤100):
 aE Tryz.prog w0 65 #[v,mf m] N (fun r aH=>∃s2:aO,∃bS:List hd,∃aQ:Nat→Prop,r=s2.v∧(∀u:Unit,Rd aQ aH gN 2 s2.v bS)∧bp aQ aH.size∧(∀y∈bS,Rd aQ aH ff 65 y.v.v y.l)∧bp aQ aH.size∧(∀b,aQ b→F b∨N.size≤b)∧(ei (c7 l)→c7 bS=js (c7 l) m)∧al N aH):=by
 refine aE.aP [v,mf m] Tryz.func65 ?_;intro eM ct;have x:al N N:=aa.refl _ _;have eZ:=m.w.2;have e0:=bJ.2;refine I.O (fun dV=>?_);refine G.aU Z.bv ?_;rintro v3 E ⟨rfl,C,dW,_⟩;obtain⟨M,aB,x,_⟩:=cf dW M aB x;have C:Var 52 E N.size (dL m):=C;refine G.aj ?_;refine dV (I.O (fun eF=>?_));refine G.aj ?_;refine eF (I.O (fun ci=>?_));refine G.a6 C.W dc b3 cd ?_;refine G.v1 (Y.build (v:= .agg (gN ⟨m.n,dN,[]⟩).toArray) o o fy) ?_;refine G.aU (Z.a7 AB) ?_;rintro v6 eH ⟨rfl,A,dX,_⟩;have b6:=ax.new (dt.mono x.size);have bj:=ax.new (bg.mono x.size);have bk:=ak.new C.lt;have bm:=ae.new x.size;obtain⟨M,aB,C,x,_⟩:=ed dX M aB C x;refine G.s1 (et A _ (gN ⟨m.n,dN,[]⟩) (na _) iD (jo _) ((dD (jo _).symm))) ?_;rintro aZ ⟨A,cB⟩;obtain⟨M,aB,C,x,_⟩:=dT cB M b6 aB bj C bk x bm;refine G.nil (ci (I.t1 (fun dY=>I.O (fun dG=>?_))));refine G.aj ?_;refine dG (I.aC (fun _ d_ _=>?_))
 refine I.bb (fun(aX:Nat×aO×Nat×(List hd)×aO×Nat×(List dw))=>match aX with|(i,s1,O,T,av,P,K)=>[(0,v),(3,.pointer (some ⟨N.size,0,none⟩)),(5,s1.v),(6,.pointer (some ⟨E.size,0,none⟩)),(7,.int .i64 (i:Int))])
  (fun(i,s1,O,T,av,P,K) (H:Heap)=>(i≤l.length)∧Var 62 H E.size (gN ⟨m.n,av,[]⟩)∧aY O 62 H gN 2 s1.v T∧aY P 64 H ff 65 av.v K∧T=j1 m.n (l.take i)∧K=pK m.n (l.take i)∧T.length≤i∧K.length≤100*i∧ae 0 aZ.size O∧ae 0 aZ.size P∧ak (E.size+1) O∧ak (E.size+1) P∧ak O P∧aa (ay [(E.size+1)]) aZ H)
  (fun(i,s1,O,T,av,P,K)=>l.length-i) (0,dN,0,[],dN,0,[]) ⟨o,o,o,o,o,trivial⟩ ?_ ?_
 ·
  exact⟨J,A,aY.nil jo na,aY.nil px rH,o,o,bl,bl,ae.refl _ _,ae.refl _ _,ak.z,ak.z,ak.z,aa.refl _ _⟩
 rintro⟨i,s1,O,T,av,P,K⟩ R eb eJ co ec;obtain⟨fm,A,n,B,U,bn,fr,fw,a_,X,bG,bH,bL,af⟩:=eb;have br:=ae.O (ae.refl 0 _) a_ x.size;have bK:=ax.app ax.z (bg.mono x.size) X;have dB:=ak.app ak.z C.lt X;have b1:=ae.O (ae.refl 0 _) X x.size;obtain⟨M,aB,C,x,_⟩:=dT af M b6 aB bj C bk x bm;have bV:=n.le;have ap:=B.le;have ag:=bG;have aJ:=bH;have aK:=bL;have cG:=ae.refl (E.size+1) aZ.size;have a0:=a_;have bB:=X;refine I.t2 (fun ee ef=>I.O (fun cs=>?_));refine G.av 2 ?_;refine G.v1 (bu M ij) ?_;refine G.v1 bZ (G.nil (cs ?_));refine a8 (fun eg=>?_) (fun eg=>?_)
 ·
  have aU:i<l.length:=by omega
  obtain⟨y,S⟩:∃q,q=l[i]:=⟨_,o⟩;have bR:y∈l:=by rw[S];exact cU aU
  have fz:=eu y bR;refine I.skip (ee ?_)
  refine I.cut (fun(aX:aO×Nat×(List hd)×aO×Nat×(List dw))=>match aX with|(sp,V,ai,jN,W,aD)=>[(0,v),(3,.pointer (some ⟨N.size,0,none⟩)),(5,sp.v),(6,.pointer (some ⟨E.size,0,none⟩)),(7,.int .i64 (i:Int))])
   (fun(sp,V,ai,jN,W,aD) (H:Heap)=>(Var 62 H E.size (gN ⟨m.n,jN,[]⟩))∧aY V 62 H gN 2 sp.v ai∧aY W 64 H ff 65 jN.v aD∧ai=j1 m.n (l.take (i+1))∧aD=pK m.n (l.take (i+1))∧ai.length≤i+1∧aD.length≤100*(i+1)∧ae O R.size V∧ae P R.size W∧ak (E.size+1) V∧ak (E.size+1) W∧ak V W∧aa (ay [(E.size+1),O,P]) R H) (fun _ a2 _=>?_) ?_
  ·
   have L:aa (ay [(E.size+1),O,P]) R R:=aa.refl _ _;have am:=ae.refl (E.size+1) R.size;have bF:=ae.refl O R.size;have ac:=ae.refl P R.size;refine I.aC (fun a3 _ _=>I.t1 (fun dC=>?_));refine jk ?_;refine G.av 2 ?_;refine G.cn (Y.cg M i o ij iD o o) fun bQ dF=>?_;refine G.aV iI b3 ?_;refine G.v1 (Y.cast (v2:=aN y.n) (bf (dF.W.drop 0) cd) (by rw[S])) ?_;refine G.a6 C.W dc b3 cd ?_;refine G.v1 (Y.oc o o o) (G.nil (dC ?_));refine a8 (fun a4=>?_) (fun a4=>?_)
   ·
    refine ka 7 (fun eN ep=>?_);refine G.a6 A.W iI ju k1 ?_;refine G.av 2 ?_;refine G.cn (Y.cg M i o ij iD o o) fun fl dI=>?_;refine G.aV iI ju ?_;refine G.v1 (Y.cast (v2:=y.v.v) (bf (dI.W.drop 1) k1) (by rw[S])) ?_;have fB:=aB y bR;refine G.nil (ep _ ?_);refine G.aU (eO B (aB y bR) oP J J) ?_;rintro b7 e1 ⟨eh,B,bq,bt⟩;have bt:=bt.md;have a5:=ak.app aJ A.lt bq;have dJ:=ak.app aK n.le bq;have cO:=ae.O ac bq L.size;obtain⟨A,n,L,_⟩:=dQ bt A aJ n aK L (an.r ac);have ap:=B.le;obtain⟨b8,rfl⟩:∃s:aO,b7=s.v:=⟨cF b7,B.bA.symm⟩;refine G.aV iI ju ?_;refine G.s1 (du A 1 (gN ⟨m.n,b8,[]⟩) ju (by rw[jo];omega) o) ?_;rintro fj ⟨A,cv⟩;obtain⟨n,B,L,_⟩:=dQ cv n ag.symm B a5.symm L (an.r am);refine G.nil (a3 ?_);refine aT.sub (a2 (s1,O,T,b8,eh,K++y.l) _ ?_) ⟨o,o,o,o,(aF J),trivial⟩;exact⟨A,n,B,by rw[DS aU,←S,aM a4,←U],by rw[DU aU,←S,aM a4,←bn],by omega,by simp;omega,bF,cO,ag,a5,dJ,L⟩
   ·
    refine I.region ?_;refine G.av 3 ?_;refine G.cn (Y.cg M i o ij iD o o) fun fk cP=>?_;refine G.v1 (Y.cast (v2:= .agg (gN y).toArray) (ba cP.W uG iD (jo _)) (by rw[S])) ?_;refine G.aU (Z.c2 (dE _ ([y]) nT jo na)) ?_;rintro e2 e3 ⟨eA,cQ,_⟩;obtain⟨A,n,B,L,_⟩:=ed cQ A n B L;refine G.aU (eO n eA.rd nT b2 b2) ?_;rintro b9 e4 ⟨ej,n,bw,bz⟩;have bz:=bz.md;have cT:=ak.app ag A.lt bw;have cV:=ak.app aK.symm B.le bw;have cW:=ae.O bF bw L.size;obtain⟨A,B,L,_⟩:=dQ bz A ag B aK.symm L (an.r bF);have bV:=n.le;obtain⟨dM,rfl⟩:∃s:aO,b9=s.v:=⟨cF b9,n.bA.symm⟩;refine G.aj ?_;refine a3 ?_;refine aT.sub (a2 (dM,ej,T++[y],av,P,K) _ ?_) ⟨o,o,o,o,(aF J),trivial⟩;exact⟨A,n,B,by rw[DS aU,←S,aA a4,←U],by rw[DU aU,←S,aA a4,←bn],by simp;omega,by omega,cW,ac,cT,aJ,cV.symm,L⟩
  ·
   rintro⟨sp,V,ai,jN,W,aD⟩ eP cz;obtain⟨A,n,B,ev,dP,ft,fx,a_,X,bG,bH,bL,b5⟩:=cz;have cX:=ae.O a0 a_ af.size;have c2:=ae.O bB X af.size;have af:=af.bt b5 (ar.cons (an.r cG) (ar.cons (an.q a0) (ar.T (an.q bB))));have e6:=b5.size;have bV:=n.le;have ap:=B.le;have c3:=bG;have c5:=bH;have c6:=bL;refine I.region ?_;refine G.af ?_;refine G.v1 bN ?_;refine G.aj ?_;refine aT.sub (co (i+1,sp,V,ai,jN,W,aD) _ ?_ ?_) ⟨o,o,o,o,(aF J),trivial⟩
   ·exact⟨J,A,n,B,ev,dP,by omega,by omega,cX,c2,c3,c5,c6,af⟩
   ·first|omega|(simp only;omega)|(simp;omega)
 ·
  obtain rfl:i=l.length:=by omega
  rw[eD]at U bn;refine I.exit (ef (ec (d_ ?_)));refine dY (I.t2 (fun c8 c9=>I.O (fun da=>?_)));refine G.aV dc bx ?_;refine G.v1 (Y.cast (v2:=bM m.w) (ba ((C.W.drop 33).take 32) cZ bx (by rw[gB];exact bI _)) (c4 (gB _))) ?_;refine G.v1 (Y.build (v:=bM bJ) o o fy) ?_;refine G.v1 (Y.cast (v2:= .bool (decide (m.w=bJ))) (Y.mA o Tryz.eqGuardType26 (fun w=>i_ 9998 Tryz.underlying26 Tryz.underlying5 dK fE cY cY w) o o) ((aI Value.bool (decide_eq_decide.2 ⟨fun e=>hr e,fun e=>aI Subtype.val e⟩)))) (G.nil (da ?_));refine a8 (fun bO=>?_) (fun bO=>?_)
  ·
   refine I.O (fun db=>?_);refine G.aZ 2 ?_;refine db ?_;refine I.ret (c9 (ct ?_));exact⟨s1,T,_,o,(fun _=>((n.rd.imp (fun b _ e=>Or.inr (by have bh:=br;unfold ae at bh;omega))):Rd (fun b=>F b∨N.size≤b) _ gN 2 s1.v T).ch),(fun b e=>e.2),(fun y hy=>(((aB y (by rw[U]at hy;exact(jZ.1 hy).1)).imp (fun b _ e=>Or.inl e):Rd (fun b=>F b∨N.size≤b) _ _ _ _ _)).ch),(fun b e=>e.2),(fun b e=>e.1),fun _=>by unfold js;rw[aM bO,U];exact vX _ _,x⟩
  ·
   refine I.skip (c8 (I.O (fun de=>?_)));refine G.a6 A.W iI ju k1 ?_;refine G.aV dc bx ?_;refine G.v1 (Y.cast (v2:=bM m.T) (ba ((C.W.drop 1).take 32) cZ bx (by rw[jd];exact bI _)) (c4 (jd _))) ?_;refine G.aV dc bx ?_;refine G.v1 (Y.cast (v2:=bM m.w) (ba ((C.W.drop 33).take 32) cZ bx (by rw[gB];exact bI _)) (c4 (gB _))) ?_;refine G.aX C.W.qO dc b3 cd ?_;refine G.v1 (Y.build (v:= .agg (ff ⟨m.T,m.w,m.y⟩).toArray) o o (by intro w;exact BD _ _)) ?_;refine G.aU (Z.c2 (dE _ ([(⟨m.T,m.w,m.y⟩:dw)]) oP px rH)) ?_;rintro e7 e8 ⟨eB,df,_⟩;obtain⟨aB,C,A,n,B,x,_⟩:=fY df aB C A n B x;refine G.aU (eO B eB.rd oP b2 b2) ?_;rintro b_ e9 ⟨cl,B,bT,bA⟩;have bA:=bA.md;have bC:=ak.app aJ A.lt bT;have bU:=ae.O b1 bT x.size;obtain⟨aB,C,A,n,x,_⟩:=g_ bA aB bK C dB A aJ n aK x b1;have ap:=B.le;obtain⟨cm,rfl⟩:∃s:aO,b_=s.v:=⟨cF b_,B.bA.symm⟩;refine G.aV iI ju ?_;refine G.s1 (du A 1 (gN ⟨m.n,cm,[]⟩) ju (by rw[jo];omega) o) ?_;rintro az ⟨A,cx⟩;obtain⟨aB,C,n,B,x,_⟩:=g_ cx aB bj C bk n ag.symm B bC.symm x bm;refine G.nil (de ?_)
   refine I.cut (fun(aX:aO×(Nat→Prop))=>match aX with|(sz,aG)=>[(3,.pointer (some ⟨N.size,0,none⟩)),(5,s1.v),(6,.pointer (some ⟨E.size,0,none⟩))])
    (fun(sz,aG) (H:Heap)=>(Var 62 H E.size (gN ⟨m.n,sz,[]⟩))∧(∀u:Unit,Rd aG H ff 65 sz.v (j0 (K++[(⟨m.T,m.w,m.y⟩:dw)])))∧bp aG H.size∧(∀b,aG b→N.size≤b)∧aa (ay [(E.size+1)]) az H) (fun _ a9 _=>?_) ?_
   ·
    have bb:aa (ay [(E.size+1)]) az az:=aa.refl _ _;have cC:=ae.refl (E.size+1) az.size;refine I.O (fun dg=>?_);refine G.a6 A.W iI ju k1 ?_;refine G.v1 (bu B.rd lQ) ?_;have fp:(K++[(⟨m.T,m.w,m.y⟩:dw)]).length=K.length+1:=by simp
    obtain⟨q,ew⟩:∃q,q=(K++[(⟨m.T,m.w,m.y⟩:dw)]).length-100:=⟨_,o⟩;have cr:=y6 ew;refine G.v1 fA (G.nil (dg ?_));refine a8 (fun dR=>?_) (fun dR=>?_)
    ·
     refine I.region ?_;refine G.a6 A.W iI ju k1 ?_;refine G.a6 A.W iI ju k1 ?_;refine G.v1 (bu B.rd lQ) ?_;refine G.v1 (Y.cast (v2:= .int .i64 (q:Int)) gq (eI J)) ?_;refine G.aP (g:=fun v=>v) (Y.slice B.rd q ((K++[(⟨m.T,m.w,m.y⟩:dw)]).length) o lQ pX o (.inr ⟨_,_,_,o,o,by first|rfl|omega⟩) (.inl ⟨o,o⟩) J J) fun cn aW=>?_;rw[eD,cr]at aW;obtain⟨cp,rfl⟩:∃s:aO,cn=s.v:=⟨cF cn,aW.bA.symm⟩;refine G.aV iI ju ?_;refine G.s1 (du A 1 (gN ⟨m.n,cp,[]⟩) ju (by rw[jo];omega) o) ?_;rintro ce ⟨A,aP⟩;have aP:=aP.e3;obtain⟨B,_⟩:=c0 aP B bC.symm;have aW:=aW.aJ aP (aS.cons (ax.of bC.symm) aS.nil);obtain⟨bb,_⟩:=c0 aP bb (an.r cC);refine G.nil ?_;refine aT.sub (a9 (cp,fun b=>b+1=cl) _ ?_) ⟨o,o,o,trivial⟩;exact⟨A,fun _=>aW,(fun b e=>by have bh:=B.le;omega),(fun b e=>by have bh:=bU;unfold ae at bh;omega),bb⟩
    ·
     refine I.skip ?_;refine aT.sub (a9 (cm,fun b=>b+1=cl) _ ?_) ⟨o,o,o,trivial⟩;exact⟨A,fun _=>by rw[show j0 (K++[(⟨m.T,m.w,m.y⟩:dw)])=(K++[(⟨m.T,m.w,m.y⟩:dw)])from by rw[←cr,show q=0 by omega];rfl];exact B.rd,(fun b e=>by have bh:=B.le;omega),(fun b e=>by have bh:=bU;unfold ae at bh;omega),bb⟩
   ·
    rintro⟨sz,aG⟩ a7 cw;obtain⟨A,Q,bW,eo,cH⟩:=cw;obtain⟨aB,C,n,x,_⟩:=dT cH aB bj C bk n ag.symm x bm;refine I.O (fun dh=>?_);refine G.aj ?_;refine dh ?_
    refine I.cut (fun(k:Nat)=>[(5,s1.v),(6,.pointer (some ⟨E.size,0,none⟩)),(8,.int .i64 (k:Int))])
     (fun(k:Nat) (H:Heap)=>(k≤T.length)∧(∀q (h:q<T.length),q<k→blt T[q].n m.n)∧(∀h:k<T.length,¬blt T[k].n m.n)∧al a7 H) (fun _ b4 _=>?_) ?_
    ·
     have bd:al a7 a7:=aa.refl _ _;refine I.aC (fun _ ca _=>?_)
     refine I.bb (fun(k:Nat)=>[(3,.pointer (some ⟨N.size,0,none⟩)),(5,s1.v),(6,.pointer (some ⟨E.size,0,none⟩)),(8,.int .i64 (k:Int))])
      (fun(k:Nat) (H:Heap)=>(k≤T.length)∧(∀q (h:q<T.length),q<k→blt T[q].n m.n)∧al a7 H)
      (fun(k:Nat)=>T.length-k) 0 ⟨o,o,o,o,trivial⟩ ?_ ?_
     ·
      exact⟨J,(fun q h ab=>absurd ab (rY _)),aa.refl _ _⟩
     intro k e_ dS fa di cb;obtain⟨cq,aV,cc⟩:=dS;obtain⟨C,n,bd,_⟩:=cf cc C n bd;refine I.t2 (fun dj cR=>I.t1 (fun be=>?_));refine jk ?_;refine G.av 2 ?_;refine G.v1 (bu n.rd ij) ?_;refine G.v1 bZ ?_;refine G.af ?_;refine G.bL (d:=76) o (fun dU=>?_) (fun dU=>?_)
     ·
      refine G.av 2 ?_;have fo:k<T.length:=by omega
      refine G.aG (mo n k ij iD) ?_;refine G.aG (Y.fieldAddr (n.W (j:=k) ic) o iI o o b3 bc o) ?_;refine G.aG (Y.cast (v2:=aN T[k].n) (bf ((n.W (j:=k) ic).drop 0) cd) o) ?_;refine G.wl C.W dc b3 cd ?_;refine G.aG (Y.Og o o o) ?_;refine G.W ?_;refine G.nil (be ?_);refine dm (fun bP=>?_) (fun bP=>?_)
      ·
       refine I.skip (dj (I.aC (fun dk _ _=>I.region ?_)));refine G.af ?_;refine G.v1 bN ?_;refine G.aj ?_;refine dk ?_;refine aT.sub (di (k+1) _ ?_ ?_) ⟨o,o,o,(aF J),trivial⟩
       ·exact⟨J,(fun q h ab=>by rcases vR.1 ab with ek|rfl;exact aV q h ek;exact bP),cc⟩
       ·first|omega|(simp only;omega)|(simp;omega)
      ·
       refine I.exit (cR (cb (ca ?_)));refine aT.sub (b4 k _ ?_) ⟨o,o,(aF J),trivial⟩;exact⟨J,aV,(fun _=>by unfold blt;simpa using bP),bd⟩
     ·
      refine G.av 9 ?_;refine G.nil (be ?_);refine dZ ?_;refine I.exit (cR (cb (ca ?_)));refine aT.sub (b4 k _ ?_) ⟨o,o,(aF J),trivial⟩;exact⟨J,aV,(fun h=>absurd h J),bd⟩
    ·
     intro k cD cA;obtain⟨cq,aV,ey,cy⟩:=cA;obtain⟨aB,A,n,Q,x,_⟩:=dH cy aB A n Q x;refine I.O (fun dp=>?_);refine G.aj ?_;refine dp (I.O (fun dq=>?_));refine G.av 3 ?_;refine G.aP (g:=fun v=>v) (Y.slice n.rd (0) k o ij iD o (.inl ⟨o,o⟩) (.inr ⟨_,_,_,o,o,by first|rfl|omega⟩) J J) fun fc eG=>?_;have ez:aY 0 62 cD gN 2 (.slice none 0 0) []:=aY.nil jo na;refine G.aU (eO ez eG nT b2 b2) ?_;rintro fe fg ⟨fh,on,a6,aL⟩;have aL:=aL.md;have cg:=ax.app ax.z (bg.mono x.size) a6;have cI:=ak.app ak.z n.le a6;have ch:=ax.app ax.z (bW.mono J) a6;have bi:=ae.O (ae.refl 0 _) a6 x.size;obtain⟨aB,A,n,Q,_⟩:=dT aL aB ax.z A ak.z n ak.z Q ax.z;have x:=x.gn aL (ar.cons an.z ar.nil);have eT:=aL.size;have bX:=on.le;refine G.aj ?_;refine dq (I.O (fun cJ=>?_));refine G.af ?_;refine G.v1 (ba A.W uG iD (jo _)) ?_;refine G.aU (Z.c2 (dE _ ([(⟨m.n,sz,j0 (K++[(⟨m.T,m.w,m.y⟩:dw)])⟩:hd)]) nT jo na)) ?_;rintro fi eQ ⟨eC,cK,_⟩;obtain⟨aB,n,Q,on,x,_⟩:=dH cK aB n Q on x;refine G.aU (eO on eC.rd nT b2 b2) ?_;rintro eR eS ⟨eK,on,bD,bE⟩;have bE:=bE.md;have cL:=ax.app cg (bg.mono x.size) bD;have dx:=ax.app ch (bW.mono J) bD;have b0:=ae.O bi bD x.size;obtain⟨aB,n,Q,x,_⟩:=dT bE aB cg n cI Q ch x bi;have bX:=on.le;refine G.aj ?_;refine cJ (I.O (fun cN=>?_));refine G.av 3 ?_;refine G.aP (g:=fun v=>v) (Y.slice n.rd k T.length o ij iD o (.inr ⟨_,_,_,o,o,by first|rfl|omega⟩) (.inl ⟨o,o⟩) J J) fun eV eE=>?_;refine G.aU (eO on eE nT b2 b2) ?_;rintro aC eW ⟨eY,on,dy,bo⟩;have bo:=bo.md;have dz:=ae.O b0 dy x.size;obtain⟨aB,Q,x,_⟩:=dQ bo aB cL Q dx x b0;have bX:=on.le;rw[hq,nh,eD]at on;obtain⟨ck,rfl⟩:∃s:aO,aC=s.v:=⟨cF aC,on.bA.symm⟩;refine G.aj ?_;refine cN ?_;refine I.ret (ct ?_);exact⟨ck,T.take k++[⟨m.n,sz,j0 (K++[(⟨m.T,m.w,m.y⟩:dw)])⟩]++T.drop k,_,o,(fun _=>((on.rd.imp (fun b _ e=>Or.inr (by have bh:=dz;unfold ae at bh;omega))):Rd (fun b=>F b∨N.size≤b) _ gN 2 ck.v (T.take k++[⟨m.n,sz,j0 (K++[(⟨m.T,m.w,m.y⟩:dw)])⟩]++T.drop k)).ch),(fun b e=>e.2),(fun y hy=>((by rcases gG.1 hy with hy|hy;rcases gG.1 hy with hy|hy;exact(aB y (by have aR:=kQ hy;rw[U]at aR;exact(jZ.1 aR).1)).imp (fun b _ e=>Or.inl e);rw[eU.1 hy];exact(Q ()).imp (fun b _ e=>Or.inr (eo b e));exact(aB y (by have aR:=y2 hy;rw[U]at aR;exact(jZ.1 aR).1)).imp (fun b _ e=>Or.inl e)):Rd (fun b=>F b∨N.size≤b) _ _ _ _ _).ch),(fun b e=>e.2),(fun b e=>e.1),fun er=>by subst U;subst bn;rw[dA];exact K8 er bO cq aV ey sz,x⟩
end AI
namespace AJ
open gV qb e2 ow iN
theorem F9:∀{l:List hf} {i:Nat} (j:i<l.length),ja (l.take i)=0→jv l[i]≠0→ja l=jv l[i]
 |t::l,0,_,_,h=>by
  have h:jv t≠0:=h
  rw[ja,aM h];rfl
 |t::l,i+1,j,n,h=>by
  have d:ja (t::l.take i)=0:=n;rw[ja]at d;by_cases ab:jv t≠0
  ·rw[aM ab]at d;exact absurd d ab
  ·rw[aA ab]at d
   rw[ja,aA ab];exact F9 (Nat.lt_of_succ_lt_succ j) d h
theorem Hf{x:dj}(h:(((((x.cl=bJ∨x.bQ=bJ)∨x.dn<0)∨x.dn>(x.bj.length:Int))∨x.md<0)∨x.md>x.dn)∨(x.st=true∧x.dn=(x.bj.length:Int))):jW x=false:=
 cL (fun⟨a,b,c,d,e,f,g⟩=>by
  rcases h with(((((h|h)|h)|h)|h)|h)|h
  ·exact a h
  ·exact b h
  ·omega
  ·omega
  ·omega
  ·omega
  ·exact g h)
theorem uO{x:dj}(h:¬((((((x.cl=bJ∨x.bQ=bJ)∨x.dn<0)∨x.dn>(x.bj.length:Int))∨x.md<0)∨x.md>x.dn)∨(x.st=true∧x.dn=(x.bj.length:Int)))):¬jW x=false:=fun e=>by
 simp only[not_or]at h;obtain⟨⟨⟨⟨⟨⟨a,b⟩,c⟩,d⟩,j⟩,f⟩,g⟩:=h;have ab:jW x=true:=cT ⟨a,b,by omega,by omega,by omega,by omega,g⟩;rw[e]at ab;cases ab
set_option maxHeartbeats 1600000 in
theorem JM(x:dj)(w0:World)(N:Heap)
 (n:b7 N en 33 x.cx.v x.bj)(ao:x.br.length≤9223372036854775807):
 aE Tryz.prog w0 42 #[hx x] N (fun r aH=>r= .int .i64 (iE x)∧al N aH):=by
 refine aE.aP [hx x] Tryz.func42 ?_;intro bG E;have A:al N N:=aa.refl _ _;have n:=n.ch;have bT:=n.len;have cD:=x.cl.2;have bK:=x.bQ.2;have bL:=bJ.2;refine I.O (fun bp=>?_);refine G.aU Z.bv ?_;rintro v1 H1 ⟨rfl,j,bq,_⟩;obtain⟨n,A,_⟩:=bO bq n A;have j:Var 29 H1 N.size (dC x):=j;refine G.aj ?_;refine bp (I.t2 (fun bt bw=>I.O (fun a0=>?_)));refine G.a6 j.W b1 b8 cX ?_;refine G.v1 dX ?_;refine G.af ?_;refine G.join (d:=11) (v:= .bool (decide (¬(x.k=1∨x.k=2)))) 4 (fun ar=>?_) ?_
 ·
  refine G.bL (d:=7) o (fun g7=>?_) (fun g7=>?_)
  ·
   refine G.wl j.W b1 b8 cX ?_;refine G.aG dX ?_;refine G.W ?_;exact ar _ (aI (fun b=>some (Value.bool b)) (by simp[g7])) (ai (ai (ai (ai (b_ (aI Value.bool (cT g7).symm))))))
  ·
   refine G.av 4 ?_;exact ar _ (aI (fun b=>some (Value.bool b)) (by simp[g7])) (ai (ai (ai (ai (b_ (aI Value.bool (cL g7).symm))))))
 refine G.nil (a0 ?_);refine a8 (fun B=>?_) (fun B=>?_)
 ·
  refine I.O (fun bB=>?_);refine G.aj ?_;refine bB ?_;refine I.ret (bw (E ?_));exact⟨by rw[iE,aM B],A⟩
 ·
  refine I.skip (bt (I.t2 (fun a2 a3=>I.O (fun a4=>?_))));refine G.a6 j.W b1 b3 cd ?_;refine aW uY (wE x.br w0 _ ao) ?_;rintro bi a5 ⟨rfl,bA⟩;obtain⟨n,j,A,_⟩:=cf bA n j A;refine G.v1 dX (G.nil (a4 ?_));refine a8 (fun C=>?_) (fun C=>?_)
  ·
   refine I.O (fun aJ=>?_);refine G.aj ?_;refine aJ ?_;refine I.ret (a3 (E ?_));exact⟨by rw[iE,aA B,aM C],A⟩
  ·
   refine I.skip (a2 (I.t2 (fun aK aL=>I.O (fun a9=>?_))));refine G.aV b1 bx ?_;refine G.v1 (Y.cast (v2:=bM x.cl) (ba ((j.W.drop 2).take 32) cZ bx (by rw[mE];exact bI _)) (c4 (mE _))) ?_;refine G.v1 (Y.build (v:=bM bJ) o o fy) ?_;refine G.v1 (Y.cast (v2:= .bool (decide (x.cl=bJ))) (Y.mA o Tryz.eqGuardType26 (fun w=>i_ 9998 Tryz.underlying26 Tryz.underlying5 dK fE cY cY w) o o) ((aI Value.bool (decide_eq_decide.2 ⟨fun e=>hr e,fun e=>aI Subtype.val e⟩)))) ?_;refine G.af ?_;refine G.join (d:=25) (v:= .bool (decide (x.cl=bJ∨x.bQ=bJ))) 5 (fun W=>?_) ?_
   ·
    refine G.bL (d:=20) o (fun L=>?_) (fun L=>?_)
    ·
     refine G.av 5 ?_;exact W _ (aI (fun b=>some (Value.bool b)) (by simp[L])) (ai (ai (ai (ai (ai (b_ (aI Value.bool (cT L).symm)))))))
    ·
     refine G.hl b1 bx ?_;refine G.aG (Y.cast (v2:=bM x.bQ) (ba ((j.W.drop 34).take 32) cZ bx (by rw[mD];exact bI _)) (c4 (mD _))) ?_;refine G.aG (Y.build (v:=bM bJ) o o fy) ?_;refine G.aG (Y.cast (v2:= .bool (decide (x.bQ=bJ))) (Y.mA o Tryz.eqGuardType26 (fun w=>i_ 9998 Tryz.underlying26 Tryz.underlying5 dK fE cY cY w) o o) ((aI Value.bool (decide_eq_decide.2 ⟨fun e=>hr e,fun e=>aI Subtype.val e⟩)))) ?_;refine G.eh ?_;exact W _ (aI (fun b=>some (Value.bool b)) (by simp[L])) (ai (ai (ai (ai (ai (b_ (aI Value.bool (cL L).symm)))))))
   refine G.af ?_;refine G.join (d:=30) (v:= .bool (decide ((x.cl=bJ∨x.bQ=bJ)∨x.dn<0))) 4 (fun X=>?_) ?_
   ·
    refine G.bL (d:=26) o (fun M=>?_) (fun M=>?_)
    ·
     refine G.av 4 ?_;exact X _ (aI (fun b=>some (Value.bool b)) (by simp[M])) (ai (ai (ai (ai (b_ (aI Value.bool (cT M).symm))))))
    ·
     refine G.gz j.W.mj b1 b8 cX ?_;refine G.aG bZ ?_;refine G.eh ?_;exact X _ (aI (fun b=>some (Value.bool b)) (by simp[M])) (ai (ai (ai (ai (b_ (aI Value.bool (cL M).symm))))))
   refine G.af ?_;refine G.join (d:=38) (v:= .bool (decide (((x.cl=bJ∨x.bQ=bJ)∨x.dn<0)∨x.dn>(x.bj.length:Int)))) 7 (fun ae=>?_) ?_
   ·
    refine G.bL (d:=31) o (fun O=>?_) (fun O=>?_)
    ·
     refine G.av 7 ?_;exact ae _ (aI (fun b=>some (Value.bool b)) (by simp[O])) (ai (ai (ai (ai (ai (ai (ai (b_ (aI Value.bool (cT O).symm)))))))))
    ·
     refine G.gz j.W.mj b1 b8 cX ?_;refine G.gz j.W.h3 b1 fR hp ?_;refine G.aG (bu n hW) ?_;refine G.aG fA ?_;refine G.eh ?_;exact ae _ (aI (fun b=>some (Value.bool b)) (by simp[O])) (ai (ai (ai (ai (ai (ai (ai (b_ (aI Value.bool (cL O).symm)))))))))
   refine G.af ?_;refine G.join (d:=43) (v:= .bool (decide ((((x.cl=bJ∨x.bQ=bJ)∨x.dn<0)∨x.dn>(x.bj.length:Int))∨x.md<0))) 4 (fun af=>?_) ?_
   ·
    refine G.bL (d:=39) o (fun P=>?_) (fun P=>?_)
    ·
     refine G.av 4 ?_;exact af _ (aI (fun b=>some (Value.bool b)) (by simp[P])) (ai (ai (ai (ai (b_ (aI Value.bool (cT P).symm))))))
    ·
     refine G.gz j.W.o2 b1 b8 cX ?_;refine G.aG bZ ?_;refine G.eh ?_;exact af _ (aI (fun b=>some (Value.bool b)) (by simp[P])) (ai (ai (ai (ai (b_ (aI Value.bool (cL P).symm))))))
   refine G.af ?_;refine G.join (d:=50) (v:= .bool (decide (((((x.cl=bJ∨x.bQ=bJ)∨x.dn<0)∨x.dn>(x.bj.length:Int))∨x.md<0)∨x.md>x.dn))) 6 (fun ag=>?_) ?_
   ·
    refine G.bL (d:=44) o (fun Q=>?_) (fun Q=>?_)
    ·
     refine G.av 6 ?_;exact ag _ (aI (fun b=>some (Value.bool b)) (by simp[Q])) (ai (ai (ai (ai (ai (ai (b_ (aI Value.bool (cT Q).symm))))))))
    ·
     refine G.gz j.W.o2 b1 b8 cX ?_;refine G.gz j.W.mj b1 b8 cX ?_;refine G.aG fA ?_;refine G.eh ?_;exact ag _ (aI (fun b=>some (Value.bool b)) (by simp[Q])) (ai (ai (ai (ai (ai (ai (b_ (aI Value.bool (cL Q).symm))))))))
   refine G.af ?_;refine G.join (d:=62) (v:= .bool (decide ((((((x.cl=bJ∨x.bQ=bJ)∨x.dn<0)∨x.dn>(x.bj.length:Int))∨x.md<0)∨x.md>x.dn)∨(x.st=true∧x.dn=(x.bj.length:Int))))) 11 (fun ak=>?_) ?_
   ·
    refine G.bL (d:=51) o (fun az=>?_) (fun az=>?_)
    ·
     refine G.av 3 ?_;refine il ?_;refine il ?_;refine il ?_;refine il ?_;refine il ?_;refine il ?_;refine G.av 2 ?_;exact ak _ (aI (fun b=>some (Value.bool b)) (by simp[az])) (ai (ai (ai (ai (ai (ai (ai (ai (ai (ai (ai (b_ (aI Value.bool (cT az).symm)))))))))))))
    ·
     refine G.gz j.W.sw b1 ee fc ?_;refine G.b4 ?_;refine G.join (d:=61) (v:= .bool (decide (x.st=true∧x.dn=(x.bj.length:Int)))) 7 (fun an=>?_) ?_
     ·
      refine G.split (d:=54) o (fun am=>?_) (fun am=>?_)
      ·
       refine G.gz j.W.mj b1 b8 cX ?_;refine G.gz j.W.h3 b1 fR hp ?_;refine G.aG (bu n hW) ?_;refine G.aG cC ?_;refine G.aG ga ?_;exact an _ (aI (fun b=>some (Value.bool b)) (by simp[am])) (ai (ai (ai (ai (ai (ai (ai (b_ (aI Value.bool am.symm)))))))))
      ·
       refine G.av 6 ?_;refine G.aG fT ?_;exact an _ (aI (fun b=>some (Value.bool b)) (by simp[am])) (ai (ai (ai (ai (ai (ai (ai (b_ (aI Value.bool am.symm)))))))))
     refine G.eh ?_;exact ak _ (aI (fun b=>some (Value.bool b)) (by simp[az])) (ai (ai (ai (ai (ai (b_ (aI Value.bool (cL az).symm)))))))
   refine G.nil (a9 ?_);refine a8 (fun F=>?_) (fun F=>?_)
   ·
    refine I.O (fun bC=>?_);refine G.aj ?_;refine bC ?_;refine I.ret (aL (E ?_));exact⟨by rw[iE,aA B,aA C,aM (Hf F)],A⟩
   ·
    refine I.skip (aK (I.t2 (fun bD aN=>I.O (fun aO=>?_))));refine G.aX j.W.h3 b1 fR hp ?_;refine G.v1 (bu n hW) ?_;refine G.v1 fA (G.nil (aO ?_));refine a8 (fun bz=>?_) (fun bz=>?_)
    ·
     refine I.O (fun aP=>?_);refine G.aj ?_;refine aP ?_;refine I.ret (aN (E ?_));exact⟨by rw[iE,aA B,aA C,aA (uO F),aM J],A⟩
    ·
     refine I.skip (bD (I.t2 (fun aQ ax=>I.O (fun aR=>?_))));refine G.aj ?_;refine aR (I.aC (fun _ aS ap=>?_))
     refine I.bb (fun(i:Nat)=>[(1,.pointer (some ⟨N.size,0,none⟩)),(3,.int .i64 (i:Int))])
      (fun(i:Nat) (H:Heap)=>(i≤x.bj.length)∧ja (x.bj.take i)=0∧al a5 H)
      (fun(i:Nat)=>x.bj.length-i) 0 ⟨o,o,trivial⟩ ?_ ?_
     ·
      exact⟨J,o,aa.refl _ _⟩
     intro i bP bE aC aU ac;obtain⟨bS,U,ay⟩:=bE;obtain⟨n,j,A,_⟩:=cf ay n j A;refine I.t2 (fun aV aX=>I.O (fun aZ=>?_));refine G.af ?_;refine G.aX j.W.h3 b1 fR hp ?_;refine G.v1 (bu n hW) ?_;refine G.v1 bZ (G.nil (aZ ?_));refine a8 (fun bF=>?_) (fun bF=>?_)
     ·
      have aG:i<x.bj.length:=by omega
      obtain⟨y,R⟩:∃q,q=x.bj[i]:=⟨_,o⟩;have bQ:=y.i.2;have V:=F9 aG U;rw[←R]at V;refine I.skip (aV (I.t2 (fun a6 aB=>I.aC (fun a_ _ aD=>I.t2 (fun bb bc=>I.O (fun bd=>?_))))));refine G.aX j.W.h3 b1 fR hp ?_;refine G.af ?_;refine G.cn (Y.cg n i o hW j8 o o) fun bH bg=>?_;refine G.aV mm b8 ?_;refine G.v1 (Y.cast (v2:= .int .i64 y.d) (bf (bg.W.drop 0) cX) (by rw[R])) ?_;refine G.v1 bZ ?_;refine G.af ?_;refine G.join (d:=89) (v:= .bool (decide (¬(1≤y.d∧y.d≤3)))) 8 (fun av=>?_) ?_
      ·
       refine G.bL (d:=81) o (fun a7=>?_) (fun a7=>?_)
       ·
        refine G.av 8 ?_;exact av _ (aI (fun b=>some (Value.bool b)) (by simp[a7])) (ai (ai (ai (ai (ai (ai (ai (ai (b_ (aI Value.bool (cT a7).symm))))))))))
       ·
        refine G.gz j.W.h3 b1 fR hp ?_;refine G.b4 ?_;refine G.e (g:=fun ad=> .pointer (some ad)) (Y.cg n i o hW j8 o o) bR o o (fun cR bj=>?_);refine G.hl mm b8 ?_;refine G.aG (Y.cast (v2:= .int .i64 y.d) (bf (bj.W.drop 0) cX) (by rw[R])) ?_;refine G.aG fA ?_;refine G.eh ?_;exact av _ (aI (fun b=>some (Value.bool b)) (by simp[a7])) (ai (ai (ai (ai (ai (ai (ai (ai (b_ (aI Value.bool (cL a7).symm))))))))))
      refine G.nil (bd ?_);refine a8 (fun K=>?_) (fun K=>?_)
      ·
       refine I.O (fun bk=>?_);refine G.aj ?_;refine bk ?_;refine I.ret (bc (aD (aB (ac (ap (ax (E ?_)))))));exact⟨by rw[iE,aA B,aA C,aA (uO F),aA J,V (by unfold jv;rw[aM K];decide)];unfold jv;rw[aM K],A⟩
      ·
       refine I.skip (bb (I.O (fun bl=>?_)));refine G.aX j.W.h3 b1 fR hp ?_;refine G.af ?_;refine G.cn (Y.cg n i o hW j8 o o) fun be bm=>?_;refine G.aV mm bx ?_;refine G.v1 (Y.cast (v2:=bM y.i) (ba ((bm.W.drop 1).take 32) cZ bx (by rw[nQ];exact bI _)) ((by rw[R];exact c4 (nQ _)))) ?_;refine G.v1 (Y.build (v:=bM bJ) o o fy) ?_;refine G.v1 (Y.cast (v2:= .bool (decide (y.i=bJ))) (Y.mA o Tryz.eqGuardType26 (fun w=>i_ 9998 Tryz.underlying26 Tryz.underlying5 dK fE cY cY w) o o) ((aI Value.bool (decide_eq_decide.2 ⟨fun e=>hr e,fun e=>aI Subtype.val e⟩)))) (G.nil (bl ?_));refine a8 (fun S=>?_) (fun S=>?_)
       ·
        refine I.O (fun bn=>?_);refine G.aj ?_;refine bn ?_;refine I.ret (aD (aB (ac (ap (ax (E ?_))))));exact⟨by rw[iE,aA B,aA C,aA (uO F),aA J,V (by unfold jv;rw[aA K,aM S];decide)];unfold jv;rw[aA K,aM S],A⟩
       ·
        refine I.skip (a_ (a6 (I.region ?_)));refine G.af ?_;refine G.v1 bN ?_;refine G.aj ?_;refine aT.sub (aU (i+1) _ ?_ ?_) ⟨o,(aF J),trivial⟩
        ·exact⟨J,(by rw[Al aG,aA (by rw[U];simp),←R];unfold jv;rw[aA K,aA S]),ay⟩
        ·first|omega|(simp only;omega)|(simp;omega)
     ·
      refine I.exit (aX (ac (aS ?_)));refine aQ (I.O (fun bo=>?_));refine G.aj ?_;refine bo ?_;refine I.ret (E ?_);exact⟨by rw[iE,aA B,aA C,aA (uO F),aA J];rw[eY J]at U;rw[U],A⟩
end AJ
namespace AK
open e2
theorem OT(a:hf)(w:World):(part 3 (en a).toArray 0).run Tryz.prog w= .ok (.int .i64 a.d) w:=by simp[part,cX,en]
theorem F4(a:hf)(w:World):(part 26 (en a).toArray 1).run Tryz.prog w= .ok (bM a.i) w:=by
 have e:List.take 32 (en a).tail=b9 a.i:=by rw[show(en a).tail=b9 a.i from o,eY (by rw[bI];exact dz _)]
 simp[part,cZ,bx,e,bM]
theorem OV:(Tryz.prog.fieldsOf 129).toList.map (fun f=>(f.name,f.type,f.offset))=[("Do",3,0),("Id",26,1)]:=by kernel_rfl
theorem JY(d0:Nat){fs:List Field}(j:fs.map (fun f=>(f.name,f.type,f.offset))=[("Do",3,0),("Id",26,1)])(a b:hf)(w:World):(Op.eqFields (d0+2) (en a).toArray (en b).toArray fs).run Tryz.prog w= .ok (decide (a.d=b.d∧a.i=b.i)) w:=by
 have q:=run_equalIn_int (P:=Tryz.prog) w (d0+1) 3 .i64 .i64 a.d b.d Tryz.underlying3;have aP:=i_ (P:=Tryz.prog) d0 Tryz.underlying26 Tryz.underlying5 dK fE a.i.2 b.i.2 w
 cases fs with
 |nil=>simp at j
 |cons f0 fs=>
 cases fs with
 |nil=>simp at j
 |cons f1 fs=>
 cases fs with
 |cons _ _=>simp at j
 |nil=>
  simp only[dk,lG,jC,hI,and_true]at j;obtain⟨⟨dN,t0,x⟩,bs,t1,bg⟩:=j;have A:f0.name≠ "_" :=by rw[dN];decide
  have cB:f1.name≠ "_" :=by rw[bs];decide
  unfold Op.eqFields;rw[aM A,t0,x];unfold Op.eqFields;rw[aM cB,t1,bg];unfold Op.eqFields;simp only[Sem.run_bind,OT,F4,Result.andThen_ok,q];by_cases d:a.d=b.d
  ·have ab:(a.d==b.d)=true:=by simpa using d
   rw[ab];simp only[tn,lF,if_false,Sem.run_bind,F4,Result.andThen_ok,w8,aP];by_cases n:a.i=b.i
   ·simp[d,n]
   ·have r:¬a.i.1=b.i.1:=fun e=>n (hr e)
    simp[d,n,r]
  ·have ab:(a.d==b.d)=false:=by simpa using d
   rw[ab];simp[d]
theorem OY:Tryz.prog.underlying 129=some (.struct (Tryz.prog.fieldsOf 129)):=by kernel_rfl
theorem OX:Tryz.prog.stoodInHeld 129=false:=by kernel_rfl
theorem F5(a b:hf):(a.d=b.d∧a.i=b.i)↔a=b:=by cases a;cases b;simp
instance instTTd:DecidableEq hf:=fun a b=>decidable_of_iff _ (F5 a b)
theorem J3(a b:hf)(w:World):(Op.equalIn 10000 129 (.agg (en a).toArray) (.agg (en b).toArray)).run Tryz.prog w= .ok (decide (a=b)) w:=by
 have h:=run_equalIn_struct w 9999 129 (en a).toArray (en b).toArray OY OX;have ab:=JY 9997 OV a b w;rw[decide_eq_decide.2 (F5 a b)]at ab;exact h.trans ab
end AK
namespace AL
open gV e2 hn rf jH iN AK
def ri(a b:dj):Prop:=a.k=b.k∧a.br=b.br∧a.cl=b.cl∧a.bQ=b.bQ∧a.dn=b.dn∧a.md=b.md∧a.st=b.st∧a.bj=b.bj
instance instSqS (a b:dj):Decidable (ri a b):=by unfold ri;infer_instance
theorem tz{α:Type}{a b:List α}{i:Nat}(h:a.take i=b.take i)(d:i<a.length)(ao:i<b.length)(he:a[i]=b[i]):a.take (i+1)=b.take (i+1):=by
 rw[eP d,eP ao,h,he]
theorem Ov{a b:dj}(h:((((((a.k≠b.k∨a.br≠b.br)∨a.cl≠b.cl)∨a.bQ≠b.bQ)∨a.dn≠b.dn)∨a.md≠b.md)∨a.st≠b.st)∨(a.bj.length:Int)≠b.bj.length):¬ri a b:=fun⟨d,ab,j,n,q,r,x,A⟩=>by
 rcases h with((((((h|h)|h)|h)|h)|h)|h)|h
 ·exact h d
 ·exact h ab
 ·exact h j
 ·exact h n
 ·exact h q
 ·exact h r
 ·exact h x
 ·exact h (by rw[A])
theorem Ow{a b:dj}(h:¬(((((((a.k≠b.k∨a.br≠b.br)∨a.cl≠b.cl)∨a.bQ≠b.bQ)∨a.dn≠b.dn)∨a.md≠b.md)∨a.st≠b.st)∨(a.bj.length:Int)≠b.bj.length))(A:a.bj=b.bj):ri a b:=by
 simp only[not_or,nj]at h;obtain⟨⟨⟨⟨⟨⟨⟨d,ab⟩,j⟩,n⟩,q⟩,r⟩,x⟩,B⟩:=h;exact⟨d,ab,j,n,q,r,x,A⟩
theorem FK{a b:dj}(h:¬(((((((a.k≠b.k∨a.br≠b.br)∨a.cl≠b.cl)∨a.bQ≠b.bQ)∨a.dn≠b.dn)∨a.md≠b.md)∨a.st≠b.st)∨(a.bj.length:Int)≠b.bj.length)):a.bj.length=b.bj.length:=by
 simp only[not_or,nj]at h;omega
set_option maxHeartbeats 1600000 in
theorem JL(a b:dj)(w0:World)(N:Heap)
 (n:b7 N en 33 a.cx.v a.bj)(ao:b7 N en 33 b.cx.v b.bj):
 aE Tryz.prog w0 45 #[hx a,hx b] N (fun r A=>r= .bool (decide (ri a b))∧al N A):=by
 refine aE.aP [hx a,hx b] Tryz.func45 ?_;intro bg Q;have x:al N N:=aa.refl _ _;have n:=n.ch;have ao:=ao.ch;have bn:=n.len;have bo:=ao.len;have aG:=a.cl.2;have bp:=b.cl.2;have bq:=a.bQ.2;have bt:=b.bQ.2;refine I.O (fun a_=>?_);refine G.aU Z.bv ?_;rintro v2 A ⟨rfl,j,ar,_⟩;obtain⟨n,ao,x,_⟩:=cf ar n ao x;have j:Var 29 A N.size (dC a):=j;refine G.aU Z.bv ?_;rintro v3 R ⟨rfl,cy,av,_⟩;obtain⟨n,ao,j,x,_⟩:=ed av n ao j x;have cy:Var 29 R A.size (dC b):=cy;refine G.aj ?_;refine a_ (I.t2 (fun ax ay=>I.O (fun aB=>?_)));refine G.a6 j.W b1 b8 cX ?_;refine G.a6 cy.W b1 b8 cX ?_;refine G.v1 dX ?_;refine G.af ?_;refine G.join (d:=17) (v:= .bool (decide (a.k≠b.k∨a.br≠b.br))) 6 (fun S=>?_) ?_
 ·
  refine G.bL (d:=11) o (fun B=>?_) (fun B=>?_)
  ·
   refine G.av 6 ?_;exact S _ (aI (fun b=>some (Value.bool b)) (by simp[B])) (ai (ai (ai (ai (ai (ai (b_ (aI Value.bool (cT B).symm))))))))
  ·
   refine G.wl j.W b1 b3 cd ?_;refine G.wl cy.W b1 b3 cd ?_;refine G.aG (Y.lO o o o) ?_;refine G.eh ?_;exact S _ (aI (fun b=>some (Value.bool b)) (by simp[B])) (ai (ai (ai (ai (ai (ai (b_ (aI Value.bool (cL B).symm))))))))
 refine G.af ?_;refine G.join (d:=24) (v:= .bool (decide ((a.k≠b.k∨a.br≠b.br)∨a.cl≠b.cl))) 6 (fun U=>?_) ?_
 ·
  refine G.bL (d:=18) o (fun C=>?_) (fun C=>?_)
  ·
   refine G.av 6 ?_;exact U _ (aI (fun b=>some (Value.bool b)) (by simp[C])) (ai (ai (ai (ai (ai (ai (b_ (aI Value.bool (cT C).symm))))))))
  ·
   refine G.hl b1 bx ?_;refine G.aG (Y.cast (v2:=bM a.cl) (ba ((j.W.drop 2).take 32) cZ bx (by rw[mE];exact bI _)) (c4 (mE _))) ?_;refine G.hl b1 bx ?_;refine G.aG (Y.cast (v2:=bM b.cl) (ba ((cy.W.drop 2).take 32) cZ bx (by rw[mE];exact bI _)) (c4 (mE _))) ?_;refine G.aG (Y.cast (v2:= .bool (decide (a.cl≠b.cl))) (Y.oE o Tryz.eqGuardType26 (fun w=>i_ 9998 Tryz.underlying26 Tryz.underlying5 dK fE cY cY w) o o) ((aI Value.bool (decide_eq_decide.2 ⟨fun h e=>h (aI Subtype.val e),fun h e=>h (hr e)⟩)))) ?_;refine G.eh ?_;exact U _ (aI (fun b=>some (Value.bool b)) (by simp[C])) (ai (ai (ai (ai (ai (ai (b_ (aI Value.bool (cL C).symm))))))))
 refine G.af ?_;refine G.join (d:=31) (v:= .bool (decide (((a.k≠b.k∨a.br≠b.br)∨a.cl≠b.cl)∨a.bQ≠b.bQ))) 6 (fun V=>?_) ?_
 ·
  refine G.bL (d:=25) o (fun ac=>?_) (fun ac=>?_)
  ·
   refine G.av 6 ?_;exact V _ (aI (fun b=>some (Value.bool b)) (by simp[ac])) (ai (ai (ai (ai (ai (ai (b_ (aI Value.bool (cT ac).symm))))))))
  ·
   refine G.hl b1 bx ?_;refine G.aG (Y.cast (v2:=bM a.bQ) (ba ((j.W.drop 34).take 32) cZ bx (by rw[mD];exact bI _)) (c4 (mD _))) ?_;refine G.hl b1 bx ?_;refine G.aG (Y.cast (v2:=bM b.bQ) (ba ((cy.W.drop 34).take 32) cZ bx (by rw[mD];exact bI _)) (c4 (mD _))) ?_;refine G.aG (Y.cast (v2:= .bool (decide (a.bQ≠b.bQ))) (Y.oE o Tryz.eqGuardType26 (fun w=>i_ 9998 Tryz.underlying26 Tryz.underlying5 dK fE cY cY w) o o) ((aI Value.bool (decide_eq_decide.2 ⟨fun h e=>h (aI Subtype.val e),fun h e=>h (hr e)⟩)))) ?_;refine G.eh ?_;exact V _ (aI (fun b=>some (Value.bool b)) (by simp[ac])) (ai (ai (ai (ai (ai (ai (b_ (aI Value.bool (cL ac).symm))))))))
 refine G.af ?_;refine G.join (d:=38) (v:= .bool (decide ((((a.k≠b.k∨a.br≠b.br)∨a.cl≠b.cl)∨a.bQ≠b.bQ)∨a.dn≠b.dn))) 6 (fun W=>?_) ?_
 ·
  refine G.bL (d:=32) o (fun E=>?_) (fun E=>?_)
  ·
   refine G.av 6 ?_;exact W _ (aI (fun b=>some (Value.bool b)) (by simp[E])) (ai (ai (ai (ai (ai (ai (b_ (aI Value.bool (cT E).symm))))))))
  ·
   refine G.gz j.W.mj b1 b8 cX ?_;refine G.gz cy.W.mj b1 b8 cX ?_;refine G.aG dX ?_;refine G.eh ?_;exact W _ (aI (fun b=>some (Value.bool b)) (by simp[E])) (ai (ai (ai (ai (ai (ai (b_ (aI Value.bool (cL E).symm))))))))
 refine G.af ?_;refine G.join (d:=45) (v:= .bool (decide (((((a.k≠b.k∨a.br≠b.br)∨a.cl≠b.cl)∨a.bQ≠b.bQ)∨a.dn≠b.dn)∨a.md≠b.md))) 6 (fun X=>?_) ?_
 ·
  refine G.bL (d:=39) o (fun F=>?_) (fun F=>?_)
  ·
   refine G.av 6 ?_;exact X _ (aI (fun b=>some (Value.bool b)) (by simp[F])) (ai (ai (ai (ai (ai (ai (b_ (aI Value.bool (cT F).symm))))))))
  ·
   refine G.gz j.W.o2 b1 b8 cX ?_;refine G.gz cy.W.o2 b1 b8 cX ?_;refine G.aG dX ?_;refine G.eh ?_;exact X _ (aI (fun b=>some (Value.bool b)) (by simp[F])) (ai (ai (ai (ai (ai (ai (b_ (aI Value.bool (cL F).symm))))))))
 refine G.af ?_;refine G.join (d:=52) (v:= .bool (decide ((((((a.k≠b.k∨a.br≠b.br)∨a.cl≠b.cl)∨a.bQ≠b.bQ)∨a.dn≠b.dn)∨a.md≠b.md)∨a.st≠b.st))) 6 (fun ae=>?_) ?_
 ·
  refine G.bL (d:=46) o (fun K=>?_) (fun K=>?_)
  ·
   refine G.av 6 ?_;exact ae _ (aI (fun b=>some (Value.bool b)) (by simp[K])) (ai (ai (ai (ai (ai (ai (b_ (aI Value.bool (cT K).symm))))))))
  ·
   refine G.gz j.W.sw b1 ee fc ?_;refine G.gz cy.W.sw b1 ee fc ?_;refine G.aG (Y.Hw o Tryz.underlying4 o o) ?_;refine G.eh ?_;exact ae _ (aI (fun b=>some (Value.bool b)) (by simp[K])) (ai (ai (ai (ai (ai (ai (b_ (aI Value.bool (cL K).symm))))))))
 refine G.af ?_;refine G.join (d:=61) (v:= .bool (decide (((((((a.k≠b.k∨a.br≠b.br)∨a.cl≠b.cl)∨a.bQ≠b.bQ)∨a.dn≠b.dn)∨a.md≠b.md)∨a.st≠b.st)∨(a.bj.length:Int)≠b.bj.length))) 8 (fun af=>?_) ?_
 ·
  refine G.bL (d:=53) o (fun L=>?_) (fun L=>?_)
  ·
   refine G.av 8 ?_;exact af _ (aI (fun b=>some (Value.bool b)) (by simp[L])) (ai (ai (ai (ai (ai (ai (ai (ai (b_ (aI Value.bool (cT L).symm))))))))))
  ·
   refine G.gz j.W.h3 b1 fR hp ?_;refine G.aG (bu n hW) ?_;refine G.gz cy.W.h3 b1 fR hp ?_;refine G.aG (bu ao hW) ?_;refine G.aG dX ?_;refine G.eh ?_;exact af _ (aI (fun b=>some (Value.bool b)) (by simp[L])) (ai (ai (ai (ai (ai (ai (ai (ai (b_ (aI Value.bool (cL L).symm))))))))))
 refine G.nil (aB ?_);refine a8 (fun M=>?_) (fun M=>?_)
 ·
  refine I.O (fun aC=>?_);refine G.aj ?_;refine aC ?_;refine I.ret (ay (Q ?_));exact⟨by rw[cL (Ov M)],x⟩
 ·
  refine I.skip (ax (I.t2 (fun aD aH=>I.O (fun aJ=>?_))));refine G.aj ?_;refine aJ (I.aC (fun _ aK aL=>?_))
  refine I.bb (fun(i:Nat)=>[(2,.pointer (some ⟨N.size,0,none⟩)),(3,.pointer (some ⟨A.size,0,none⟩)),(5,.int .i64 (i:Int))])
   (fun(i:Nat) (H:Heap)=>(i≤a.bj.length)∧a.bj.take i=b.bj.take i∧al R H)
   (fun(i:Nat)=>a.bj.length-i) 0 ⟨o,o,o,trivial⟩ ?_ ?_
  ·
   exact⟨J,o,aa.refl _ _⟩
  intro i bl aN bf aO ak;obtain⟨bm,an,ag⟩:=aN;obtain⟨n,ao,j,cy,x,_⟩:=dH ag n ao j cy x;refine I.t2 (fun aP aQ=>I.O (fun aS=>?_));refine G.af ?_;refine G.aX j.W.h3 b1 fR hp ?_;refine G.v1 (bu n hW) ?_;refine G.v1 bZ (G.nil (aS ?_));refine a8 (fun aR=>?_) (fun aR=>?_)
  ·
   have hlen:=FK M;have bc:i<a.bj.length:=by omega
   have bd:i<b.bj.length:=by omega
   obtain⟨y,O⟩:∃q,q=a.bj[i]:=⟨_,o⟩;obtain⟨z,P⟩:∃q,q=b.bj[i]:=⟨_,o⟩;refine I.skip (aP (I.t2 (fun az am=>I.aC (fun aU _ ap=>I.t1 (fun aV=>?_)))));refine jk ?_;refine G.aX j.W.h3 b1 fR hp ?_;refine G.af ?_;refine G.cn (Y.cg n i o hW j8 o o) fun bj aW=>?_;refine G.v1 (Y.cast (v2:= .agg (en y).toArray) (ba aW.W sL j8 (jB _)) (by rw[O])) ?_;refine G.aX cy.W.h3 b1 fR hp ?_;refine G.af ?_;refine G.cn (Y.cg ao i o hW j8 o o) fun bk aX=>?_;refine G.v1 (Y.cast (v2:= .agg (en z).toArray) (ba aX.W sL j8 (jB _)) (by rw[P])) ?_;refine G.v1 (Y.oE o Tryz.eqGuardType129 (fun w=>J3 y z w) o o) (G.nil (aV ?_));refine a8 (fun a7=>?_) (fun a7=>?_)
   ·
    refine I.O (fun aZ=>?_);refine G.aj ?_;refine aZ ?_;refine I.ret (ap (am (ak (aL (aH (Q ?_))))));exact⟨by rw[cL (fun h=>a7 (by rw[O,P];have bb:=h.2.2.2.2.2.2.2;simp only[bb]))],x⟩
   ·
    refine I.skip (aU (az (I.region ?_)));refine G.af ?_;refine G.v1 bN ?_;refine G.aj ?_;refine aT.sub (aO (i+1) _ ?_ ?_) ⟨o,o,(aF J),trivial⟩
    ·exact⟨J,tz an bc bd (by rw[←O,←P];exact nj.1 a7),ag⟩
    ·first|omega|(simp only;omega)|(simp;omega)
  ·
   refine I.exit (aQ (ak (aK ?_)));refine aD (I.O (fun a6=>?_));refine G.aj ?_;refine a6 ?_;refine I.ret (Q ?_);exact⟨by rw[cT (Ow M (by have hlen:=FK M;rwa[eY J,eY J]at an))],x⟩
end AL
namespace xl
open e2
theorem CS(d:Nat)(a b:List UInt8)(w:World):(Op.equalIn (d+1) 9 (aN a) (aN b)).run Tryz.prog w= .ok (decide (a=b)) w:=by
 have h:=run_equalIn_string (P:=Tryz.prog) w d 9 (ByteArray.mk a.toArray) (ByteArray.mk b.toArray) Tryz.underlying9;have ab:(a==b)=decide (a=b):=by by_cases h:a=b<;>simp[h]
 exact h.trans (by simp[ByteArray.toList_eq,ab])
theorem NB(a:dq)(w:World):(part 9 (eX a).toArray 0).run Tryz.prog w= .ok (aN a.n) w:=by simp[part,cd,eX]
theorem Fc(a:dq)(w:World):(part 26 (eX a).toArray 1).run Tryz.prog w= .ok (bM a.i) w:=by
 have e:List.take 32 (eX a).tail=b9 a.i:=by rw[show(eX a).tail=b9 a.i from o,eY (by rw[bI];exact dz _)]
 simp[part,cZ,bx,e,bM]
theorem NC:(Tryz.prog.fieldsOf 71).toList.map (fun f=>(f.name,f.type,f.offset))=[("Name",9,0),("Id",26,1)]:=by kernel_rfl
theorem J1(d0:Nat){fs:List Field}(j:fs.map (fun f=>(f.name,f.type,f.offset))=[("Name",9,0),("Id",26,1)])(a b:dq)(w:World):(Op.eqFields (d0+2) (eX a).toArray (eX b).toArray fs).run Tryz.prog w= .ok (decide (a.n=b.n∧a.i=b.i)) w:=by
 have q:=CS (d0+1) a.n b.n w;have aP:=i_ (P:=Tryz.prog) d0 Tryz.underlying26 Tryz.underlying5 dK fE a.i.2 b.i.2 w
 cases fs with
 |nil=>simp at j
 |cons f0 fs=>
 cases fs with
 |nil=>simp at j
 |cons f1 fs=>
 cases fs with
 |cons _ _=>simp at j
 |nil=>
  simp only[dk,lG,jC,hI,and_true]at j;obtain⟨⟨dN,t0,x⟩,bs,t1,bg⟩:=j;have A:f0.name≠ "_" :=by rw[dN];decide
  have cB:f1.name≠ "_" :=by rw[bs];decide
  unfold Op.eqFields;rw[aM A,t0,x];unfold Op.eqFields;rw[aM cB,t1,bg];unfold Op.eqFields;simp only[Sem.run_bind,NB,Fc,Result.andThen_ok,q];by_cases d:a.n=b.n
  ·rw[cT d]
   simp only[tn,lF,if_false,Sem.run_bind,Fc,Result.andThen_ok,w8,aP];by_cases n:a.i=b.i
   ·simp[d,n]
   ·have r:¬a.i.1=b.i.1:=fun e=>n (hr e)
    simp[d,n,r]
  ·rw[cL d]
   simp[d]
theorem NF:Tryz.prog.underlying 71=some (.struct (Tryz.prog.fieldsOf 71)):=by kernel_rfl
theorem ND:Tryz.prog.stoodInHeld 71=false:=by kernel_rfl
theorem Fe(a b:dq):(a.n=b.n∧a.i=b.i)↔a=b:=by cases a;cases b;simp
instance instTRf:DecidableEq dq:=fun a b=>decidable_of_iff _ (Fe a b)
theorem J2(a b:dq)(w:World):(Op.equalIn 10000 71 (.agg (eX a).toArray) (.agg (eX b).toArray)).run Tryz.prog w= .ok (decide (a=b)) w:=by
 have h:=run_equalIn_struct w 9999 71 (eX a).toArray (eX b).toArray NF ND;have ab:=J1 9997 NC a b w;rw[decide_eq_decide.2 (Fe a b)]at ab;exact h.trans ab
end xl
namespace AM
open e2 xl
theorem Lg(a:dw)(w:World):(part 26 (ff a).toArray 0).run Tryz.prog w= .ok (bM a.T) w:=by
 have e:=J4 a;rw[nh]at e;simp[part,cZ,bx,e,bM]
theorem DZ(a:dw)(w:World):(part 26 (ff a).toArray 32).run Tryz.prog w= .ok (bM a.w) w:=by
 have e:=J5 a;simp[part,cZ,bx,e,bM]
theorem y_(a:dw)(w:World):(part 9 (ff a).toArray 64).run Tryz.prog w= .ok (aN a.y) w:=by
 have e:=CY a
 have d:(ff a)[64]?=some (aN a.y):=by
  have:=aI List.head? e;rw[List.head?_drop]at this;exact this
 simp[part,cd,d]
theorem Lj:(Tryz.prog.fieldsOf 64).toList.map (fun f=>(f.name,f.type,f.offset))=[("Old",26,0),("New",26,32),("Why",9,64)]:=by kernel_rfl
theorem JZ(d0:Nat){fs:List Field}(j:fs.map (fun f=>(f.name,f.type,f.offset))=[("Old",26,0),("New",26,32),("Why",9,64)])(a b:dw)(w:World):(Op.eqFields (d0+2) (ff a).toArray (ff b).toArray fs).run Tryz.prog w= .ok (decide (a.T=b.T∧a.w=b.w∧a.y=b.y)) w:=by
 have r:=i_ (P:=Tryz.prog) d0 Tryz.underlying26 Tryz.underlying5 dK fE a.T.2 b.T.2 w;have aP:=i_ (P:=Tryz.prog) d0 Tryz.underlying26 Tryz.underlying5 dK fE a.w.2 b.w.2 w;have x:=CS (d0+1) a.y b.y w
 cases fs with
 |nil=>simp at j
 |cons f0 fs=>
 cases fs with
 |nil=>simp at j
 |cons f1 fs=>
 cases fs with
 |nil=>simp at j
 |cons f2 fs=>
 cases fs with
 |cons _ _=>simp at j
 |nil=>
  simp only[dk,lG,jC,hI,and_true]at j;obtain⟨⟨dN,t0,E⟩,⟨bs,t1,bg⟩,C,t2,F⟩:=j;have G:f0.name≠ "_" :=by rw[dN];decide
  have cB:f1.name≠ "_" :=by rw[bs];decide
  have H:f2.name≠ "_" :=by rw[C];decide
  unfold Op.eqFields;rw[aM G,t0,E];unfold Op.eqFields;rw[aM cB,t1,bg];unfold Op.eqFields;rw[aM H,t2,F];unfold Op.eqFields;simp only[Sem.run_bind,Lg,DZ,y_,Result.andThen_ok,w8,r];by_cases d:a.T=b.T
  ·have A:a.T.1=b.T.1:=aI Subtype.val d
   rw[cT A];simp only[tn,lF,if_false,Sem.run_bind,DZ,y_,Result.andThen_ok,w8,aP];by_cases n:a.w=b.w
   ·have B:a.w.1=b.w.1:=aI Subtype.val n
    rw[cT B];simp only[tn,lF,if_false,Sem.run_bind,y_,Result.andThen_ok,x];by_cases ab:a.y=b.y
    ·simp[d,n,ab]
    ·simp[d,n,ab]
   ·have q:¬a.w.1=b.w.1:=fun e=>n (hr e)
    rw[cL q];simp[d,n]
  ·have q:¬a.T.1=b.T.1:=fun e=>d (hr e)
   rw[cL q];simp[d]
theorem Lm:Tryz.prog.underlying 64=some (.struct (Tryz.prog.fieldsOf 64)):=by kernel_rfl
theorem Ll:Tryz.prog.stoodInHeld 64=false:=by kernel_rfl
theorem D0(a b:dw):(a.T=b.T∧a.w=b.w∧a.y=b.y)↔a=b:=by cases a;cases b;simp
instance instTLn:DecidableEq dw:=fun a b=>decidable_of_iff _ (D0 a b)
theorem J0(a b:dw)(w:World):(Op.equalIn 10000 64 (.agg (ff a).toArray) (.agg (ff b).toArray)).run Tryz.prog w= .ok (decide (a=b)) w:=by
 have h:=run_equalIn_struct w 9999 64 (ff a).toArray (ff b).toArray Lm Ll;have ab:=JZ 9997 Lj a b w;rw[decide_eq_decide.2 (D0 a b)]at ab;exact h.trans ab
end AM
namespace ux
open gV e2 hn iN AL xl AM
def sJ(a b:dR):Prop:=a.ah=b.ah∧ri a.q b.q∧a.bm=b.bm∧c7 a.cj=c7 b.cj∧da a.el=da b.el
noncomputable instance instStS (a b:dR):Decidable (sJ a b):=Classical.propDecidable _
theorem OH{a b:dR}(h:(((a.ah≠b.ah∨(a.bm.length:Int)≠b.bm.length)∨(a.cj.length:Int)≠b.cj.length)∨(a.el.length:Int)≠b.el.length)):¬sJ a b:=fun⟨d,_,j,n,q⟩=>by
 have r:=aI List.length n;have x:=aI List.length q;simp only[c7,da,dg]at r x;rcases h with((h|h)|h)|h
 ·exact h d
 ·exact h (by rw[j])
 ·omega
 ·omega
theorem OI{a b:dR}(h:¬(((a.ah≠b.ah∨(a.bm.length:Int)≠b.bm.length)∨(a.cj.length:Int)≠b.cj.length)∨(a.el.length:Int)≠b.el.length)):a.ah=b.ah∧a.bm.length=b.bm.length∧a.cj.length=b.cj.length∧a.el.length=b.el.length:=by
 simp only[not_or,nj]at h;exact⟨h.1.1.1,by omega,by omega,by omega⟩
theorem DX{a b:List hd}(h:c7 a=c7 b){i:Nat}(j:i<a.length)(n:i<b.length):a[i].n=b[i].n∧a[i].l=b[i].l:=by
 have d:(c7 a)[i]?=(c7 b)[i]?:=by rw[h]
 simp only[c7,List.getElem?_map,List.getElem?_eq_getElem j,List.getElem?_eq_getElem n,qA,kh,hI]at d;exact d
theorem JN{a b:List bU}(h:da a=da b){i:Nat}(j:i<a.length)(n:i<b.length):a[i].k=b[i].k∧a[i].d=b[i].d:=by
 have d:(da a)[i]?=(da b)[i]?:=by rw[h]
 simp only[da,List.getElem?_map,List.getElem?_eq_getElem j,List.getElem?_eq_getElem n,qA,kh,hI]at d;exact⟨hr d.1,d.2⟩
set_option maxHeartbeats 3200000 in
theorem yf(a b:dR)(w0:World)(N:Heap)
 (hV:b7 N eX 33 a.fI.v a.bm)(fu:b7 N gN 2 a.c9.v a.cj)(E:∀y∈a.cj,b7 N ff 65 y.v.v y.l)(V:b7 N en 33 a.q.cx.v a.q.bj)(x:b7 N cb 33 a.cG.v a.el)(F:∀y∈a.el,b7 N bd 1 y.v.v y.d)(b0:b7 N eX 33 b.fI.v b.bm)(A:b7 N gN 2 b.c9.v b.cj)(cu:∀y∈b.cj,b7 N ff 65 y.v.v y.l)(W:b7 N en 33 b.q.cx.v b.q.bj)(C:b7 N cb 33 b.cG.v b.el)(bo:∀y∈b.el,b7 N bd 1 y.v.v y.d):
 aE Tryz.prog w0 22 #[fZ a,fZ b] N (fun r M=>r= .bool (decide (sJ a b))∧al N M):=by
 refine aE.aP [fZ a,fZ b] Tryz.func22 ?_;intro dU S;have n:al N N:=aa.refl _ _;have hV:=hV.ch;have fu:=fu.ch;have E:=fun y U=>(E y U).ch;have V:=V.ch;have x:=x.ch;have F:=fun y U=>(F y U).ch;have b0:=b0.ch;have A:=A.ch;have cu:=fun y U=>(cu y U).ch;have W:=W.ch;have C:=C.ch;have bo:=fun y U=>(bo y U).ch;have eB:=hV.len;have eD:=fu.len;have eE:=x.len;have eG:=b0.len;have eH:=A.len;have eI:=C.len;refine I.O (fun c0=>?_);refine G.aU Z.bv ?_;rintro v2 M ⟨rfl,j,bl,_⟩;obtain⟨hV,fu,E,V,x,F,b0,A,_⟩:=fP bl hV fu E V x F b0 A;obtain⟨cu,W,C,bo,n,_⟩:=dH bl cu W C bo n;have j:Var 47 M N.size (cc a):=j;refine G.aU Z.bv ?_;rintro v3 bH ⟨rfl,cy,bm,_⟩;obtain⟨hV,fu,E,V,x,F,b0,A,_⟩:=fP bm hV fu E V x F b0 A;obtain⟨cu,W,C,bo,j,n,_⟩:=fY bm cu W C bo j n;have cy:Var 47 bH M.size (cc b):=cy;refine G.aj ?_;refine c0 (I.t2 (fun cv bn=>I.O (fun bp=>?_)));refine G.a6 j.W c8 b3 cd ?_;refine G.a6 cy.W c8 b3 cd ?_;refine G.v1 (Y.lO o o o) ?_;refine G.af ?_;refine G.join (d:=22) (v:= .bool (decide (a.ah≠b.ah∨(a.bm.length:Int)≠b.bm.length))) 8 (fun aW=>?_) ?_
 ·
  refine G.bL (d:=14) o (fun ag=>?_) (fun ag=>?_)
  ·
   refine G.av 8 ?_;exact aW _ (aI (fun b=>some (Value.bool b)) (by simp[ag])) (ai (ai (ai (ai (ai (ai (ai (ai (b_ (aI Value.bool (cT ag).symm))))))))))
  ·
   refine G.wl j.W c8 jE lx ?_;refine G.aG (bu hV jQ) ?_;refine G.wl cy.W c8 jE lx ?_;refine G.aG (bu b0 jQ) ?_;refine G.aG dX ?_;refine G.eh ?_;exact aW _ (aI (fun b=>some (Value.bool b)) (by simp[ag])) (ai (ai (ai (ai (ai (ai (ai (ai (b_ (aI Value.bool (cL ag).symm))))))))))
 refine G.af ?_;refine G.join (d:=31) (v:= .bool (decide ((a.ah≠b.ah∨(a.bm.length:Int)≠b.bm.length)∨(a.cj.length:Int)≠b.cj.length))) 8 (fun aZ=>?_) ?_
 ·
  refine G.bL (d:=23) o (fun ak=>?_) (fun ak=>?_)
  ·
   refine G.av 8 ?_;exact aZ _ (aI (fun b=>some (Value.bool b)) (by simp[ak])) (ai (ai (ai (ai (ai (ai (ai (ai (b_ (aI Value.bool (cT ak).symm))))))))))
  ·
   refine G.wl j.W c8 h2 jU ?_;refine G.aG (bu fu ij) ?_;refine G.wl cy.W c8 h2 jU ?_;refine G.aG (bu A ij) ?_;refine G.aG dX ?_;refine G.eh ?_;exact aZ _ (aI (fun b=>some (Value.bool b)) (by simp[ak])) (ai (ai (ai (ai (ai (ai (ai (ai (b_ (aI Value.bool (cL ak).symm))))))))))
 refine G.af ?_;refine G.join (d:=40) (v:= .bool (decide (((a.ah≠b.ah∨(a.bm.length:Int)≠b.bm.length)∨(a.cj.length:Int)≠b.cj.length)∨(a.el.length:Int)≠b.el.length))) 8 (fun a6=>?_) ?_
 ·
  refine G.bL (d:=32) o (fun an=>?_) (fun an=>?_)
  ·
   refine G.av 8 ?_;exact a6 _ (aI (fun b=>some (Value.bool b)) (by simp[an])) (ai (ai (ai (ai (ai (ai (ai (ai (b_ (aI Value.bool (cT an).symm))))))))))
  ·
   refine G.gz j.W.lk c8 eN fD ?_;refine G.aG (bu x dy) ?_;refine G.gz cy.W.lk c8 eN fD ?_;refine G.aG (bu C dy) ?_;refine G.aG dX ?_;refine G.eh ?_;exact a6 _ (aI (fun b=>some (Value.bool b)) (by simp[an])) (ai (ai (ai (ai (ai (ai (ai (ai (b_ (aI Value.bool (cL an).symm))))))))))
 refine G.af ?_;refine G.bL (d:=41) o (fun aH=>?_) (fun aH=>?_)
 ·
  refine G.av 7 ?_;refine G.nil (bp ?_);refine I.kc o ?_;refine I.O (fun cw=>?_);refine G.aj ?_;refine cw ?_;refine I.ret (bn (S ?_));exact⟨by rw[cL (OH aH)],n⟩
 ·
  obtain⟨s1,s2,c2,ey⟩:=OI aH;refine G.hl c8 dP ?_;refine G.aG (Y.cast (v2:=hx a.q) (ba ((j.W.drop 3).take 70) kF dP (by rw[rK];exact eC _)) (c4 (rK a))) ?_;refine G.hl c8 dP ?_;refine G.aG (Y.cast (v2:=hx b.q) (ba ((cy.W.drop 3).take 70) kF dP (by rw[rK];exact eC _)) (c4 (rK b))) ?_;refine G.call o IG o bR o o (JL a.q b.q w0 _ V.any W.any) ?_;rintro ej cx ⟨rfl,az⟩;obtain⟨hV,fu,E,x,F,b0,A,cu,_⟩:=fP az hV fu E x F b0 A cu;obtain⟨C,bo,j,cy,n,_⟩:=dH az C bo j cy n;refine G.aG (Y.kp o o) ?_;refine G.eh ?_;refine G.nil (bp ?_);refine a8 (fun aJ=>?_) (fun aJ=>?_)
  ·
   refine I.O (fun cz=>?_);refine G.aj ?_;refine cz ?_;refine I.ret (bn (S ?_));exact⟨by rw[cL (fun h=>aJ h.2.1)],n⟩
  ·
   refine I.skip (cv (I.t2 (fun cA cB=>I.O (fun cC=>?_))));refine G.aj ?_;refine cC (I.aC (fun _ cF cG=>?_))
   refine I.bb (fun(i:Nat)=>[(2,.pointer (some ⟨N.size,0,none⟩)),(3,.pointer (some ⟨M.size,0,none⟩)),(5,.int .i64 (i:Int))])
    (fun(i:Nat) (H:Heap)=>(i≤a.bm.length)∧a.bm.take i=b.bm.take i∧al cx H)
    (fun(i:Nat)=>a.bm.length-i) 0 ⟨o,o,o,trivial⟩ ?_ ?_
   ·
    exact⟨J,o,aa.refl _ _⟩
   intro i cH c3 dT dC bq;obtain⟨er,bD,aL⟩:=c3;obtain⟨hV,fu,E,x,F,b0,A,cu,_⟩:=fP aL hV fu E x F b0 A cu;obtain⟨C,bo,j,cy,n,_⟩:=dH aL C bo j cy n;refine I.t2 (fun bV bX=>I.O (fun bY=>?_));refine G.af ?_;refine G.a6 j.W c8 jE lx ?_;refine G.v1 (bu hV jQ) ?_;refine G.v1 bZ (G.nil (bY ?_));refine a8 (fun dD=>?_) (fun dD=>?_)
   ·
    have bw:i<a.bm.length:=by omega
    have bA:i<b.bm.length:=by omega
    obtain⟨y,ay⟩:∃q,q=a.bm[i]:=⟨_,o⟩;obtain⟨z,aB⟩:∃q,q=b.bm[i]:=⟨_,o⟩;have ez:y∈a.bm:=by rw[ay];exact cU bw
    have eA:z∈b.bm:=by rw[aB];exact cU bA
    refine I.skip (bV (I.t2 (fun b1 b2=>I.aC (fun b4 _ b5=>I.t1 (fun b6=>?_)))));refine jk ?_;refine G.a6 j.W c8 jE lx ?_;refine G.af ?_;refine G.cn (Y.cg hV i o jQ lh o o) fun ef b8=>?_;refine G.v1 (Y.cast (v2:= .agg (eX y).toArray) (ba b8.W uI lh (kJ _)) (by rw[ay])) ?_;refine G.a6 cy.W c8 jE lx ?_;refine G.af ?_;refine G.cn (Y.cg b0 i o jQ lh o o) fun eg b9=>?_;refine G.v1 (Y.cast (v2:= .agg (eX z).toArray) (ba b9.W uI lh (kJ _)) (by rw[aB])) ?_;refine G.v1 (Y.oE o Tryz.eqGuardType71 (fun w=>J2 y z w) o o) (G.nil (b6 ?_));refine a8 (fun aK=>?_) (fun aK=>?_)
    ·
     refine I.O (fun ca=>?_);refine G.aj ?_;refine ca ?_;refine I.ret (b5 (b2 (bq (cG (cB (S ?_))))));exact⟨by rw[cL (fun h=>aK (by rw[ay,aB];have L:=h.2.2.1;simp only[L]))],n⟩
    ·
     refine I.skip (b4 (b1 (I.region ?_)));refine G.af ?_;refine G.v1 bN ?_;refine G.aj ?_;refine aT.sub (dC (i+1) _ ?_ ?_) ⟨o,o,(aF J),trivial⟩
     ·exact⟨J,tz bD bw bA (by rw[←ay,←aB];exact nj.1 aK),aL⟩
     ·first|omega|(simp only;omega)|(simp;omega)
   ·
    have dS:a.bm=b.bm:=by rwa[eY J,eY J]at bD
    refine I.exit (bX (bq (cF ?_)));refine cA (I.t2 (fun cg am=>I.O (fun ch=>?_)));refine G.aj ?_;refine ch (I.aC (fun _ ck bg=>?_))
    refine I.bb (fun(i2:Nat)=>[(2,.pointer (some ⟨N.size,0,none⟩)),(3,.pointer (some ⟨M.size,0,none⟩)),(6,.int .i64 (i2:Int))])
     (fun(i2:Nat) (H:Heap)=>(i2≤a.cj.length)∧(c7 a.cj).take i2=(c7 b.cj).take i2∧al cH H)
     (fun(i2:Nat)=>a.cj.length-i2) 0 ⟨o,o,o,trivial⟩ ?_ ?_
    ·
     exact⟨J,o,aa.refl _ _⟩
    intro i2 bt ce co cl aO;obtain⟨et,bE,X⟩:=ce;obtain⟨fu,E,x,F,A,cu,C,bo,_⟩:=fP X fu E x F A cu C bo;obtain⟨j,cy,n,_⟩:=cf X j cy n;refine I.t2 (fun cm a0=>I.O (fun bB=>?_));refine G.af ?_;refine G.a6 j.W c8 h2 jU ?_;refine G.v1 (bu fu ij) ?_;refine G.v1 bZ (G.nil (bB ?_));refine a8 (fun dE=>?_) (fun dE=>?_)
    ·
     have aS:i2<a.cj.length:=by omega
     have aU:i2<b.cj.length:=by omega
     obtain⟨B,O⟩:∃q,q=a.cj[i2]:=⟨_,o⟩;obtain⟨K,R⟩:∃q,q=b.cj[i2]:=⟨_,o⟩;have aD:B∈a.cj:=by rw[O];exact cU aS
     have aV:K∈b.cj:=by rw[R];exact cU aU
     have aG:=(E B aD).len;have eJ:=(cu K aV).len;refine I.skip (cm (I.t2 (fun a2 ap=>I.aC (fun a3 _ bj=>I.t2 (fun a4 a5=>I.t1 (fun bJ=>?_))))));refine jk ?_;refine G.a6 j.W c8 h2 jU ?_;refine G.af ?_;refine G.cn (Y.cg fu i2 o ij iD o o) fun eh bL=>?_;refine G.aV iI b3 ?_;refine G.v1 (Y.cast (v2:=aN B.n) (bf (bL.W.drop 0) cd) (by rw[O])) ?_;refine G.a6 cy.W c8 h2 jU ?_;refine G.af ?_;refine G.cn (Y.cg A i2 o ij iD o o) fun eF bO=>?_;refine G.aV iI b3 ?_;refine G.v1 (Y.cast (v2:=aN K.n) (bf (bO.W.drop 0) cd) (by rw[R])) ?_;refine G.v1 (Y.lO o o o) ?_;refine G.af ?_;refine G.join (d:=103) (v:= .bool (decide (B.n≠K.n∨(B.l.length:Int)≠K.l.length))) 16 (fun a_=>?_) ?_
     ·
      refine G.bL (d:=87) o (fun ar=>?_) (fun ar=>?_)
      ·
       refine G.av 16 ?_;exact a_ _ (aI (fun b=>some (Value.bool b)) (by simp[ar])) (ai (ai (ai (ai (ai (ai (ai (ai (ai (ai (ai (ai (ai (ai (ai (ai (b_ (aI Value.bool (cT ar).symm))))))))))))))))))
      ·
       refine G.wl j.W c8 h2 jU ?_;refine G.b4 ?_;refine G.e (g:=fun ad=> .pointer (some ad)) (Y.cg fu i2 o ij iD o o) bR o o (fun ci a9=>?_);refine G.hl iI ju ?_;refine G.aG (Y.cast (v2:=B.v.v) (bf (a9.W.drop 1) k1) (by rw[O])) ?_;refine G.aG (bu (E B aD) lQ) ?_;refine G.wl cy.W c8 h2 jU ?_;refine G.b4 ?_;refine G.e (g:=fun ad=> .pointer (some ad)) (Y.cg A i2 o ij iD o o) bR o o (fun ei cn=>?_);refine G.hl iI ju ?_;refine G.aG (Y.cast (v2:=K.v.v) (bf (cn.W.drop 1) k1) (by rw[R])) ?_;refine G.aG (bu (cu K aV) lQ) ?_;refine G.aG dX ?_;refine G.eh ?_;exact a_ _ (aI (fun b=>some (Value.bool b)) (by simp[ar])) (ai (ai (ai (ai (ai (ai (ai (ai (ai (ai (ai (ai (ai (ai (ai (ai (b_ (aI Value.bool (cL ar).symm))))))))))))))))))
     refine G.nil (bJ ?_);refine a8 (fun ae=>?_) (fun ae=>?_)
     ·
      refine I.O (fun c5=>?_);refine G.aj ?_;refine c5 ?_;refine I.ret (a5 (bj (ap (aO (bg (am (S ?_)))))));exact⟨by rw[cL (fun h=>by have L:=DX h.2.2.2.1 aS aU;rw[←O,←R]at L;rcases ae with q|q;exact q L.1;exact q (by rw[L.2]))],n⟩
     ·
      have dQ:B.n=K.n:=by simp only[not_or,nj]at ae;exact ae.1
      have ew:B.l.length=K.l.length:=by simp only[not_or,nj]at ae;omega
      refine I.skip (a4 (I.O (fun c6=>?_)));refine G.aj ?_;refine c6 (I.aC (fun _ c9 cR=>?_))
      refine I.bb (fun(k:Nat)=>[(2,.pointer (some ⟨N.size,0,none⟩)),(3,.pointer (some ⟨M.size,0,none⟩)),(6,.int .i64 (i2:Int)),(7,.int .i64 (k:Int))])
       (fun(k:Nat) (H:Heap)=>(k≤B.l.length)∧B.l.take k=K.l.take k∧al bt H)
       (fun(k:Nat)=>B.l.length-k) 0 ⟨o,o,o,o,trivial⟩ ?_ ?_
      ·
       exact⟨J,o,aa.refl _ _⟩
      intro k ek dF eo be bk;obtain⟨ev,bF,a7⟩:=dF;obtain⟨fu,E,A,cu,j,cy,n,X,_⟩:=fP a7 fu E A cu j cy n X;refine I.t2 (fun cD dc=>I.O (fun de=>?_));refine G.af ?_;refine G.a6 j.W c8 h2 jU ?_;refine G.af ?_;refine G.cn (Y.cg fu i2 o ij iD o o) fun dV cp=>?_;refine G.aV iI ju ?_;refine G.v1 (Y.cast (v2:=B.v.v) (bf (cp.W.drop 1) k1) (by rw[O])) ?_;refine G.v1 (bu (E B aD) lQ) ?_;refine G.v1 bZ (G.nil (de ?_));refine a8 (fun bi=>?_) (fun bi=>?_)
      ·
       have df:k<B.l.length:=by omega
       have aC:k<K.l.length:=by omega
       obtain⟨u,aQ⟩:∃q,q=B.l[k]:=⟨_,o⟩;obtain⟨v,aR⟩:∃q,q=K.l[k]:=⟨_,o⟩;refine I.skip (cD (I.t2 (fun dh di=>I.aC (fun dj _ dk=>I.t1 (fun dm=>?_)))));refine jk ?_;refine G.a6 j.W c8 h2 jU ?_;refine G.af ?_;refine G.cn (Y.cg fu i2 o ij iD o o) fun dW cq=>?_;refine G.aV iI ju ?_;refine G.v1 (Y.cast (v2:=B.v.v) (bf (cq.W.drop 1) k1) (by rw[O])) ?_;refine G.af ?_;refine G.cn (Y.cg (E B aD) k o lQ pX o o) fun dY cr=>?_;refine G.v1 (Y.cast (v2:= .agg (ff u).toArray) (ba cr.W A6 pX (px _)) (by rw[aQ])) ?_;refine G.a6 cy.W c8 h2 jU ?_;refine G.af ?_;refine G.cn (Y.cg A i2 o ij iD o o) fun dZ ct=>?_;refine G.aV iI ju ?_;refine G.v1 (Y.cast (v2:=K.v.v) (bf (ct.W.drop 1) k1) (by rw[R])) ?_;refine G.af ?_;refine G.cn (Y.cg (cu K aV) k o lQ pX o o) fun d_ bP=>?_;refine G.v1 (Y.cast (v2:= .agg (ff v).toArray) (ba bP.W A6 pX (px _)) (by rw[aR])) ?_;refine G.v1 (Y.oE o Tryz.eqGuardType64 (fun w=>J0 u v w) o o) (G.nil (dm ?_));refine a8 (fun aP=>?_) (fun aP=>?_)
       ·
        refine I.O (fun dp=>?_);refine G.aj ?_;refine dp ?_;refine I.ret (dk (di (bk (cR (bj (ap (aO (bg (am (S ?_))))))))));exact⟨by rw[cL (fun h=>by have L:=DX h.2.2.2.1 aS aU;rw[←O,←R]at L;exact aP (by rw[aQ,aR];simp only[L.2]))],n⟩
       ·
        refine I.skip (dj (dh (I.region ?_)));refine G.af ?_;refine G.v1 bN ?_;refine G.aj ?_;refine aT.sub (be (k+1) _ ?_ ?_) ⟨o,o,(aF J),(aF J),trivial⟩
        ·exact⟨J,tz bF df aC (by rw[←aQ,←aR];exact nj.1 aP),a7⟩
        ·first|omega|(simp only;omega)|(simp;omega)
      ·
       have dL:B.l=K.l:=by rwa[eY J,eY J]at bF
       refine I.exit (dc (bk (c9 ?_)));refine a3 (a2 (I.region ?_));refine G.af ?_;refine G.v1 bN ?_;refine G.aj ?_;refine aT.sub (cl (i2+1) _ ?_ ?_) ⟨o,o,(aF J),trivial⟩
       ·exact⟨J,tz bE (by simp only[c7,dg];omega) (by simp only[c7,dg];omega) (by simp only[c7,oV,←O,←R,dQ,dL]),X⟩
       ·first|omega|(simp only;omega)|(simp;omega)
    ·
     have dG:c7 a.cj=c7 b.cj:=by have bh:(c7 a.cj).length=a.cj.length:=dg _;have bW:(c7 b.cj).length=b.cj.length:=dg _;rwa[eY J,eY J]at bE
     refine I.exit (a0 (aO (ck ?_)));refine cg (I.t2 (fun br bK=>I.O (fun dq=>?_)));refine G.aj ?_;refine dq (I.aC (fun _ du dx=>?_))
     refine I.bb (fun(i4:Nat)=>[(2,.pointer (some ⟨N.size,0,none⟩)),(3,.pointer (some ⟨M.size,0,none⟩)),(8,.int .i64 (i4:Int))])
      (fun(i4:Nat) (H:Heap)=>(i4≤a.el.length)∧(da a.el).take i4=(da b.el).take i4∧al bt H)
      (fun(i4:Nat)=>a.el.length-i4) 0 ⟨o,o,o,trivial⟩ ?_ ?_
     ·
      exact⟨J,o,aa.refl _ _⟩
     intro i4 ep dI cs dz bb;obtain⟨eu,bG,bc⟩:=dI;obtain⟨x,F,C,bo,j,cy,n,_⟩:=kr bc x F C bo j cy n;refine I.t2 (fun dB cI=>I.O (fun cJ=>?_));refine G.af ?_;refine G.aX j.W.lk c8 eN fD ?_;refine G.v1 (bu x dy) ?_;refine G.v1 bZ (G.nil (cJ ?_));refine a8 (fun cK=>?_) (fun cK=>?_)
     ·
      have bz:i4<a.el.length:=by omega
      have bC:i4<b.el.length:=by omega
      obtain⟨P,av⟩:∃q,q=a.el[i4]:=⟨_,o⟩;obtain⟨Q,ax⟩:∃q,q=b.el[i4]:=⟨_,o⟩;have dM:P∈a.el:=by rw[av];exact cU bz
      have dN:Q∈b.el:=by rw[ax];exact cU bC
      have eK:=P.k.2;have eM:=Q.k.2;refine I.skip (dB (I.t2 (fun cN cO=>I.aC (fun cP _ cQ=>I.t1 (fun cV=>?_)))));refine jk ?_;refine G.aX j.W.lk c8 eN fD ?_;refine G.af ?_;refine G.cn (Y.cg x i4 o dy db o o) fun eb bQ=>?_;refine G.aV gU bx ?_;refine G.v1 (Y.cast (v2:=bM P.k) (ba ((bQ.W.drop 0).take 32) cZ bx (by rw[gS];exact bI _)) ((by rw[av];exact c4 (gS _)))) ?_;refine G.aX cy.W.lk c8 eN fD ?_;refine G.af ?_;refine G.cn (Y.cg C i4 o dy db o o) fun ec bS=>?_;refine G.aV gU bx ?_;refine G.v1 (Y.cast (v2:=bM Q.k) (ba ((bS.W.drop 0).take 32) cZ bx (by rw[gS];exact bI _)) ((by rw[ax];exact c4 (gS _)))) ?_;refine G.v1 (Y.cast (v2:= .bool (decide (P.k≠Q.k))) (Y.oE o Tryz.eqGuardType26 (fun w=>i_ 9998 Tryz.underlying26 Tryz.underlying5 dK fE cY cY w) o o) ((aI Value.bool (decide_eq_decide.2 ⟨fun h e=>h (aI Subtype.val e),fun h e=>h (hr e)⟩)))) ?_;refine G.af ?_;refine G.join (d:=170) (v:= .bool (decide (P.k≠Q.k∨P.d≠Q.d))) 16 (fun aX=>?_) ?_
      ·
       refine G.bL (d:=154) o (fun ac=>?_) (fun ac=>?_)
       ·
        refine G.av 16 ?_;exact aX _ (aI (fun b=>some (Value.bool b)) (by simp[ac])) (ai (ai (ai (ai (ai (ai (ai (ai (ai (ai (ai (ai (ai (ai (ai (ai (b_ (aI Value.bool (cT ac).symm))))))))))))))))))
       ·
        refine G.gz j.W.lk c8 eN fD ?_;refine G.b4 ?_;refine G.e (g:=fun ad=> .pointer (some ad)) (Y.cg x i4 o dy db o o) bR o o (fun ed bT=>?_);refine G.hl gU dt ?_;refine G.aG (Y.cast (v2:=P.v.v) (bf bT.W.mP fe) (by rw[av])) ?_;refine G.aG (Y.qn (F P dM) o Tryz.underlying57 Tryz.underlying9 Tryz.underlying5 o) ?_;refine G.gz cy.W.lk c8 eN fD ?_;refine G.b4 ?_;refine G.e (g:=fun ad=> .pointer (some ad)) (Y.cg C i4 o dy db o o) bR o o (fun ee bU=>?_);refine G.hl gU dt ?_;refine G.aG (Y.cast (v2:=Q.v.v) (bf bU.W.mP fe) (by rw[ax])) ?_;refine G.aG (Y.qn (bo Q dN) o Tryz.underlying57 Tryz.underlying9 Tryz.underlying5 o) ?_;refine G.aG (Y.lO o o o) ?_;refine G.eh ?_;exact aX _ (aI (fun b=>some (Value.bool b)) (by simp[ac])) (ai (ai (ai (ai (ai (ai (ai (ai (ai (ai (ai (ai (ai (ai (ai (ai (b_ (aI Value.bool (cL ac).symm))))))))))))))))))
      refine G.nil (cV ?_);refine a8 (fun af=>?_) (fun af=>?_)
      ·
       refine I.O (fun cW=>?_);refine G.aj ?_;refine cW ?_;refine I.ret (cQ (cO (bb (dx (bK (S ?_))))));exact⟨by rw[cL (fun h=>by have L:=JN h.2.2.2.2 bz bC;rw[←av,←ax]at L;rcases af with q|q;exact q L.1;exact q L.2)],n⟩
      ·
       refine I.skip (cP (cN (I.region ?_)));refine G.af ?_;refine G.v1 bN ?_;refine G.aj ?_;refine aT.sub (dz (i4+1) _ ?_ ?_) ⟨o,o,(aF J),trivial⟩
       ·exact⟨J,tz bG (by simp only[da,dg];omega) (by simp only[da,dg];omega) (by simp only[not_or,nj]at af;simp only[da,oV,←av,←ax,af.1,af.2]),bc⟩
       ·first|omega|(simp only;omega)|(simp;omega)
     ·
      refine I.exit (cI (bb (du ?_)));refine br (I.O (fun cX=>?_));refine G.aj ?_;refine cX ?_;refine I.ret (S ?_);exact⟨by have dJ:da a.el=da b.el:=(by have bh:(da a.el).length=a.el.length:=dg _;have bW:(da b.el).length=b.el.length:=dg _;rwa[eY J,eY J]at bG);rw[cT (show sJ a b from⟨s1,nj.1 aJ,dS,dG,dJ⟩)],n⟩
end ux
end Go.Proofs.YtfjmpninmdjcaaaGreatDoor
