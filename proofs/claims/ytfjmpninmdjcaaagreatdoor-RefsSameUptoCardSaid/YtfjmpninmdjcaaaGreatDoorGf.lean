/-
  Contracts of functions of the program, and plain laws: put together of several texts.
-/
import Derived.Test.YtfjmpninmdjcaaaGreatDoorGd
import Derived.Test.YtfjmpninmdjcaaaGreatDoorGa
import Derived.Test.YtfjmpninmdjcaaaGreatDoorGb
import Derived.Shelf.Vars
import Derived.Test.YtfjmpninmdjcaaaGreatDoorGe
import Derived.SizedLaws
set_option linter.unusedVariables false
set_option linter.unusedSimpArgs false
set_option linter.unusedSectionVars false
set_option linter.defProp false
set_option maxHeartbeats 8000000
set_option maxRecDepth 20000
namespace Go.Proofs.YtfjmpninmdjcaaaGreatDoor

namespace t_
open E Go.RowKit eJ eN eW e3 ey eX eY fF fG fO fY gg gx gy hQ nf pD pE rv ry kF dz
theorem AJ{q:cY}{e:aM}{l:List bA}(w:World):(Instr.build 32 #[(3,.bool true),(4,eo q),(5,e.v)]).run Tryz.prog w= .ok (eg ⟨false,[],cO,[],true,q,e,l⟩) w:=by
 obtain⟨k,br,⟨bX,i⟩,⟨bo,d⟩,cM,a6,dn,md,st⟩:=q;simp only[eg,df,eo,dT,b7];obtain⟨j,n,H,T,X,Y,Z,aa,ab,ae,o,r,t,x,A,B,C,E,F,G,I,K,L,M,N,O,P,Q,R,S,V,W,rfl⟩:=lZ i;obtain⟨af,ag,aB,dE,aQ,aR,aS,cE,aT,aV,ah,ai,aj,an,aq,ar,au,ay,az,aA,aC,aD,aE,aF,aH,aI,aJ,aK,aL,aN,aO,aP,rfl⟩:=lZ d
 kernel_rfl
theorem Gv(v1 v2:Value)(a b:List cw)(w0:World)(I:Heap)
 (d:bw I du 33 v1 a) (aw:bw I du 33 v2 b):
 aC Tryz.prog w0 67 #[v1,v2] I (fun r C=>r= .bool (decide (a=b))∧ak I C):=by
 refine aC.aK [v1,v2] Tryz.func67 ?_;intro ay x;have k:ak I I:=V.refl _ _;replace d:=d.bt;replace aw:=aw.bt;have aH:=d.len;have aI:=aw.len;refine G.L (fun ae=>?_);refine o.aj ?_;refine ae (G.t2 (fun af ag=>G.L (fun ah=>?_)));refine o.W ?_;refine o.v1 (ba d gI) ?_;refine o.W ?_;refine o.v1 (ba aw gI) ?_;refine o.v1 c1 (o.nil (ah ?_));refine aT (fun A=>?_) (fun A=>?_)
 ·
  refine G.L (fun ai=>?_);refine o.aj ?_;refine ai ?_;refine G.ret (ag (x ?_));exact⟨by rw[decide_eq_false (fun e=>A (by rw[e]))],k⟩
 ·
  have hlen:a.length=b.length:=by omega
  refine G.skip (af (G.t2 (fun aj E=>G.L (fun F=>?_))));refine o.W ?_;refine o.v1 (ba d gI) ?_;refine o.W (o.nil (F ?_));refine G.aB (fun _ K L=>?_)
  refine G.bd (fun(i:(Nat))=>[(0,v1),(1,v2),(12,.int .i64 (a.length:Int)),(13,.int .i64 (i:Int))])
   (fun(i:(Nat)) (H:Heap)=>(i≤a.length)∧(a.take i=b.take i)∧ak I H)
   (fun(i:(Nat))=>a.length-i) 0 ⟨rfl,rfl,rfl,rfl,trivial⟩ ?_ ?_
  ·
   exact⟨(by omega),rfl,V.refl _ _⟩
  intro i aB M ar N B;obtain⟨aF,he,j⟩:=M;replace d:=d.M j;replace aw:=aw.M j;replace k:=k.L j;have aE:=j.size;refine G.L (fun O=>?_);refine o.v1 bG (o.nil (O ?_));refine G.t2 (fun Q ac=>?_);refine aT (fun P=>?_) (fun P=>?_)
  ·
   have an:i<a.length:=by omega
   have aq:i<b.length:=by omega
   obtain⟨y,n⟩:∃q,q=a[i]:=⟨_,rfl⟩;obtain⟨z,t⟩:∃q,q=b[i]:=⟨_,rfl⟩;refine G.skip (Q (G.t2 (fun R S=>G.aB (fun T _ W=>G.L (fun X=>?_)))));refine o.aR 2 ?_;refine X (G.t1 (fun Z=>?_));refine hf ?_;refine o.ax 2 ?_;refine o.bR (Y.bJ d (i) rfl gI hL rfl rfl) fun az aa=>?_;refine o.v1 (Y.cast (v2:= .agg (du y).toArray) (aW aa.N nm hL (hT _)) (by rw[n])) ?_;refine o.ax 2 ?_;refine o.bR (Y.bJ aw (i) rfl gI hL rfl rfl) fun aA au=>?_;refine o.v1 (Y.cast (v2:= .agg (du z).toArray) (aW au.N nm hL (hT _)) (by rw[t])) ?_;refine o.v1 (Y.jN rfl Tryz.eqGuardType71 (fun w=>vY y z w) rfl rfl) (o.nil (Z ?_));refine aT (fun am=>?_) (fun am=>?_)
   ·
    refine G.L (fun ab=>?_);refine o.aj ?_;refine ab ?_;refine G.ret (W (S (B (L (E (x ?_))))));exact⟨by rw[decide_eq_false (fun e=>am (by rw[n,t];simp only[e]))],k⟩
   ·
    refine G.skip (T (R (G.region ?_)));refine o.v1 bD ?_;refine o.W (o.nil ?_);refine aP.sub (N (i+1) _ ?_ ?_) ⟨rfl,rfl,(aD (by omega)),(aD (by omega)),trivial⟩
    ·exact⟨(by omega),kt he an aq (by rw[←n,←t];exact Decidable.not_not.1 am),j⟩
    ·first|omega|(simp only;omega)|(simp;omega)
  ·
   refine G.exit (ac (B (K ?_)));refine aj (G.L (fun ap=>?_));refine o.aj ?_;refine ap ?_;refine G.ret (x ?_);exact⟨by rw[decide_eq_true (show a=b from by rwa[List.take_of_length_le (by omega),List.take_of_length_le (by omega)]at he)],k⟩
theorem y9(v1 v2:Value)(a b:List fA)(w0:World)(I:Heap)
 (d:bw I c4 33 v1 a) (aw:bw I c4 33 v2 b):
 aC Tryz.prog w0 139 #[v1,v2] I (fun r C=>r= .bool (decide (a=b))∧ak I C):=by
 refine aC.aK [v1,v2] Tryz.func139 ?_;intro ay x;have k:ak I I:=V.refl _ _;replace d:=d.bt;replace aw:=aw.bt;have aH:=d.len;have aI:=aw.len;refine G.L (fun ae=>?_);refine o.aj ?_;refine ae (G.t2 (fun af ag=>G.L (fun ah=>?_)));refine o.W ?_;refine o.v1 (ba d fm) ?_;refine o.W ?_;refine o.v1 (ba aw fm) ?_;refine o.v1 c1 (o.nil (ah ?_));refine aT (fun A=>?_) (fun A=>?_)
 ·
  refine G.L (fun ai=>?_);refine o.aj ?_;refine ai ?_;refine G.ret (ag (x ?_));exact⟨by rw[decide_eq_false (fun e=>A (by rw[e]))],k⟩
 ·
  have hlen:a.length=b.length:=by omega
  refine G.skip (af (G.t2 (fun aj E=>G.L (fun F=>?_))));refine o.W ?_;refine o.v1 (ba d fm) ?_;refine o.W (o.nil (F ?_));refine G.aB (fun _ K L=>?_)
  refine G.bd (fun(i:(Nat))=>[(0,v1),(1,v2),(12,.int .i64 (a.length:Int)),(13,.int .i64 (i:Int))])
   (fun(i:(Nat)) (H:Heap)=>(i≤a.length)∧(a.take i=b.take i)∧ak I H)
   (fun(i:(Nat))=>a.length-i) 0 ⟨rfl,rfl,rfl,rfl,trivial⟩ ?_ ?_
  ·
   exact⟨(by omega),rfl,V.refl _ _⟩
  intro i aB M ar N B;obtain⟨aF,he,j⟩:=M;replace d:=d.M j;replace aw:=aw.M j;replace k:=k.L j;have aE:=j.size;refine G.L (fun O=>?_);refine o.v1 bG (o.nil (O ?_));refine G.t2 (fun Q ac=>?_);refine aT (fun P=>?_) (fun P=>?_)
  ·
   have an:i<a.length:=by omega
   have aq:i<b.length:=by omega
   obtain⟨y,n⟩:∃q,q=a[i]:=⟨_,rfl⟩;obtain⟨z,t⟩:∃q,q=b[i]:=⟨_,rfl⟩;refine G.skip (Q (G.t2 (fun R S=>G.aB (fun T _ W=>G.L (fun X=>?_)))));refine o.aR 2 ?_;refine X (G.t1 (fun Z=>?_));refine hf ?_;refine o.ax 2 ?_;refine o.bR (Y.bJ d (i) rfl fm ha rfl rfl) fun az aa=>?_;refine o.v1 (Y.cast (v2:= .agg (c4 y).toArray) (aW aa.N mA ha (hU _)) (by rw[n])) ?_;refine o.ax 2 ?_;refine o.bR (Y.bJ aw (i) rfl fm ha rfl rfl) fun aA au=>?_;refine o.v1 (Y.cast (v2:= .agg (c4 z).toArray) (aW au.N mA ha (hU _)) (by rw[t])) ?_;refine o.v1 (Y.jN rfl Tryz.eqGuardType129 (fun w=>vZ y z w) rfl rfl) (o.nil (Z ?_));refine aT (fun am=>?_) (fun am=>?_)
   ·
    refine G.L (fun ab=>?_);refine o.aj ?_;refine ab ?_;refine G.ret (W (S (B (L (E (x ?_))))));exact⟨by rw[decide_eq_false (fun e=>am (by rw[n,t];simp only[e]))],k⟩
   ·
    refine G.skip (T (R (G.region ?_)));refine o.v1 bD ?_;refine o.W (o.nil ?_);refine aP.sub (N (i+1) _ ?_ ?_) ⟨rfl,rfl,(aD (by omega)),(aD (by omega)),trivial⟩
    ·exact⟨(by omega),kt he an aq (by rw[←n,←t];exact Decidable.not_not.1 am),j⟩
    ·first|omega|(simp only;omega)|(simp;omega)
  ·
   refine G.exit (ac (B (K ?_)));refine aj (G.L (fun ap=>?_));refine o.aj ?_;refine ap ?_;refine G.ret (x ?_);exact⟨by rw[decide_eq_true (show a=b from by rwa[List.take_of_length_le (by omega),List.take_of_length_le (by omega)]at he)],k⟩
theorem Ew(v1 v2:Value)(a b:List cA)(w0:World)(I:Heap)
 (d:bw I dm 65 v1 a) (aw:bw I dm 65 v2 b):
 aC Tryz.prog w0 73 #[v1,v2] I (fun r C=>r= .bool (decide (a=b))∧ak I C):=by
 refine aC.aK [v1,v2] Tryz.func73 ?_;intro ay x;have k:ak I I:=V.refl _ _;replace d:=d.bt;replace aw:=aw.bt;have aH:=d.len;have aI:=aw.len;refine G.L (fun ae=>?_);refine o.aj ?_;refine ae (G.t2 (fun af ag=>G.L (fun ah=>?_)));refine o.W ?_;refine o.v1 (ba d hM) ?_;refine o.W ?_;refine o.v1 (ba aw hM) ?_;refine o.v1 c1 (o.nil (ah ?_));refine aT (fun A=>?_) (fun A=>?_)
 ·
  refine G.L (fun ai=>?_);refine o.aj ?_;refine ai ?_;refine G.ret (ag (x ?_));exact⟨by rw[decide_eq_false (fun e=>A (by rw[e]))],k⟩
 ·
  have hlen:a.length=b.length:=by omega
  refine G.skip (af (G.t2 (fun aj E=>G.L (fun F=>?_))));refine o.W ?_;refine o.v1 (ba d hM) ?_;refine o.W (o.nil (F ?_));refine G.aB (fun _ K L=>?_)
  refine G.bd (fun(i:(Nat))=>[(0,v1),(1,v2),(12,.int .i64 (a.length:Int)),(13,.int .i64 (i:Int))])
   (fun(i:(Nat)) (H:Heap)=>(i≤a.length)∧(a.take i=b.take i)∧ak I H)
   (fun(i:(Nat))=>a.length-i) 0 ⟨rfl,rfl,rfl,rfl,trivial⟩ ?_ ?_
  ·
   exact⟨(by omega),rfl,V.refl _ _⟩
  intro i aB M ar N B;obtain⟨aF,he,j⟩:=M;replace d:=d.M j;replace aw:=aw.M j;replace k:=k.L j;have aE:=j.size;refine G.L (fun O=>?_);refine o.v1 bG (o.nil (O ?_));refine G.t2 (fun Q ac=>?_);refine aT (fun P=>?_) (fun P=>?_)
  ·
   have an:i<a.length:=by omega
   have aq:i<b.length:=by omega
   obtain⟨y,n⟩:∃q,q=a[i]:=⟨_,rfl⟩;obtain⟨z,t⟩:∃q,q=b[i]:=⟨_,rfl⟩;refine G.skip (Q (G.t2 (fun R S=>G.aB (fun T _ W=>G.L (fun X=>?_)))));refine o.aR 2 ?_;refine X (G.t1 (fun Z=>?_));refine hf ?_;refine o.ax 2 ?_;refine o.bR (Y.bJ d (i) rfl hM j9 rfl rfl) fun az aa=>?_;refine o.v1 (Y.cast (v2:= .agg (dm y).toArray) (aW aa.N pJ j9 (kN _)) (by rw[n])) ?_;refine o.ax 2 ?_;refine o.bR (Y.bJ aw (i) rfl hM j9 rfl rfl) fun aA au=>?_;refine o.v1 (Y.cast (v2:= .agg (dm z).toArray) (aW au.N pJ j9 (kN _)) (by rw[t])) ?_;refine o.v1 (Y.jN rfl Tryz.eqGuardType64 (fun w=>vX y z w) rfl rfl) (o.nil (Z ?_));refine aT (fun am=>?_) (fun am=>?_)
   ·
    refine G.L (fun ab=>?_);refine o.aj ?_;refine ab ?_;refine G.ret (W (S (B (L (E (x ?_))))));exact⟨by rw[decide_eq_false (fun e=>am (by rw[n,t];simp only[e]))],k⟩
   ·
    refine G.skip (T (R (G.region ?_)));refine o.v1 bD ?_;refine o.W (o.nil ?_);refine aP.sub (N (i+1) _ ?_ ?_) ⟨rfl,rfl,(aD (by omega)),(aD (by omega)),trivial⟩
    ·exact⟨(by omega),kt he an aq (by rw[←n,←t];exact Decidable.not_not.1 am),j⟩
    ·first|omega|(simp only;omega)|(simp;omega)
  ·
   refine G.exit (ac (B (K ?_)));refine aj (G.L (fun ap=>?_));refine o.aj ?_;refine ap ?_;refine G.ret (x ?_);exact⟨by rw[decide_eq_true (show a=b from by rwa[List.take_of_length_le (by omega),List.take_of_length_le (by omega)]at he)],k⟩
theorem AL(v1 v2:Value)(a b:List UInt8)(w0:World)(I:Heap)
 (d:bw I a1 1 v1 a) (aw:bw I a1 1 v2 b):
 aC Tryz.prog w0 145 #[v1,v2] I (fun r C=>r= .bool (decide (a=b))∧ak I C):=by
 refine aC.aK [v1,v2] Tryz.func145 ?_;intro az x;have k:ak I I:=V.refl _ _;replace d:=d.bt;replace aw:=aw.bt;have aI:=d.len;have aJ:=aw.len;refine G.L (fun ae=>?_);refine o.aj ?_;refine ae (G.t2 (fun af ag=>G.L (fun ah=>?_)));refine o.W ?_;refine o.v1 (ba d db) ?_;refine o.W ?_;refine o.v1 (ba aw db) ?_;refine o.v1 c1 (o.nil (ah ?_));refine aT (fun A=>?_) (fun A=>?_)
 ·
  refine G.L (fun ai=>?_);refine o.aj ?_;refine ai ?_;refine G.ret (ag (x ?_));exact⟨by rw[decide_eq_false (fun e=>A (by rw[e]))],k⟩
 ·
  have hlen:a.length=b.length:=by omega
  refine G.skip (af (G.t2 (fun aj E=>G.L (fun F=>?_))));refine o.W ?_;refine o.v1 (ba d db) ?_;refine o.W (o.nil (F ?_));refine G.aB (fun _ K L=>?_)
  refine G.bd (fun(i:(Nat))=>[(0,v1),(1,v2),(12,.int .i64 (a.length:Int)),(13,.int .i64 (i:Int))])
   (fun(i:(Nat)) (H:Heap)=>(i≤a.length)∧(a.take i=b.take i)∧ak I H)
   (fun(i:(Nat))=>a.length-i) 0 ⟨rfl,rfl,rfl,rfl,trivial⟩ ?_ ?_
  ·
   exact⟨(by omega),rfl,V.refl _ _⟩
  intro i aE M ay N B;obtain⟨aH,he,j⟩:=M;replace d:=d.M j;replace aw:=aw.M j;replace k:=k.L j;have aF:=j.size;refine G.L (fun O=>?_);refine o.v1 bG (o.nil (O ?_));refine G.t2 (fun Q ac=>?_);refine aT (fun P=>?_) (fun P=>?_)
  ·
   have an:i<a.length:=by omega
   have aq:i<b.length:=by omega
   obtain⟨y,n⟩:∃q,q=a[i]:=⟨_,rfl⟩;obtain⟨z,t⟩:∃q,q=b[i]:=⟨_,rfl⟩;refine G.skip (Q (G.t2 (fun R S=>G.aB (fun T _ W=>G.L (fun X=>?_)))));refine o.aR 2 ?_;refine X (G.t1 (fun Z=>?_));refine hf ?_;refine o.ax 2 ?_;refine o.bR (Y.bJ d (i) rfl db cL rfl rfl) fun aA aa=>?_;refine o.v1 (Y.cast (v2:= .int .u8 y.toNat) (ar aa.N dQ) (by rw[n])) ?_;refine o.ax 2 ?_;refine o.bR (Y.bJ aw (i) rfl db cL rfl rfl) fun aB au=>?_;refine o.v1 (Y.cast (v2:= .int .u8 z.toNat) (ar au.N dQ) (by rw[t])) ?_;refine o.v1 (Y.cast (v2:= .bool (decide (y≠z))) c1 ((congrArg Value.bool (decide_eq_decide.2 ⟨fun h e=>h (by rw[e]),fun h e=>h (UInt8.toNat_inj.1 (by omega))⟩)))) (o.nil (Z ?_));refine aT (fun am=>?_) (fun am=>?_)
   ·
    refine G.L (fun ab=>?_);refine o.aj ?_;refine ab ?_;refine G.ret (W (S (B (L (E (x ?_))))));exact⟨by rw[decide_eq_false (fun e=>am (by rw[n,t];simp only[e]))],k⟩
   ·
    refine G.skip (T (R (G.region ?_)));refine o.v1 bD ?_;refine o.W (o.nil ?_);refine aP.sub (N (i+1) _ ?_ ?_) ⟨rfl,rfl,(aD (by omega)),(aD (by omega)),trivial⟩
    ·exact⟨(by omega),kt he an aq (by rw[←n,←t];exact Decidable.not_not.1 am),j⟩
    ·first|omega|(simp only;omega)|(simp;omega)
  ·
   refine G.exit (ac (B (K ?_)));refine aj (G.L (fun ap=>?_));refine o.aj ?_;refine ap ?_;refine G.ret (x ?_);exact⟨by rw[decide_eq_true (show a=b from by rwa[List.take_of_length_le (by omega),List.take_of_length_le (by omega)]at he)],k⟩
theorem E9 (w0:World)(I:Heap)
 :
 aC Tryz.prog w0 140 #[.slice none 0 0,.slice none 0 0] I (fun r j=>r= .bool true∧ak I j):=by
 refine aC.aK [.slice none 0 0,.slice none 0 0] Tryz.func140 ?_;intro K E;have d:ak I I:=V.refl _ _;have aA:bw I dt 66 (.slice none 0 0) []:=Rd.nil _ _ _ _;refine G.L (fun ac=>?_);refine o.aj ?_;refine ac (G.t1 (fun ad=>G.L (fun n=>?_)));refine o.W ?_;refine o.v1 (ba aA dG) ?_;refine o.W ?_;refine o.v1 (ba aA dG) ?_;refine o.v1 ((c1).fC (by simp)) (o.nil (n ?_));refine dB ?_;refine G.skip (ad (G.t1 (fun q=>G.L (fun t=>?_))));refine o.W ?_;refine o.v1 (ba aA dG) ?_;refine o.W (o.nil (t ?_));refine G.aB (fun _ x _=>?_)
 refine G.bd (fun(_:Unit)=>[(0,.slice none 0 0),(1,.slice none 0 0),(12,.int .i64 0),(13,.int .i64 0)])
  (fun(_:Unit) (H:Heap)=>(True)∧ak I H)
  (fun(_:Unit)=>0) () ⟨rfl,rfl,rfl,rfl,trivial⟩ ?_ ?_
 ·
  exact⟨trivial,V.refl _ _⟩
 intro _ L A F ap B;obtain⟨N,i⟩:=A;replace d:=d.L i;have M:=i.size;refine G.L (fun C=>?_);refine o.v1 bG (o.nil (C ?_));refine G.t2 (fun _ au=>?_);refine aT (fun am=>?_) (fun am=>?_)
 ·
  omega
 ·
  refine G.exit (au (B (x ?_)));refine q (G.L (fun k=>?_));refine o.aj ?_;refine k ?_;refine G.ret (E ?_);exact⟨rfl,d⟩
theorem wS(s:List UInt8)(w0:World)(I:Heap)
 :
 aC Tryz.prog w0 146 #[aI s] I (fun r d=>r= .bool false∧ak I d):=by
 refine aC.aK [aI s] Tryz.func146 ?_;intro q n;have k:ak I I:=V.refl _ _;refine G.L (fun i=>?_);refine o.aj ?_;refine i (G.L (fun j=>?_));refine o.ax 2 ?_;refine o.v1 (Y.iS rfl rfl rfl) ?_;refine o.aj ?_;refine j ?_;refine G.ret (n ?_);exact⟨by simp,k⟩
theorem Cx(a b:List UInt8)(w0:World)(I:Heap)
 :
 aC Tryz.prog w0 72 #[aI a,aI b] I (fun r t=>∃n:Int,r= .int .i64 n∧(n=0↔a=b)∧ak I t):=by
 refine aC.aK [aI a,aI b] Tryz.func72 ?_;intro R j;have d:ak I I:=V.refl _ _;refine G.L (fun F=>?_);refine o.aj ?_;refine F (G.L (fun au=>?_));refine o.W ?_;refine aV u1 (wS a w0 _) ?_;rintro Z Q ⟨rfl,q⟩;replace d:=d.L q;have W:=q.size;refine o.aj ?_;refine au (G.L (fun am=>?_));refine o.W ?_;refine aV u1 (wS b w0 _) (fun X S H=>?_);obtain⟨rfl,k⟩:=H;replace d:=d.L k;have T:=k.size;refine o.aj ?_;refine am (G.t1 (fun ap=>G.L (fun K=>?_)));refine o.W (o.nil (K ?_));refine dB ?_;refine G.skip (ap (G.t1 (fun L=>G.L (fun M=>?_))));refine o.W (o.nil (M ?_));refine dB ?_;refine G.skip (L (G.t2 (fun N O=>G.L (fun P=>?_))));refine o.ax 2 ?_;refine o.v1 (Y.yO rfl rfl rfl) (o.nil (P ?_));refine cI (fun i=>?_) (fun i=>?_)
 ·
  refine G.L (fun ad=>?_);refine o.aj ?_;refine ad ?_;refine G.ret (O (j ?_));exact⟨-1,rfl,⟨fun h=>by omega,fun h=>by rw[h,uK]at i;cases i⟩,d⟩
 ·
  refine G.skip (N (G.t2 (fun x A=>G.L (fun B=>?_))));refine o.ax 2 ?_;refine o.v1 (Y.G1 rfl rfl rfl) (o.nil (B ?_));refine cI (fun ac=>?_) (fun ac=>?_)
  ·
   refine G.L (fun C=>?_);refine o.aj ?_;refine C ?_;refine G.ret (A (j ?_));exact⟨1,rfl,⟨fun h=>by omega,fun h=>by subst h;simp at ac⟩,d⟩
  ·
   refine G.skip (x (G.L (fun E=>?_)));refine o.aj ?_;refine E ?_;refine G.ret (j ?_);exact⟨0,rfl,⟨fun _=>by rw[i]at ac;simpa using ac,fun _=>rfl⟩,d⟩
abbrev kT(x:e5):Value:= .agg (ei x).toArray
theorem v8(v1 v2 cH:Value)(a b:List bA)(w0:World)(I:Heap)
 (n:bw I bM 33 v1 a) (aw:bw I bM 33 v2 b) (bf:∀(x y:bA) (aa:Heap),ak I aa→x∈a→y∈b→fa Tryz.prog w0 cH [gZ x,gZ y] aa (fun r M=>r= .bool (decide ((x.k.1,x.d)=(y.k.1,y.d)))∧ak aa M)):
 aC Tryz.prog w0 143 #[v1,v2,cH] I (fun r M=>r= .bool (decide (a.map (fun x=>(x.k.1,x.d))=b.map (fun x=>(x.k.1,x.d))))∧ak I M):=by
 refine aC.aK [v1,v2,cH] Tryz.func143 ?_;intro bk Q;have d:ak I I:=V.refl _ _;replace n:=n.bt;replace aw:=aw.bt;have aX:=aw.bY;have bC:=n.len;have bE:=aw.len;refine G.L (fun ar=>?_);refine o.aj ?_;refine ar (G.t2 (fun aA aB=>G.L (fun aE=>?_)));refine o.W ?_;refine o.v1 (ba n cq) ?_;refine o.W ?_;refine o.v1 (ba aw cq) ?_;refine o.v1 c1 (o.nil (aE ?_));refine aT (fun R=>?_) (fun R=>?_)
 ·
  refine G.L (fun aF=>?_);refine o.aj ?_;refine aF ?_;refine G.ret (aB (Q ?_));exact⟨by rw[decide_eq_false (fun e=>R (by have F:=congrArg List.length e;simp only[List.length_map]at F;rw[F]))],d⟩
 ·
  have hlen:a.length=b.length:=by omega
  refine G.skip (aA (G.t2 (fun aH aI=>G.L (fun aJ=>?_))));refine o.W ?_;refine o.v1 (ba n cq) ?_;refine o.W (o.nil (aJ ?_));refine G.aB (fun _ aK aL=>?_)
  refine G.bd (fun(i:(Nat))=>[(1,v2),(2,cH),(15,v1),(16,.int .i64 (a.length:Int)),(17,.int .i64 (i:Int))])
   (fun(i:(Nat)) (H:Heap)=>(i≤a.length)∧((a.map (fun x=>(x.k.1,x.d))).take i=(b.map (fun x=>(x.k.1,x.d))).take i)∧ak I H)
   (fun(i:(Nat))=>a.length-i) 0 ⟨rfl,rfl,rfl,rfl,rfl,trivial⟩ ?_ ?_
  ·
   exact⟨(by omega),rfl,V.refl _ _⟩
  intro i A aM bj aN S;obtain⟨bz,he,j⟩:=aM;replace n:=n.M j;replace aw:=aw.M j;replace d:=d.L j;have bm:=j.size;refine G.L (fun aO=>?_);refine o.v1 bG (o.nil (aO ?_));refine G.t2 (fun aY au=>?_);refine aT (fun aQ=>?_) (fun aQ=>?_)
  ·
   have P:i<a.length:=by omega
   have W:i<b.length:=by omega
   obtain⟨y,K⟩:∃q,q=a[i]:=⟨_,rfl⟩;obtain⟨z,L⟩:∃q,q=b[i]:=⟨_,rfl⟩;have bg:y∈a:=by rw[K];exact List.getElem_mem P
   have bh:z∈b:=by rw[L];exact List.getElem_mem W
   refine G.skip (aY (G.t2 (fun am aZ=>G.aB (fun ap _ a1=>G.L (fun a6=>?_)))));refine o.W ?_;refine o.bR (Y.bJ n (i) rfl cq cf rfl rfl) fun bn a7=>?_;refine o.v1 (Y.cast (v2:=gZ y) (aW a7.N hF cf (cZ _)) (by rw[K])) ?_;refine o.aO (cQ kD) ?_;rintro k X ⟨rfl,k,C,a9,aR⟩;have bo:X.size=A.size+1:=by rw[aR];simp
   have aS:=(ay.new (aX.mono d.size):ay _ (A.size+1));have aV:T 0 I.size (A.size+1):=T.new d.size;have a0:T 0 I.size (A.size+1):=T.new j.size;replace aw:=aw.M C;replace d:=d.L C;replace j:=j.L C;have bp:=C.size;refine o.b2 ?_;refine o.s1 (dy k (_) (bM y) (gX y) cf (cZ _) ((c0 (cZ _).symm))) fun B a8=>?_;obtain⟨k,t⟩:=a8;replace t:=t.bp;replace aw:=aw.ab t (az.J aS);replace d:=d.bl t (ag.J (aq.q aV));replace j:=j.bl t (ag.J (aq.q a0));have bq:=t.size;refine o.nil (a6 (G.L (fun a_=>?_)));refine o.ax 2 ?_;refine o.bR (Y.bJ aw (i) rfl cq cf rfl rfl) fun a2 bb=>?_;refine o.v1 (Y.cast (v2:=gZ z) (aW bb.N hF cf (cZ _)) (by rw[L])) ?_;refine o.aO (cQ kD) ?_;rintro v9 Z ⟨rfl,v9,E,bs,a3⟩;have a4:Z.size=B.size+1:=by rw[a3];simp
   have a5:af (A.size+1) (B.size+1):=af.new k.lt;have bc:T 0 I.size (B.size+1):=T.new d.size;have bd:T 0 I.size (B.size+1):=T.new j.size;replace k:=k.M E;replace d:=d.L E;replace j:=j.L E;have bt:=E.size;refine o.s1 (dy v9 (_) (bM z) (gX z) cf (cZ _) ((c0 (cZ _).symm))) fun bl ae=>?_;obtain⟨v9,ac⟩:=ae;replace ac:=ac.bp;replace k:=k.ab ac (ah.J a5);replace d:=d.bl ac (ag.J (aq.q bc));replace j:=j.bl ac (ag.J (aq.q bd));have bT:=ac.size;refine o.nil (a_ (G.L (fun ai=>?_)));refine o.W ?_;refine o.v1 (aW k.N hF cf (cZ _)) ?_;refine o.v1 (aW v9.N hF cf (cZ _)) ?_;refine o.kl rfl rfl rfl cR rfl rfl (bf y z _ d bg bh) (fun be bu ab=>?_);obtain⟨rfl,O⟩:=ab;replace d:=d.L O;replace j:=j.L O;have bx:=O.size;refine o.v1 (Y.h2 rfl rfl) (o.nil (ai ?_));refine aT (fun N=>?_) (fun N=>?_)
   ·
    refine G.L (fun aj=>?_);refine o.aj ?_;refine aj ?_;refine G.ret (a1 (aZ (S (aL (aI (Q ?_))))));exact⟨by rw[decide_eq_false (fun e=>N (by rw[K,L];have F:=List.getElem_of_eq e (by rw[List.length_map];exact P);simpa only[List.getElem_map]using F))],d⟩
   ·
    refine G.skip (ap (am (G.region ?_)));refine o.v1 bD ?_;refine o.W (o.nil ?_);refine aP.sub (aN (i+1) _ ?_ ?_) ⟨rfl,rfl,rfl,(aD (by omega)),(aD (by omega)),trivial⟩
    ·exact⟨(by omega),kt he (by rw[List.length_map];exact P) (by rw[List.length_map];exact W) (by rw[List.getElem_map,List.getElem_map,←K,←L];exact Decidable.not_not.1 N),j⟩
    ·first|omega|(simp only;omega)|(simp;omega)
  ·
   refine G.exit (au (S (aK ?_)));refine aH (G.L (fun an=>?_));refine o.aj ?_;refine an ?_;refine G.ret (Q ?_);exact⟨by rw[decide_eq_true (by have bF:(a.map (fun x=>(x.k.1,x.d))).length=a.length:=List.length_map _;have bH:(b.map (fun x=>(x.k.1,x.d))).length=b.length:=List.length_map _;rwa[List.take_of_length_le (by omega),List.take_of_length_le (by omega)]at he)],d⟩
theorem Db(v1 v2 cH:Value)(a b:List e5)(w0:World)(I:Heap)
 (n:bw I ei 2 v1 a) (aw:bw I ei 2 v2 b) (bf:∀(x y:e5) (aa:Heap),ak I aa→x∈a→y∈b→fa Tryz.prog w0 cH [kT x,kT y] aa (fun r M=>r= .bool (decide ((x.n,x.l)=(y.n,y.l)))∧ak aa M)):
 aC Tryz.prog w0 70 #[v1,v2,cH] I (fun r M=>r= .bool (decide (a.map (fun x=>(x.n,x.l))=b.map (fun x=>(x.n,x.l))))∧ak I M):=by
 refine aC.aK [v1,v2,cH] Tryz.func70 ?_;intro bk Q;have d:ak I I:=V.refl _ _;replace n:=n.bt;replace aw:=aw.bt;have aX:=aw.bY;have bA:=n.len;have bC:=aw.len;refine G.L (fun ar=>?_);refine o.aj ?_;refine ar (G.t2 (fun aA aB=>G.L (fun aE=>?_)));refine o.W ?_;refine o.v1 (ba n fD) ?_;refine o.W ?_;refine o.v1 (ba aw fD) ?_;refine o.v1 c1 (o.nil (aE ?_));refine aT (fun R=>?_) (fun R=>?_)
 ·
  refine G.L (fun aF=>?_);refine o.aj ?_;refine aF ?_;refine G.ret (aB (Q ?_));exact⟨by rw[decide_eq_false (fun e=>R (by have F:=congrArg List.length e;simp only[List.length_map]at F;rw[F]))],d⟩
 ·
  have hlen:a.length=b.length:=by omega
  refine G.skip (aA (G.t2 (fun aH aI=>G.L (fun aJ=>?_))));refine o.W ?_;refine o.v1 (ba n fD) ?_;refine o.W (o.nil (aJ ?_));refine G.aB (fun _ aK aL=>?_)
  refine G.bd (fun(i:(Nat))=>[(1,v2),(2,cH),(15,v1),(16,.int .i64 (a.length:Int)),(17,.int .i64 (i:Int))])
   (fun(i:(Nat)) (H:Heap)=>(i≤a.length)∧((a.map (fun x=>(x.n,x.l))).take i=(b.map (fun x=>(x.n,x.l))).take i)∧ak I H)
   (fun(i:(Nat))=>a.length-i) 0 ⟨rfl,rfl,rfl,rfl,rfl,trivial⟩ ?_ ?_
  ·
   exact⟨(by omega),rfl,V.refl _ _⟩
  intro i A aM bj aN S;obtain⟨bz,he,j⟩:=aM;replace n:=n.M j;replace aw:=aw.M j;replace d:=d.L j;have bm:=j.size;refine G.L (fun aO=>?_);refine o.v1 bG (o.nil (aO ?_));refine G.t2 (fun aY au=>?_);refine aT (fun aQ=>?_) (fun aQ=>?_)
  ·
   have P:i<a.length:=by omega
   have W:i<b.length:=by omega
   obtain⟨y,K⟩:∃q,q=a[i]:=⟨_,rfl⟩;obtain⟨z,L⟩:∃q,q=b[i]:=⟨_,rfl⟩;have bg:y∈a:=by rw[K];exact List.getElem_mem P
   have bh:z∈b:=by rw[L];exact List.getElem_mem W
   refine G.skip (aY (G.t2 (fun am aZ=>G.aB (fun ap _ a1=>G.L (fun a6=>?_)))));refine o.W ?_;refine o.bR (Y.bJ n (i) rfl fD fl rfl rfl) fun bn a7=>?_;refine o.v1 (Y.cast (v2:=kT y) (aW a7.N lP fl (fI _)) (by rw[K])) ?_;refine o.aO (cQ pz) ?_;rintro k X ⟨rfl,k,C,a9,aR⟩;have bo:X.size=A.size+1:=by rw[aR];simp
   have aS:=(ay.new (aX.mono d.size):ay _ (A.size+1));have aV:T 0 I.size (A.size+1):=T.new d.size;have a0:T 0 I.size (A.size+1):=T.new j.size;replace aw:=aw.M C;replace d:=d.L C;replace j:=j.L C;have bp:=C.size;refine o.b2 ?_;refine o.s1 (dy k (_) (ei y) (jw y) fl (fI _) ((c0 (fI _).symm))) fun B a8=>?_;obtain⟨k,t⟩:=a8;replace t:=t.bp;replace aw:=aw.ab t (az.J aS);replace d:=d.bl t (ag.J (aq.q aV));replace j:=j.bl t (ag.J (aq.q a0));have bq:=t.size;refine o.nil (a6 (G.L (fun a_=>?_)));refine o.ax 2 ?_;refine o.bR (Y.bJ aw (i) rfl fD fl rfl rfl) fun a2 bb=>?_;refine o.v1 (Y.cast (v2:=kT z) (aW bb.N lP fl (fI _)) (by rw[L])) ?_;refine o.aO (cQ pz) ?_;rintro v9 Z ⟨rfl,v9,E,bs,a3⟩;have a4:Z.size=B.size+1:=by rw[a3];simp
   have a5:af (A.size+1) (B.size+1):=af.new k.lt;have bc:T 0 I.size (B.size+1):=T.new d.size;have bd:T 0 I.size (B.size+1):=T.new j.size;replace k:=k.M E;replace d:=d.L E;replace j:=j.L E;have bt:=E.size;refine o.s1 (dy v9 (_) (ei z) (jw z) fl (fI _) ((c0 (fI _).symm))) fun bl ae=>?_;obtain⟨v9,ac⟩:=ae;replace ac:=ac.bp;replace k:=k.ab ac (ah.J a5);replace d:=d.bl ac (ag.J (aq.q bc));replace j:=j.bl ac (ag.J (aq.q bd));have bT:=ac.size;refine o.nil (a_ (G.L (fun ai=>?_)));refine o.W ?_;refine o.v1 (aW k.N lP fl (fI _)) ?_;refine o.v1 (aW v9.N lP fl (fI _)) ?_;refine o.kl rfl rfl rfl cR rfl rfl (bf y z _ d bg bh) (fun be bu ab=>?_);obtain⟨rfl,O⟩:=ab;replace d:=d.L O;replace j:=j.L O;have bx:=O.size;refine o.v1 (Y.h2 rfl rfl) (o.nil (ai ?_));refine aT (fun N=>?_) (fun N=>?_)
   ·
    refine G.L (fun aj=>?_);refine o.aj ?_;refine aj ?_;refine G.ret (a1 (aZ (S (aL (aI (Q ?_))))));exact⟨by rw[decide_eq_false (fun e=>N (by rw[K,L];have F:=List.getElem_of_eq e (by rw[List.length_map];exact P);simpa only[List.getElem_map]using F))],d⟩
   ·
    refine G.skip (ap (am (G.region ?_)));refine o.v1 bD ?_;refine o.W (o.nil ?_);refine aP.sub (aN (i+1) _ ?_ ?_) ⟨rfl,rfl,rfl,(aD (by omega)),(aD (by omega)),trivial⟩
    ·exact⟨(by omega),kt he (by rw[List.length_map];exact P) (by rw[List.length_map];exact W) (by rw[List.getElem_map,List.getElem_map,←K,←L];exact Decidable.not_not.1 N),j⟩
    ·first|omega|(simp only;omega)|(simp;omega)
  ·
   refine G.exit (au (S (aK ?_)));refine aH (G.L (fun an=>?_));refine o.aj ?_;refine an ?_;refine G.ret (Q ?_);exact⟨by rw[decide_eq_true (by have bE:(a.map (fun x=>(x.n,x.l))).length=a.length:=List.length_map _;have bF:(b.map (fun x=>(x.n,x.l))).length=b.length:=List.length_map _;rwa[List.take_of_length_le (by omega),List.take_of_length_le (by omega)]at he)],d⟩
theorem EV(x y:bA)(w0:World)(I:Heap)
 (k:bw I a1 1 x.v.v x.d) (hy:bw I a1 1 y.v.v y.d):
 aC Tryz.prog w0 144 #[gZ x,gZ y] I (fun r n=>r= .bool (decide ((x.k.1,x.d)=(y.k.1,y.d)))∧ak I n):=by
 refine aC.aK [gZ x,gZ y] Tryz.func144 ?_;intro H B;have i:ak I I:=V.refl _ _;replace k:=k.bt;replace hy:=hy.bt;refine G.L (fun E=>?_);refine o.aO cr ?_;rintro v2 n ⟨rfl,j,t,K,L⟩;replace k:=k.M t;replace hy:=hy.M t;replace i:=i.L t;replace j:Var 68 n I.size (bM x):=j;refine o.aO cr ?_;rintro v3 C ⟨rfl,aQ,q,M,N⟩;replace k:=k.M q;replace hy:=hy.M q;replace j:=j.M q;replace i:=i.L q;replace aQ:Var 68 C n.size (bM y):=aQ;refine o.aj ?_;refine E (G.L (fun A=>?_));refine o.v1 (Y.ai j.N rfl eS rfl a_) ?_;refine o.v1 (Y.cast (v2:=bs x.k) (aW (j.N.take 32) b_ a_ (by rw[show(bM x).take 32=b7 x.k from eK _];exact bB _)) ((b6 (show(bM x).take 32=b7 x.k from eK _)))) ?_;refine o.v1 (Y.ai aQ.N rfl eS rfl a_) ?_;refine o.v1 (Y.cast (v2:=bs y.k) (aW (aQ.N.take 32) b_ a_ (by rw[show(bM y).take 32=b7 y.k from eK _];exact bB _)) ((b6 (show(bM y).take 32=b7 y.k from eK _)))) ?_;refine o.v1 (Y.h_ rfl Tryz.eqGuardType26 (fun w=>fR 9998 Tryz.underlying26 Tryz.underlying5 cL dQ (x.k.2) (y.k.2) w) rfl rfl) ?_;refine o.W ?_;refine o.bj (d:=10) rfl (fun ac=>?_) (fun ac=>?_)
 ·
  refine o.an (Y.ai j.N rfl eS rfl da) ?_;refine o.an (ar j.N.ji eA) ?_;refine o.an (Y.ai aQ.N rfl eS rfl da) ?_;refine o.an (ar aQ.N.ji eA) ?_;refine o.call rfl Be rfl bh rfl rfl (AL _ _ x.d y.d w0 _ k.any hy.any) (fun au am F=>?_);obtain⟨rfl,ad⟩:=F;replace i:=i.L ad;refine o.aR 2 ?_;refine A ?_;refine G.ret (B ?_);exact⟨congrArg Value.bool (decide_eq_decide.2 ⟨fun h=>by rw[ac,h],fun h=>(Prod.mk.inj h).2⟩),i⟩
 ·
  refine o.aR 7 ?_;refine A ?_;refine G.ret (B ?_);exact⟨by rw[decide_eq_false (fun h=>ac (Prod.mk.inj h).1)],i⟩
theorem Ed(x y:e5)(w0:World)(I:Heap)
 (k:bw I dm 65 x.v.v x.l) (hy:bw I dm 65 y.v.v y.l):
 aC Tryz.prog w0 71 #[kT x,kT y] I (fun r q=>r= .bool (decide ((x.n,x.l)=(y.n,y.l)))∧ak I q):=by
 refine aC.aK [kT x,kT y] Tryz.func71 ?_;intro M C;have i:ak I I:=V.refl _ _;replace k:=k.bt;replace hy:=hy.bt;refine G.L (fun H=>?_);refine o.aO cr ?_;rintro v2 q ⟨rfl,j,ac,N,O⟩;replace k:=k.M ac;replace hy:=hy.M ac;replace i:=i.L ac;replace j:Var 62 q I.size (ei x):=j;refine o.aO cr ?_;rintro v3 E ⟨rfl,aQ,t,P,au⟩;replace k:=k.M t;replace hy:=hy.M t;replace j:=j.M t;replace i:=i.L t;replace aQ:Var 62 E q.size (ei y):=aQ;refine o.aj ?_;refine H (G.L (fun A=>?_));refine o.v1 (Y.ai j.N rfl fW rfl bO) ?_;refine o.v1 (ar j.N bL) ?_;refine o.v1 (Y.ai aQ.N rfl fW rfl bO) ?_;refine o.v1 (ar aQ.N bL) ?_;refine aV B8 (Cx x.n y.n w0 _) ?_;rintro v9 L ⟨R,rfl,B,n⟩;replace k:=k.M n;replace hy:=hy.M n;replace j:=j.M n;replace aQ:=aQ.M n;replace i:=i.L n;refine o.v1 b9 ?_;refine o.W ?_;refine o.bj (d:=11) rfl (fun ad=>?_) (fun ad=>?_)
 ·
  refine o.an (Y.ai j.N rfl fW rfl gR) ?_;refine o.an (ar (j.N.drop 1) h9) ?_;refine o.an (Y.ai aQ.N rfl fW rfl gR) ?_;refine o.an (ar (aQ.N.drop 1) h9) ?_;refine o.call rfl B9 rfl bh rfl rfl (Ew _ _ x.l y.l w0 _ k.any hy.any) (fun am Q K=>?_);obtain⟨rfl,F⟩:=K;replace i:=i.L F;refine o.aR 2 ?_;refine A ?_;refine G.ret (C ?_);exact⟨congrArg Value.bool (decide_eq_decide.2 ⟨fun h=>by rw[B.1 ad,h],fun h=>(Prod.mk.inj h).2⟩),i⟩
 ·
  refine o.aR 7 ?_;refine A ?_;refine G.ret (C ?_);exact⟨by rw[decide_eq_false (fun h=>ad (B.2 (Prod.mk.inj h).1))],i⟩
theorem xo(w0:World)(H:Heap)(x y:bA)(i:bw H a1 1 x.v.v x.d)(hy:bw H a1 1 y.v.v y.d):fa Tryz.prog w0 (.func (.func 144) #[] #[]) [gZ x,gZ y] H (fun r d=>r= .bool (decide ((x.k.1,x.d)=(y.k.1,y.d)))∧ak H d):=
 fa.of (caps:=[]) Bd (EV x y w0 H i hy)
theorem Ec(w0:World)(H:Heap)(x y:e5)(i:bw H dm 65 x.v.v x.l)(hy:bw H dm 65 y.v.v y.l):fa Tryz.prog w0 (.func (.func 71) #[] #[]) [kT x,kT y] H (fun r d=>r= .bool (decide ((x.n,x.l)=(y.n,y.l)))∧ak H d):=
 fa.of (caps:=[]) B7 (Ed x y w0 H i hy)
theorem F1(a b:cY)(w0:World)(I:Heap)
 (k:bw I c4 33 a.cM.v a.a6) (aw:bw I c4 33 b.cM.v b.a6):
 aC Tryz.prog w0 68 #[eo a,eo b] I (fun r B=>r= .bool (decide (ld a b))∧ak I B):=by
 refine aC.aK [eo a,eo b] Tryz.func68 ?_;intro af aa;have j:ak I I:=V.refl _ _;replace k:=k.bt;replace aw:=aw.bt;refine G.L (fun au=>?_);refine o.aO cr ?_;rintro v2 B ⟨rfl,i,L,ag,ap⟩;replace k:=k.M L;replace aw:=aw.M L;replace j:=j.L L;replace i:Var 29 B I.size (dT a):=i;refine o.aO cr ?_;rintro v3 ab ⟨rfl,aQ,C,ah,ai⟩;replace k:=k.M C;replace aw:=aw.M C;replace i:=i.M C;replace j:=j.L C;replace aQ:Var 29 ab B.size (dT b):=aQ;refine o.aj ?_;refine au (G.L (fun S=>?_));refine o.v1 (Y.ai i.N rfl bu rfl b1) ?_;refine o.v1 (ar i.N cd) ?_;refine o.v1 (Y.ai aQ.N rfl bu rfl b1) ?_;refine o.v1 (ar aQ.N cd) ?_;refine o.v1 b9 ?_;refine o.W ?_;refine o.join (d:=16) (v:= .bool (decide (a.k=b.k∧a.br=b.br))) 6 (fun M=>?_) ?_
 ·
  refine o.bj (d:=10) rfl (fun ac=>?_) (fun ac=>?_)
  ·
   refine o.an (Y.ai i.N rfl bu rfl bO) ?_;refine o.an (ar (i.N.drop 1) bL) ?_;refine o.an (Y.ai aQ.N rfl bu rfl bO) ?_;refine o.an (ar (aQ.N.drop 1) bL) ?_;refine o.an (Y.jB rfl rfl rfl) ?_;refine o.N ?_;exact M _ (congrArg (fun b=>some (Value.bool b)) (by simp[ac])) (ae (ae (ae (ae (ae (ae (bC (congrArg Value.bool (decide_eq_true ac).symm))))))))
  ·
   refine o.ax 6 ?_;exact M _ (congrArg (fun b=>some (Value.bool b)) (by simp[ac])) (ae (ae (ae (ae (ae (ae (bC (congrArg Value.bool (decide_eq_false ac).symm))))))))
 refine o.W ?_;refine o.join (d:=23) (v:= .bool (decide ((a.k=b.k∧a.br=b.br)∧a.bX=b.bX))) 6 (fun N=>?_) ?_
 ·
  refine o.bj (d:=17) rfl (fun ad=>?_) (fun ad=>?_)
  ·
   refine o.an (Y.ai i.N rfl bu rfl a_) ?_;refine o.an (Y.cast (v2:=bs a.bX) (aW ((i.N.drop 2).take 32) b_ a_ (by rw[hA];exact bB _)) (b6 (hA _))) ?_;refine o.an (Y.ai aQ.N rfl bu rfl a_) ?_;refine o.an (Y.cast (v2:=bs b.bX) (aW ((aQ.N.drop 2).take 32) b_ a_ (by rw[hA];exact bB _)) (b6 (hA _))) ?_;refine o.an (Y.cast (v2:= .bool (decide (a.bX=b.bX))) (Y.h_ rfl Tryz.eqGuardType26 (fun w=>fR 9998 Tryz.underlying26 Tryz.underlying5 cL dQ (a.bX.2) (b.bX.2) w) rfl rfl) ((congrArg Value.bool (decide_eq_decide.2 ⟨fun e=>Subtype.ext e,fun e=>congrArg Subtype.val e⟩)))) ?_;refine o.N ?_;exact N _ (congrArg (fun b=>some (Value.bool b)) (by simp[ad])) (ae (ae (ae (ae (ae (ae (bC (congrArg Value.bool (decide_eq_true ad).symm))))))))
  ·
   refine o.ax 6 ?_;exact N _ (congrArg (fun b=>some (Value.bool b)) (by simp[ad])) (ae (ae (ae (ae (ae (ae (bC (congrArg Value.bool (decide_eq_false ad).symm))))))))
 refine o.W ?_;refine o.join (d:=30) (v:= .bool (decide (((a.k=b.k∧a.br=b.br)∧a.bX=b.bX)∧a.bo=b.bo))) 6 (fun O=>?_) ?_
 ·
  refine o.bj (d:=24) rfl (fun q=>?_) (fun q=>?_)
  ·
   refine o.an (Y.ai i.N rfl bu rfl a_) ?_;refine o.an (Y.cast (v2:=bs a.bo) (aW ((i.N.drop 34).take 32) b_ a_ (by rw[hz];exact bB _)) (b6 (hz _))) ?_;refine o.an (Y.ai aQ.N rfl bu rfl a_) ?_;refine o.an (Y.cast (v2:=bs b.bo) (aW ((aQ.N.drop 34).take 32) b_ a_ (by rw[hz];exact bB _)) (b6 (hz _))) ?_;refine o.an (Y.cast (v2:= .bool (decide (a.bo=b.bo))) (Y.h_ rfl Tryz.eqGuardType26 (fun w=>fR 9998 Tryz.underlying26 Tryz.underlying5 cL dQ (a.bo.2) (b.bo.2) w) rfl rfl) ((congrArg Value.bool (decide_eq_decide.2 ⟨fun e=>Subtype.ext e,fun e=>congrArg Subtype.val e⟩)))) ?_;refine o.N ?_;exact O _ (congrArg (fun b=>some (Value.bool b)) (by simp[q])) (ae (ae (ae (ae (ae (ae (bC (congrArg Value.bool (decide_eq_true q).symm))))))))
  ·
   refine o.ax 6 ?_;exact O _ (congrArg (fun b=>some (Value.bool b)) (by simp[q])) (ae (ae (ae (ae (ae (ae (bC (congrArg Value.bool (decide_eq_false q).symm))))))))
 refine o.W ?_;refine o.bj (d:=31) rfl (fun n=>?_) (fun n=>?_)
 ·
  refine o.an (Y.ai i.N rfl bu rfl en) ?_;refine o.an (ar i.N.fL ff) ?_;refine o.an (Y.ai aQ.N rfl bu rfl en) ?_;refine o.an (ar aQ.N.fL ff) ?_;refine o.call rfl uZ rfl bh rfl rfl (y9 _ _ a.a6 b.a6 w0 _ k.any aw.any) (fun aj an am=>?_);obtain⟨rfl,K⟩:=am;replace i:=i.M K;replace aQ:=aQ.M K;replace j:=j.L K;refine o.ax 2 ?_;refine o.join (d:=44) (v:= .bool (decide (a.a6=b.a6∧a.dn=b.dn))) 6 (fun P=>?_) ?_
  ·
   refine o.bj (d:=38) rfl (fun t=>?_) (fun t=>?_)
   ·
    refine o.an (Y.ai i.N rfl bu rfl b1) ?_;refine o.an (ar i.N.ir cd) ?_;refine o.an (Y.ai aQ.N rfl bu rfl b1) ?_;refine o.an (ar aQ.N.ir cd) ?_;refine o.an b9 ?_;refine o.N ?_;exact P _ (congrArg (fun b=>some (Value.bool b)) (by simp[t])) (ae (ae (ae (ae (ae (ae (bC (congrArg Value.bool (decide_eq_true t).symm))))))))
   ·
    refine o.ax 6 ?_;exact P _ (congrArg (fun b=>some (Value.bool b)) (by simp[t])) (ae (ae (ae (ae (ae (ae (bC (congrArg Value.bool (decide_eq_false t).symm))))))))
  refine o.W ?_;refine o.join (d:=51) (v:= .bool (decide ((a.a6=b.a6∧a.dn=b.dn)∧a.md=b.md))) 6 (fun Q=>?_) ?_
  ·
   refine o.bj (d:=45) rfl (fun x=>?_) (fun x=>?_)
   ·
    refine o.an (Y.ai i.N rfl bu rfl b1) ?_;refine o.an (ar i.N.jD cd) ?_;refine o.an (Y.ai aQ.N rfl bu rfl b1) ?_;refine o.an (ar aQ.N.jD cd) ?_;refine o.an b9 ?_;refine o.N ?_;exact Q _ (congrArg (fun b=>some (Value.bool b)) (by simp[x])) (ae (ae (ae (ae (ae (ae (bC (congrArg Value.bool (decide_eq_true x).symm))))))))
   ·
    refine o.ax 6 ?_;exact Q _ (congrArg (fun b=>some (Value.bool b)) (by simp[x])) (ae (ae (ae (ae (ae (ae (bC (congrArg Value.bool (decide_eq_false x).symm))))))))
  refine o.W ?_;refine o.join (d:=58) (v:= .bool (decide (((a.a6=b.a6∧a.dn=b.dn)∧a.md=b.md)∧a.st=b.st))) 6 (fun R=>?_) ?_
  ·
   refine o.bj (d:=52) rfl (fun A=>?_) (fun A=>?_)
   ·
    refine o.an (Y.ai i.N rfl bu rfl cW) ?_;refine o.an (ar i.N.k3 dr) ?_;refine o.an (Y.ai aQ.N rfl bu rfl cW) ?_;refine o.an (ar aQ.N.k3 dr) ?_;refine o.an (Y.rP rfl Tryz.underlying4 rfl rfl) ?_;refine o.N ?_;exact R _ (congrArg (fun b=>some (Value.bool b)) (by simp[A])) (ae (ae (ae (ae (ae (ae (bC (congrArg Value.bool (decide_eq_true A).symm))))))))
   ·
    refine o.ax 6 ?_;exact R _ (congrArg (fun b=>some (Value.bool b)) (by simp[A])) (ae (ae (ae (ae (ae (ae (bC (congrArg Value.bool (decide_eq_false A).symm))))))))
  refine o.aj ?_;refine S ?_;refine G.ret (aa ?_);exact⟨congrArg Value.bool (decide_eq_decide.2 ⟨fun⟨⟨⟨E,U⟩,F⟩,H⟩=>⟨n.1.1.1,n.1.1.2,n.1.2,n.2,U,F,H,E⟩,fun⟨E,U,F,H,T,W,X,Z⟩=>⟨⟨⟨Z,T⟩,W⟩,X⟩⟩),j⟩
 ·
  refine o.aR 28 ?_;refine S ?_;refine G.ret (aa ?_);exact⟨by rw[decide_eq_false (fun⟨E,U,F,H,T,W,X,Z⟩=>n ⟨⟨⟨E,U⟩,F⟩,H⟩)],j⟩
theorem CK(a b:cY)(w0:World)(I:Heap)
 (k:bw I c4 33 a.cM.v a.a6) (aw:bw I c4 33 b.cM.v b.a6):
 aC Tryz.prog w0 142 #[eo a,eo b] I (fun r B=>r= .bool (decide (ld a b))∧ak I B):=by
 refine aC.aK [eo a,eo b] Tryz.func142 ?_;intro af aa;have j:ak I I:=V.refl _ _;replace k:=k.bt;replace aw:=aw.bt;refine G.L (fun au=>?_);refine o.aO cr ?_;rintro v2 B ⟨rfl,i,L,ag,ap⟩;replace k:=k.M L;replace aw:=aw.M L;replace j:=j.L L;replace i:Var 29 B I.size (dT a):=i;refine o.aO cr ?_;rintro v3 ab ⟨rfl,aQ,C,ah,ai⟩;replace k:=k.M C;replace aw:=aw.M C;replace i:=i.M C;replace j:=j.L C;replace aQ:Var 29 ab B.size (dT b):=aQ;refine o.aj ?_;refine au (G.L (fun S=>?_));refine o.v1 (Y.ai i.N rfl bu rfl b1) ?_;refine o.v1 (ar i.N cd) ?_;refine o.v1 (Y.ai aQ.N rfl bu rfl b1) ?_;refine o.v1 (ar aQ.N cd) ?_;refine o.v1 b9 ?_;refine o.W ?_;refine o.join (d:=16) (v:= .bool (decide (a.k=b.k∧a.br=b.br))) 6 (fun M=>?_) ?_
 ·
  refine o.bj (d:=10) rfl (fun ac=>?_) (fun ac=>?_)
  ·
   refine o.an (Y.ai i.N rfl bu rfl bO) ?_;refine o.an (ar (i.N.drop 1) bL) ?_;refine o.an (Y.ai aQ.N rfl bu rfl bO) ?_;refine o.an (ar (aQ.N.drop 1) bL) ?_;refine o.an (Y.jB rfl rfl rfl) ?_;refine o.N ?_;exact M _ (congrArg (fun b=>some (Value.bool b)) (by simp[ac])) (ae (ae (ae (ae (ae (ae (bC (congrArg Value.bool (decide_eq_true ac).symm))))))))
  ·
   refine o.ax 6 ?_;exact M _ (congrArg (fun b=>some (Value.bool b)) (by simp[ac])) (ae (ae (ae (ae (ae (ae (bC (congrArg Value.bool (decide_eq_false ac).symm))))))))
 refine o.W ?_;refine o.join (d:=23) (v:= .bool (decide ((a.k=b.k∧a.br=b.br)∧a.bX=b.bX))) 6 (fun N=>?_) ?_
 ·
  refine o.bj (d:=17) rfl (fun ad=>?_) (fun ad=>?_)
  ·
   refine o.an (Y.ai i.N rfl bu rfl a_) ?_;refine o.an (Y.cast (v2:=bs a.bX) (aW ((i.N.drop 2).take 32) b_ a_ (by rw[hA];exact bB _)) (b6 (hA _))) ?_;refine o.an (Y.ai aQ.N rfl bu rfl a_) ?_;refine o.an (Y.cast (v2:=bs b.bX) (aW ((aQ.N.drop 2).take 32) b_ a_ (by rw[hA];exact bB _)) (b6 (hA _))) ?_;refine o.an (Y.cast (v2:= .bool (decide (a.bX=b.bX))) (Y.h_ rfl Tryz.eqGuardType26 (fun w=>fR 9998 Tryz.underlying26 Tryz.underlying5 cL dQ (a.bX.2) (b.bX.2) w) rfl rfl) ((congrArg Value.bool (decide_eq_decide.2 ⟨fun e=>Subtype.ext e,fun e=>congrArg Subtype.val e⟩)))) ?_;refine o.N ?_;exact N _ (congrArg (fun b=>some (Value.bool b)) (by simp[ad])) (ae (ae (ae (ae (ae (ae (bC (congrArg Value.bool (decide_eq_true ad).symm))))))))
  ·
   refine o.ax 6 ?_;exact N _ (congrArg (fun b=>some (Value.bool b)) (by simp[ad])) (ae (ae (ae (ae (ae (ae (bC (congrArg Value.bool (decide_eq_false ad).symm))))))))
 refine o.W ?_;refine o.join (d:=30) (v:= .bool (decide (((a.k=b.k∧a.br=b.br)∧a.bX=b.bX)∧a.bo=b.bo))) 6 (fun O=>?_) ?_
 ·
  refine o.bj (d:=24) rfl (fun q=>?_) (fun q=>?_)
  ·
   refine o.an (Y.ai i.N rfl bu rfl a_) ?_;refine o.an (Y.cast (v2:=bs a.bo) (aW ((i.N.drop 34).take 32) b_ a_ (by rw[hz];exact bB _)) (b6 (hz _))) ?_;refine o.an (Y.ai aQ.N rfl bu rfl a_) ?_;refine o.an (Y.cast (v2:=bs b.bo) (aW ((aQ.N.drop 34).take 32) b_ a_ (by rw[hz];exact bB _)) (b6 (hz _))) ?_;refine o.an (Y.cast (v2:= .bool (decide (a.bo=b.bo))) (Y.h_ rfl Tryz.eqGuardType26 (fun w=>fR 9998 Tryz.underlying26 Tryz.underlying5 cL dQ (a.bo.2) (b.bo.2) w) rfl rfl) ((congrArg Value.bool (decide_eq_decide.2 ⟨fun e=>Subtype.ext e,fun e=>congrArg Subtype.val e⟩)))) ?_;refine o.N ?_;exact O _ (congrArg (fun b=>some (Value.bool b)) (by simp[q])) (ae (ae (ae (ae (ae (ae (bC (congrArg Value.bool (decide_eq_true q).symm))))))))
  ·
   refine o.ax 6 ?_;exact O _ (congrArg (fun b=>some (Value.bool b)) (by simp[q])) (ae (ae (ae (ae (ae (ae (bC (congrArg Value.bool (decide_eq_false q).symm))))))))
 refine o.W ?_;refine o.bj (d:=31) rfl (fun n=>?_) (fun n=>?_)
 ·
  refine o.an (Y.ai i.N rfl bu rfl en) ?_;refine o.an (ar i.N.fL ff) ?_;refine o.an (Y.ai aQ.N rfl bu rfl en) ?_;refine o.an (ar aQ.N.fL ff) ?_;refine o.call rfl uZ rfl bh rfl rfl (y9 _ _ a.a6 b.a6 w0 _ k.any aw.any) (fun aj an am=>?_);obtain⟨rfl,K⟩:=am;replace i:=i.M K;replace aQ:=aQ.M K;replace j:=j.L K;refine o.ax 2 ?_;refine o.join (d:=44) (v:= .bool (decide (a.a6=b.a6∧a.dn=b.dn))) 6 (fun P=>?_) ?_
  ·
   refine o.bj (d:=38) rfl (fun t=>?_) (fun t=>?_)
   ·
    refine o.an (Y.ai i.N rfl bu rfl b1) ?_;refine o.an (ar i.N.ir cd) ?_;refine o.an (Y.ai aQ.N rfl bu rfl b1) ?_;refine o.an (ar aQ.N.ir cd) ?_;refine o.an b9 ?_;refine o.N ?_;exact P _ (congrArg (fun b=>some (Value.bool b)) (by simp[t])) (ae (ae (ae (ae (ae (ae (bC (congrArg Value.bool (decide_eq_true t).symm))))))))
   ·
    refine o.ax 6 ?_;exact P _ (congrArg (fun b=>some (Value.bool b)) (by simp[t])) (ae (ae (ae (ae (ae (ae (bC (congrArg Value.bool (decide_eq_false t).symm))))))))
  refine o.W ?_;refine o.join (d:=51) (v:= .bool (decide ((a.a6=b.a6∧a.dn=b.dn)∧a.md=b.md))) 6 (fun Q=>?_) ?_
  ·
   refine o.bj (d:=45) rfl (fun x=>?_) (fun x=>?_)
   ·
    refine o.an (Y.ai i.N rfl bu rfl b1) ?_;refine o.an (ar i.N.jD cd) ?_;refine o.an (Y.ai aQ.N rfl bu rfl b1) ?_;refine o.an (ar aQ.N.jD cd) ?_;refine o.an b9 ?_;refine o.N ?_;exact Q _ (congrArg (fun b=>some (Value.bool b)) (by simp[x])) (ae (ae (ae (ae (ae (ae (bC (congrArg Value.bool (decide_eq_true x).symm))))))))
   ·
    refine o.ax 6 ?_;exact Q _ (congrArg (fun b=>some (Value.bool b)) (by simp[x])) (ae (ae (ae (ae (ae (ae (bC (congrArg Value.bool (decide_eq_false x).symm))))))))
  refine o.W ?_;refine o.join (d:=58) (v:= .bool (decide (((a.a6=b.a6∧a.dn=b.dn)∧a.md=b.md)∧a.st=b.st))) 6 (fun R=>?_) ?_
  ·
   refine o.bj (d:=52) rfl (fun A=>?_) (fun A=>?_)
   ·
    refine o.an (Y.ai i.N rfl bu rfl cW) ?_;refine o.an (ar i.N.k3 dr) ?_;refine o.an (Y.ai aQ.N rfl bu rfl cW) ?_;refine o.an (ar aQ.N.k3 dr) ?_;refine o.an (Y.rP rfl Tryz.underlying4 rfl rfl) ?_;refine o.N ?_;exact R _ (congrArg (fun b=>some (Value.bool b)) (by simp[A])) (ae (ae (ae (ae (ae (ae (bC (congrArg Value.bool (decide_eq_true A).symm))))))))
   ·
    refine o.ax 6 ?_;exact R _ (congrArg (fun b=>some (Value.bool b)) (by simp[A])) (ae (ae (ae (ae (ae (ae (bC (congrArg Value.bool (decide_eq_false A).symm))))))))
  refine o.aj ?_;refine S ?_;refine G.ret (aa ?_);exact⟨congrArg Value.bool (decide_eq_decide.2 ⟨fun⟨⟨⟨E,U⟩,F⟩,H⟩=>⟨n.1.1.1,n.1.1.2,n.1.2,n.2,U,F,H,E⟩,fun⟨E,U,F,H,T,W,X,Z⟩=>⟨⟨⟨Z,T⟩,W⟩,X⟩⟩),j⟩
 ·
  refine o.aR 28 ?_;refine S ?_;refine G.ret (aa ?_);exact⟨by rw[decide_eq_false (fun⟨E,U,F,H,T,W,X,Z⟩=>n ⟨⟨⟨E,U⟩,F⟩,H⟩)],j⟩
theorem CN(K L:cY)(W X:aM)(O aX:List bA)(w0:World)(I:Heap)
 (B:bw I c4 33 K.cM.v K.a6) (C:bw I c4 33 L.cM.v L.a6) (n:bw I bM 33 W.v O) (q:bw I bM 33 X.v aX) (t:∀y∈O,bw I a1 1 y.v.v y.d) (A:∀y∈aX,bw I a1 1 y.v.v y.d) (aj:ld K L):
 aC Tryz.prog w0 69 #[eg ⟨false,[],cO,[],true,K,W,O⟩,eg ⟨false,[],cO,[],true,L,X,aX⟩] I (fun r S=>r= .bool (decide (cl O=cl aX))∧ak I S):=by
 refine aC.aK [eg ⟨false,[],cO,[],true,K,W,O⟩,eg ⟨false,[],cO,[],true,L,X,aX⟩] Tryz.func69 ?_;intro bH aL;have j:ak I I:=V.refl _ _;replace B:=B.bt;have aF:=B.bY;replace C:=C.bt;have aH:=C.bY;replace n:=n.bt;have aI:=n.bY;replace q:=q.bt;have aJ:=q.bY;replace t:=fun y i=>(t y i).bt;have aK:bg (fun b=>True∧b<I.size) I.size:=fun b h=>h.2;replace A:=fun y i=>(A y i).bt;have au:bg (fun b=>True∧b<I.size) I.size:=fun b h=>h.2;refine G.L (fun bo=>?_);refine o.aO cr ?_;rintro v2 S ⟨rfl,k,R,bJ,bL⟩;replace B:=B.M R;replace C:=C.M R;replace n:=n.M R;replace q:=q.M R;replace t:=fun y i=>(t y i).M R;replace A:=fun y i=>(A y i).M R;replace j:=j.L R;replace k:Var 32 S I.size (df ⟨false,[],cO,[],true,K,W,O⟩):=k;refine o.aO cr ?_;rintro v3 aN ⟨rfl,aQ,P,bN,bT⟩;replace B:=B.M P;replace C:=C.M P;replace n:=n.M P;replace q:=q.M P;replace t:=fun y i=>(t y i).M P;replace A:=fun y i=>(A y i).M P;replace k:=k.M P;replace j:=j.L P;replace aQ:Var 32 aN S.size (df ⟨false,[],cO,[],true,L,X,aX⟩):=aQ;refine o.aj ?_;refine bo (G.t1 (fun bp=>G.L (fun bq=>?_)));refine o.v1 (Y.ai k.N rfl bx rfl cW) ?_;refine o.v1 (ar k.N dr) ?_;refine o.v1 (Y.ai aQ.N rfl bx rfl cW) ?_;refine o.v1 (ar aQ.N dr) ?_;refine o.v1 ((Y.pR rfl Tryz.underlying4 rfl rfl).fC (by simp)) ?_;refine o.W ?_;refine o.an (Y.ai k.N rfl bx rfl cW) ?_;refine o.an (ar k.N dr) ?_;refine o.ax 6 ?_;refine o.an dI ?_;refine o.ax 2 ?_;refine o.an (Y.ai k.N rfl bx rfl cW) ?_;refine o.an (ar (k.N.drop 3) dr) ?_;refine o.an (Y.ai aQ.N rfl bx rfl cW) ?_;refine o.an (ar (aQ.N.drop 3) dr) ?_;refine o.an ((Y.pR rfl Tryz.underlying4 rfl rfl).fC (by simp)) ?_;refine o.ax 2 ?_;refine o.an (Y.ai k.N rfl bx rfl ek) ?_;refine o.an (ar (k.N.drop 2) ez) ?_;refine o.an (Y.ai aQ.N rfl bx rfl ek) ?_;refine o.an (ar (aQ.N.drop 2) ez) ?_;refine o.call rfl Bb rfl bh rfl rfl (E9 w0 _) (fun be bO bs=>?_);obtain⟨rfl,ad⟩:=bs;replace B:=B.M ad;replace C:=C.M ad;replace n:=n.M ad;replace q:=q.M ad;replace t:=fun y i=>(t y i).M ad;replace A:=fun y i=>(A y i).M ad;replace k:=k.M ad;replace aQ:=aQ.M ad;replace j:=j.L ad;refine o.an eI ?_;refine o.dF ?_;refine o.nil (bq ?_);refine dB ?_;refine G.skip (bp (G.L (fun bt=>?_)));refine o.v1 (aW k.N gM fk (dY _)) ?_;refine aV rV (rN ⟨false,[],cO,[],true,K,W,O⟩ w0 _) (fun bP am a0=>?_);obtain⟨rfl,M⟩:=a0;replace B:=B.M M;replace C:=C.M M;replace n:=n.M M;replace q:=q.M M;replace t:=fun y i=>(t y i).M M;replace A:=fun y i=>(A y i).M M;replace k:=k.M M;replace aQ:=aQ.M M;replace j:=j.L M;refine o.W ?_;refine o.v1 cN ?_;refine o.v1 (Y.cast (v2:= .bool (decide (K.k≠0))) cN (rfl)) ?_;refine o.aO (cQ rk) ?_;rintro v5 bF ⟨rfl,v5,N,bi,bQ⟩;have bz:=(ay.new (aF.mono j.size):ay _ (am.size+1));have bC:=(ay.new (aH.mono j.size):ay _ (am.size+1));have bD:=(ay.new (aI.mono j.size):ay _ (am.size+1));have bE:=(ay.new (aJ.mono j.size):ay _ (am.size+1));have aS:=(ay.new (aK.mono j.size):ay _ (am.size+1));have aY:=(ay.new (au.mono j.size):ay _ (am.size+1));have aZ:af (I.size+1) (am.size+1):=af.new k.lt;have a6:af (S.size+1) (am.size+1):=af.new aQ.lt;have a7:T 0 I.size (am.size+1):=T.new j.size;replace B:=B.M N;replace C:=C.M N;replace n:=n.M N;replace q:=q.M N;replace t:=fun y i=>(t y i).M N;replace A:=fun y i=>(A y i).M N;replace k:=k.M N;replace aQ:=aQ.M N;replace j:=j.L N;refine o.s1 (dy v5 (_) (dT K) (kp _) cT (ef _) ((c0 (ef _).symm))) fun b2 a8=>?_;obtain⟨v5,F⟩:=a8;replace F:=F.bp;replace B:=B.ab F (az.J bz);replace C:=C.ab F (az.J bC);replace n:=n.ab F (az.J bD);replace q:=q.ab F (az.J bE);replace t:=fun y i=>(t y i).ab F (az.J aS);replace A:=fun y i=>(A y i).ab F (az.J aY);replace k:=k.ab F (ah.J aZ);replace aQ:=aQ.ab F (ah.J a6);replace j:=j.bl F (ag.J (aq.q a7));refine o.aj ?_;refine bt (G.L (fun a2=>?_));refine o.v1 (aW aQ.N gM fk (dY _)) ?_;refine aV rV (rN ⟨false,[],cO,[],true,L,X,aX⟩ w0 _) (fun aB H a3=>?_);obtain⟨rfl,ac⟩:=a3;replace B:=B.M ac;replace C:=C.M ac;replace n:=n.M ac;replace q:=q.M ac;replace t:=fun y i=>(t y i).M ac;replace A:=fun y i=>(A y i).M ac;replace k:=k.M ac;replace aQ:=aQ.M ac;replace v5:=v5.M ac;replace j:=j.L ac;refine o.W ?_;refine o.v1 cN ?_;refine o.v1 (Y.cast (v2:= .bool (decide (L.k≠0))) cN (rfl)) ?_;refine o.aO (cQ rk) ?_;rintro Z bG ⟨rfl,Z,ap,bR,bS⟩;have a_:=(ay.new (aF.mono j.size):ay _ (H.size+1));have ba:=(ay.new (aH.mono j.size):ay _ (H.size+1));have bb:=(ay.new (aI.mono j.size):ay _ (H.size+1));have bc:=(ay.new (aJ.mono j.size):ay _ (H.size+1));have bd:=(ay.new (aK.mono j.size):ay _ (H.size+1));have bf:=(ay.new (au.mono j.size):ay _ (H.size+1));have bj:af (I.size+1) (H.size+1):=af.new k.lt;have bk:af (S.size+1) (H.size+1):=af.new aQ.lt;have bl:af (am.size+1) (H.size+1):=af.new v5.lt;have bm:T 0 I.size (H.size+1):=T.new j.size;replace B:=B.M ap;replace C:=C.M ap;replace n:=n.M ap;replace q:=q.M ap;replace t:=fun y i=>(t y i).M ap;replace A:=fun y i=>(A y i).M ap;replace k:=k.M ap;replace aQ:=aQ.M ap;replace v5:=v5.M ap;replace j:=j.L ap;refine o.s1 (dy Z (_) (dT L) (kp _) cT (ef _) ((c0 (ef _).symm))) fun a4 bn=>?_;obtain⟨Z,E⟩:=bn;replace E:=E.bp;replace B:=B.ab E (az.J a_);replace C:=C.ab E (az.J ba);replace n:=n.ab E (az.J bb);replace q:=q.ab E (az.J bc);replace t:=fun y i=>(t y i).ab E (az.J bd);replace A:=fun y i=>(A y i).ab E (az.J bf);replace k:=k.ab E (ah.J bj);replace aQ:=aQ.ab E (ah.J bk);replace v5:=v5.ab E (ah.J bl);replace j:=j.bl E (ag.J (aq.q bm));refine o.aj ?_;refine a2 (G.t1 (fun aD=>G.L (fun aE=>?_)));refine o.ax 2 ?_;refine o.v1 ((Y.pR rfl Tryz.underlying4 rfl rfl).fC (by rw[aj.1];simp)) ?_;refine o.ax 3 ?_;refine o.bj (d:=55) rfl (fun a5=>?_) (fun a5=>?_)
 ·
  refine o.an (aW v5.N h8 cT (ef _)) ?_;refine o.an (aW Z.N h8 cT (ef _)) ?_;refine o.call rfl Bc rfl bh rfl rfl (CK K L w0 _ B.any C.any) (fun bU bV aO=>?_);obtain⟨rfl,Q⟩:=aO;replace n:=n.M Q;replace q:=q.M Q;replace t:=fun y i=>(t y i).M Q;replace A:=fun y i=>(A y i).M Q;replace k:=k.M Q;replace aQ:=aQ.M Q;replace j:=j.L Q;refine o.an (Y.h2 rfl rfl) ?_;refine o.an eh ?_;refine o.dF ?_;refine o.nil (aE ?_);refine aT (fun ab=>?_) (fun ab=>?_)
  ·
   first|exact absurd aj ab|exact absurd aj (by simpa using ab)
  ·
   refine G.skip (aD (G.L (fun aP=>?_)));refine o.v1 (Y.ai k.N rfl bx rfl dp) ?_;refine o.v1 (ar k.N.fT dS) ?_;refine o.v1 (Y.ai aQ.N rfl bx rfl dp) ?_;refine o.v1 (ar aQ.N.fT dS) ?_;refine aV u0 (v8 _ _ _ O aX w0 _ n.any q.any (fun x y aa aA an hy=>xo w0 aa x y ((t x an).any.M aA) ((A y hy).any.M aA))) (fun aR a9 ae=>?_);obtain⟨rfl,ai⟩:=ae;replace j:=j.L ai;refine o.aj ?_;refine aP ?_;refine G.ret (aL ?_);exact⟨rfl,j⟩
 ·
  refine o.ax 4 ?_;refine o.an dI ?_;refine o.dF ?_;refine o.nil (aE ?_);refine dB ?_;refine G.skip (aD (G.L (fun bu=>?_)));refine o.v1 (Y.ai k.N rfl bx rfl dp) ?_;refine o.v1 (ar k.N.fT dS) ?_;refine o.v1 (Y.ai aQ.N rfl bx rfl dp) ?_;refine o.v1 (ar aQ.N.fT dS) ?_;refine aV u0 (v8 _ _ _ O aX w0 _ n.any q.any (fun x y aa aA an hy=>xo w0 aa x y ((t x an).any.M aA) ((A y hy).any.M aA))) (fun aR a9 ae=>?_);obtain⟨rfl,ai⟩:=ae;replace j:=j.L ai;refine o.aj ?_;refine bu ?_;refine G.ret (aL ?_);exact⟨rfl,j⟩
theorem G6(x:c2)(w0:World)(I:Heap)
 :
 aC Tryz.prog w0 66 #[ed x] I (fun r n=>r=eg ⟨false,[],cO,[],true,x.q,x.cB,x.el⟩∧ak I n):=by
 refine aC.enter (args:=[ed x]) Tryz.func66 rfl rfl rfl ?_;intro E C;have d:ak I I:=V.refl _ _;refine G.L (fun ad=>?_);refine o.aO cr ?_;rintro v1 H1 ⟨rfl,i,t,H,K⟩;replace d:=d.L t;replace i:Var 47 H1 I.size (bS x):=i;refine o.aO (cQ n9) ?_;rintro v2 n ⟨rfl,k,ac,L,au⟩;have A:T 0 I.size (H1.size+1):=T.new d.size;replace i:=i.M ac;replace d:=d.L ac;refine o.nil (ad (G.L (fun B=>?_)));refine o.v1 (Y.ai i.N rfl ca rfl cT) ?_;refine o.v1 (Y.cast (v2:=eo x.q) (aW ((i.N.drop 3).take 70) h8 cT (by rw[jU];exact ef _)) (b6 (jU x))) ?_;refine o.v1 (Y.ai i.N rfl ca rfl dp) ?_;refine o.v1 (ar i.N.iB dS) ?_;refine o.v1 (Y.build (v:=eg ⟨false,[],cO,[],true,x.q,x.cB,x.el⟩) rfl rfl (by intro w;exact AJ _)) ?_;refine o.s1 (dy k (_) (df ⟨false,[],cO,[],true,x.q,x.cB,x.el⟩) (mN _) fk (dY _) ((c0 (dY _).symm))) fun F q=>?_;obtain⟨k,j⟩:=q;replace j:=j.bp;replace d:=d.bl j (ag.J (aq.q A));refine o.nil (B ?_);refine G.ret (C .ret (.inr rfl) _ _ _ (jA rfl rfl k.N gM fk (dY _)) ?_);exact⟨rfl,d⟩
theorem yP(w0:World)(H:Heap)(x:c2):fa Tryz.prog w0 (.func (.func 66) #[] #[]) [ed x] H (fun r d=>r=eg ⟨false,[],cO,[],true,x.q,x.cB,x.el⟩∧ak H d):=
 fa.of (caps:=[]) B2 (G6 x w0 H)
set_option maxHeartbeats 1600000 in
theorem x8(a b:c2)(w0:World)(I:Heap)
 (e9:bw I du 33 a.ej.v a.bb) (c9:bw I ei 2 a.cu.v a.bW) (E:∀y∈a.bW,bw I dm 65 y.v.v y.l) (F:bw I c4 33 a.q.cM.v a.q.a6) (Q:bw I bM 33 a.cB.v a.el) (P:∀y∈a.el,bw I a1 1 y.v.v y.d) (eb:bw I du 33 b.ej.v b.bb) (C:bw I ei 2 b.cu.v b.bW) (bK:∀y∈b.bW,bw I dm 65 y.v.v y.l) (H:bw I c4 33 b.q.cM.v b.q.a6) (R:bw I bM 33 b.cB.v b.el) (bf:∀y∈b.el,bw I a1 1 y.v.v y.d):
 aC Tryz.prog w0 26 #[ed a,ed b] I (fun r W=>r= .bool (decide (kg a b))∧ak I W):=by
 refine aC.aK [ed a,ed b] Tryz.func26 ?_;intro aZ ae;have B:ak I I:=V.refl _ _;replace e9:=e9.bt;replace c9:=c9.bt;replace E:=fun y i=>(E y i).bt;replace F:=F.bt;replace Q:=Q.bt;replace P:=fun y i=>(P y i).bt;replace eb:=eb.bt;replace C:=C.bt;replace bK:=fun y i=>(bK y i).bt;replace H:=H.bt;replace R:=R.bt;replace bf:=fun y i=>(bf y i).bt;refine G.L (fun aE=>?_);refine o.aO cr ?_;rintro v2 W ⟨rfl,A,S,bb,aF⟩;have a_:W.size=I.size+1:=by rw[aF];simp
 replace e9:=e9.M S;replace c9:=c9.M S;replace E:=fun y i=>(E y i).M S;replace F:=F.M S;replace Q:=Q.M S;replace P:=fun y i=>(P y i).M S;replace eb:=eb.M S;replace C:=C.M S;replace bK:=fun y i=>(bK y i).M S;replace H:=H.M S;replace R:=R.M S;replace bf:=fun y i=>(bf y i).M S;replace B:=B.L S;have bc:=S.size;replace A:Var 47 W I.size (bS a):=A;refine o.aO cr ?_;rintro v3 af ⟨rfl,aQ,N,bd,aH⟩;have ba:af.size=W.size+1:=by rw[aH];simp
 replace e9:=e9.M N;replace c9:=c9.M N;replace E:=fun y i=>(E y i).M N;replace F:=F.M N;replace Q:=Q.M N;replace P:=fun y i=>(P y i).M N;replace eb:=eb.M N;replace C:=C.M N;replace bK:=fun y i=>(bK y i).M N;replace H:=H.M N;replace R:=R.M N;replace bf:=fun y i=>(bf y i).M N;replace A:=A.M N;replace B:=B.L N;have bg:=N.size;replace aQ:Var 47 af W.size (bS b):=aQ;refine o.aj ?_;refine aE (G.L (fun aI=>?_));refine o.aj ?_;refine aI (G.t1 (fun ab=>?_));refine dC (fun n=>ak af n) [] ?_;have k:=ak.refl af;refine O.t1 0 rfl (fun n j=>Y.ai (A.N.M j) rfl ca rfl bO) k ?_;refine O.t1 1 rfl (fun n j=>ar (A.N.M j) bL) k ?_;refine O.t1 2 rfl (fun n j=>Y.ai (aQ.N.M j) rfl ca rfl bO) k ?_;refine O.t1 3 rfl (fun n j=>ar (aQ.N.M j) bL) k ?_;refine O.t1 4 rfl (fun n j=>Y.jB rfl rfl rfl) k ?_;refine O.W 5 rfl k ?_;refine O.bj (d:=11) rfl (fun X=>?_) (fun X=>?_)
 ·
  refine O.bQ 6 rfl (fun n j=>Y.ai (A.N.M j) rfl ca rfl hb) bh k ?_;refine O.bQ 7 rfl (fun n j=>ar ((A.N.drop 1).M j) iw) bh k ?_;refine O.bQ 8 rfl (fun n j=>Y.ai (aQ.N.M j) rfl ca rfl hb) bh k ?_;refine O.bQ 9 rfl (fun n j=>ar ((aQ.N.drop 1).M j) iw) bh k ?_;refine O.aY 10 ?_;refine dD.call rfl rfl B3 rfl bh rfl rfl (Gv _ _ a.bb b.bb w0 _ e9.any eb.any) (fun bj an aJ=>?_);obtain⟨rfl,ad⟩:=aJ;replace c9:=c9.M ad;replace E:=fun y i=>(E y i).M ad;replace F:=F.M ad;replace Q:=Q.M ad;replace P:=fun y i=>(P y i).M ad;replace C:=C.M ad;replace bK:=fun y i=>(bK y i).M ad;replace H:=H.M ad;replace R:=R.M ad;replace bf:=fun y i=>(bf y i).M ad;replace A:=A.M ad;replace aQ:=aQ.M ad;replace B:=B.L ad;have bk:=ad.size;have aP:=k.L ad;refine O.cn aP ?_;have q:=ak.refl an;refine O.t1 11 rfl (fun n j=>eh) q ?_;refine O.W 12 rfl q ?_;refine O.bj (d:=18) rfl (fun ap=>?_) (fun ap=>?_)
  ·
   refine O.bQ 13 rfl (fun n j=>Y.ai (A.N.M j) rfl ca rfl cT) bh q ?_;refine O.bQ 14 rfl (fun n j=>Y.cast (v2:=eo a.q) (aW (((A.N.drop 3).M j).take 70) h8 cT (by rw[jU];exact ef _)) (b6 (jU a))) bh q ?_;refine O.bQ 15 rfl (fun n j=>Y.ai (aQ.N.M j) rfl ca rfl cT) bh q ?_;refine O.bQ 16 rfl (fun n j=>Y.cast (v2:=eo b.q) (aW (((aQ.N.drop 3).M j).take 70) h8 cT (by rw[jU];exact ef _)) (b6 (jU b))) bh q ?_;refine O.aY 17 ?_;refine dD.call rfl rfl B4 rfl bh rfl rfl (F1 a.q b.q w0 _ F.any H.any) (fun a0 aq aK=>?_);obtain⟨rfl,K⟩:=aK;replace c9:=c9.M K;replace E:=fun y i=>(E y i).M K;replace F:=F.M K;replace Q:=Q.M K;replace P:=fun y i=>(P y i).M K;replace C:=C.M K;replace bK:=fun y i=>(bK y i).M K;replace H:=H.M K;replace R:=R.M K;replace bf:=fun y i=>(bf y i).M K;replace A:=A.M K;replace aQ:=aQ.M K;replace B:=B.L K;have b2:=K.size;have aR:=q.L K;refine O.cn aR ?_;have t:=ak.refl aq;refine O.t1 18 rfl (fun n j=>eh) t ?_;refine O.W 19 rfl t ?_;refine O.bj (d:=25) rfl (fun au=>?_) (fun au=>?_)
   ·
    refine O.bQ 20 rfl (fun n j=>fp) bh t ?_;refine O.bQ 21 rfl (fun n j=>aW (A.N.M j) fg dx (b8 _)) bh t ?_;refine O.bQ 23 rfl (fun n j=>fp) bh t ?_;refine O.bQ 24 rfl (fun n j=>aW (aQ.N.M j) fg dx (b8 _)) bh t ?_;refine O.aY 22 ?_;refine dD.kl rfl rfl rfl rfl bh rfl rfl (yP w0 _ a) (fun a2 ay aL=>?_);obtain⟨rfl,L⟩:=aL;replace c9:=c9.M L;replace E:=fun y i=>(E y i).M L;replace F:=F.M L;replace Q:=Q.M L;replace P:=fun y i=>(P y i).M L;replace C:=C.M L;replace bK:=fun y i=>(bK y i).M L;replace H:=H.M L;replace R:=R.M L;replace bf:=fun y i=>(bf y i).M L;replace A:=A.M L;replace aQ:=aQ.M L;replace B:=B.L L;have a3:=L.size;have aS:=t.L L;refine O.cn aS ?_;have aT:=ak.refl ay;refine O.aY 25 ?_;refine dD.kl rfl rfl rfl rfl bh rfl rfl (yP w0 _ b) (fun a4 az aM=>?_);obtain⟨rfl,M⟩:=aM;replace c9:=c9.M M;replace E:=fun y i=>(E y i).M M;replace F:=F.M M;replace Q:=Q.M M;replace P:=fun y i=>(P y i).M M;replace C:=C.M M;replace bK:=fun y i=>(bK y i).M M;replace H:=H.M M;replace R:=R.M M;replace bf:=fun y i=>(bf y i).M M;replace A:=A.M M;replace aQ:=aQ.M M;replace B:=B.L M;have a5:=M.size;have aV:=aT.L M;refine O.cn aV ?_;have aX:=ak.refl az;refine O.aY 26 ?_;refine dD.call rfl rfl B5 rfl bh rfl rfl (CN a.q b.q a.cB b.cB a.el b.el w0 _ F.any H.any Q.any R.any (fun y hy=>(P y hy).any) (fun y hy=>(bf y hy).any) au) (fun a6 aB aN=>?_);obtain⟨rfl,T⟩:=aN;replace c9:=c9.M T;replace E:=fun y i=>(E y i).M T;replace C:=C.M T;replace bK:=fun y i=>(bK y i).M T;replace A:=A.M T;replace aQ:=aQ.M T;replace B:=B.L T;have a7:=T.size;have ai:=aX.L T;refine O.cn ai ?_;have ac:=ak.refl aB;refine O.t1 27 rfl (fun n j=>eh) ac ?_;refine O.W 28 rfl ac ?_;refine O.bj (d:=34) rfl (fun Z=>?_) (fun Z=>?_)
    ·
     refine O.bQ 29 rfl (fun n j=>Y.ai (A.N.M j) rfl ca rfl fS) bh ac ?_;refine O.bQ 30 rfl (fun n j=>ar ((A.N.drop 2).M j) ht) bh ac ?_;refine O.bQ 31 rfl (fun n j=>Y.ai (aQ.N.M j) rfl ca rfl fS) bh ac ?_;refine O.bQ 32 rfl (fun n j=>ar ((aQ.N.drop 2).M j) ht) bh ac ?_;refine O.aY 33 ?_;refine dD.call rfl rfl B6 rfl bh rfl rfl (Db _ _ _ a.bW b.bW w0 _ c9.any C.any (fun x y aa aA aY hy=>Ec w0 aa x y ((E x aY).any.M aA) ((bK y hy).any.M aA))) (fun a8 aD aO=>?_);obtain⟨rfl,am⟩:=aO;replace B:=B.L am;have a9:=am.size;have aj:=ac.L am;refine O.cn aj ?_;have ah:=ak.refl aD;refine O.t1 34 rfl (fun n j=>eh) ah ?_;refine O.t1 35 rfl (fun n j=>ev) ah ?_;refine cD ?_;have ag:=ah;refine ab ?_;refine G.ret (ae ?_);exact⟨by first|(exact congrArg Value.bool (decide_eq_decide.2 ⟨fun h=>⟨X,au,ap,h,Z⟩,fun h=>h.2.2.2.1⟩))|(rw[decide_eq_false (fun h:kg a b=>by first|exact absurd h.1 (by assumption)|exact absurd h.2.1 (by assumption)|exact absurd h.2.2.1 (by assumption)|exact absurd h.2.2.2.2 (by assumption))]),B⟩
    ·
     refine O.g1 29 rfl rfl rfl rfl ac ?_;refine O.g1 30 rfl rfl rfl rfl ac ?_;refine O.g1 31 rfl rfl rfl rfl ac ?_;refine O.g1 32 rfl rfl rfl rfl ac ?_;refine O.g1 33 rfl rfl rfl rfl ac ?_;refine O.t1 34 rfl (fun n j=>dI) ac ?_;refine O.t1 35 rfl (fun n j=>ev) ac ?_;refine cD ?_;have ag:=ac;refine ab ?_;refine G.ret (ae ?_);exact⟨by first|(exact congrArg Value.bool (decide_eq_decide.2 ⟨fun h=>⟨X,au,ap,h,Z⟩,fun h=>h.2.2.2.1⟩))|(rw[decide_eq_false (fun h:kg a b=>by first|exact absurd h.1 (by assumption)|exact absurd h.2.1 (by assumption)|exact absurd h.2.2.1 (by assumption)|exact absurd h.2.2.2.2 (by assumption))]),B⟩
   ·
    refine O.g1 20 rfl rfl rfl rfl t ?_;refine O.g1 21 rfl rfl rfl rfl t ?_;refine O.g1 22 rfl rfl rfl rfl t ?_;refine O.g1 23 rfl rfl rfl rfl t ?_;refine O.g1 24 rfl rfl rfl rfl t ?_;refine O.g1 25 rfl rfl rfl rfl t ?_;refine O.g1 26 rfl rfl rfl rfl t ?_;refine O.t1 27 rfl (fun n j=>dI) t ?_;refine O.W 28 rfl t ?_;refine O.g1 29 rfl rfl rfl rfl t ?_;refine O.g1 30 rfl rfl rfl rfl t ?_;refine O.g1 31 rfl rfl rfl rfl t ?_;refine O.g1 32 rfl rfl rfl rfl t ?_;refine O.g1 33 rfl rfl rfl rfl t ?_;refine O.t1 34 rfl (fun n j=>dI) t ?_;refine O.t1 35 rfl (fun n j=>ev) t ?_;refine cD ?_;have ag:=t;refine ab ?_;refine G.ret (ae ?_);exact⟨by first|(exact congrArg Value.bool (decide_eq_decide.2 ⟨fun h=>⟨X,au,ap,h,Z⟩,fun h=>h.2.2.2.1⟩))|(rw[decide_eq_false (fun h:kg a b=>by first|exact absurd h.1 (by assumption)|exact absurd h.2.1 (by assumption)|exact absurd h.2.2.1 (by assumption)|exact absurd h.2.2.2.2 (by assumption))]),B⟩
  ·
   refine O.g1 13 rfl rfl rfl rfl q ?_;refine O.g1 14 rfl rfl rfl rfl q ?_;refine O.g1 15 rfl rfl rfl rfl q ?_;refine O.g1 16 rfl rfl rfl rfl q ?_;refine O.g1 17 rfl rfl rfl rfl q ?_;refine O.t1 18 rfl (fun n j=>dI) q ?_;refine O.W 19 rfl q ?_;refine O.g1 20 rfl rfl rfl rfl q ?_;refine O.g1 21 rfl rfl rfl rfl q ?_;refine O.g1 22 rfl rfl rfl rfl q ?_;refine O.g1 23 rfl rfl rfl rfl q ?_;refine O.g1 24 rfl rfl rfl rfl q ?_;refine O.g1 25 rfl rfl rfl rfl q ?_;refine O.g1 26 rfl rfl rfl rfl q ?_;refine O.t1 27 rfl (fun n j=>dI) q ?_;refine O.W 28 rfl q ?_;refine O.g1 29 rfl rfl rfl rfl q ?_;refine O.g1 30 rfl rfl rfl rfl q ?_;refine O.g1 31 rfl rfl rfl rfl q ?_;refine O.g1 32 rfl rfl rfl rfl q ?_;refine O.g1 33 rfl rfl rfl rfl q ?_;refine O.t1 34 rfl (fun n j=>dI) q ?_;refine O.t1 35 rfl (fun n j=>ev) q ?_;refine cD ?_;have ag:=q;refine ab ?_;refine G.ret (ae ?_);exact⟨by first|(exact congrArg Value.bool (decide_eq_decide.2 ⟨fun h=>⟨X,au,ap,h,Z⟩,fun h=>h.2.2.2.1⟩))|(rw[decide_eq_false (fun h:kg a b=>by first|exact absurd h.1 (by assumption)|exact absurd h.2.1 (by assumption)|exact absurd h.2.2.1 (by assumption)|exact absurd h.2.2.2.2 (by assumption))]),B⟩
 ·
  refine O.g1 6 rfl rfl rfl rfl k ?_;refine O.g1 7 rfl rfl rfl rfl k ?_;refine O.g1 8 rfl rfl rfl rfl k ?_;refine O.g1 9 rfl rfl rfl rfl k ?_;refine O.g1 10 rfl rfl rfl rfl k ?_;refine O.t1 11 rfl (fun n j=>dI) k ?_;refine O.W 12 rfl k ?_;refine O.g1 13 rfl rfl rfl rfl k ?_;refine O.g1 14 rfl rfl rfl rfl k ?_;refine O.g1 15 rfl rfl rfl rfl k ?_;refine O.g1 16 rfl rfl rfl rfl k ?_;refine O.g1 17 rfl rfl rfl rfl k ?_;refine O.t1 18 rfl (fun n j=>dI) k ?_;refine O.W 19 rfl k ?_;refine O.g1 20 rfl rfl rfl rfl k ?_;refine O.g1 21 rfl rfl rfl rfl k ?_;refine O.g1 22 rfl rfl rfl rfl k ?_;refine O.g1 23 rfl rfl rfl rfl k ?_;refine O.g1 24 rfl rfl rfl rfl k ?_;refine O.g1 25 rfl rfl rfl rfl k ?_;refine O.g1 26 rfl rfl rfl rfl k ?_;refine O.t1 27 rfl (fun n j=>dI) k ?_;refine O.W 28 rfl k ?_;refine O.g1 29 rfl rfl rfl rfl k ?_;refine O.g1 30 rfl rfl rfl rfl k ?_;refine O.g1 31 rfl rfl rfl rfl k ?_;refine O.g1 32 rfl rfl rfl rfl k ?_;refine O.g1 33 rfl rfl rfl rfl k ?_;refine O.t1 34 rfl (fun n j=>dI) k ?_;refine O.t1 35 rfl (fun n j=>ev) k ?_;refine cD ?_;have ag:=k;refine ab ?_;refine G.ret (ae ?_);exact⟨by first|(exact congrArg Value.bool (decide_eq_decide.2 ⟨fun h=>⟨X,au,ap,h,Z⟩,fun h=>h.2.2.2.1⟩))|(rw[decide_eq_false (fun h:kg a b=>by first|exact absurd h.1 (by assumption)|exact absurd h.2.1 (by assumption)|exact absurd h.2.2.1 (by assumption)|exact absurd h.2.2.2.2 (by assumption))]),B⟩
end t_

namespace uc
open E Go.RowKit eJ eN eW e3 ey eX eY
def wO(j:Nat):cX:=⟨1::UInt8.ofNat j::List.replicate 30 0,by simp⟩
def H7(i:Nat):List UInt8:=[UInt8.ofNat (97+i%26)]
def FB(i:Nat):cX:=if i=0 then bz else wO (i-1)
def Er(i:Nat):cA:=⟨FB i,wO i,H7 i⟩
def mU(i:Nat):List cA:=hX ((List.range i).map Er)
theorem vz{s:dU}{t:b0}{e:Int}(d:eC t=0)(i:fr t=0)(U:ft s.b5 t.ml=e)(j:gj t=0)(k:ie s.gB t.el=0):eE s t=e:=by
 unfold eE;rw[d,i,U,j,k];by_cases he:e=0<;>simp[he]
end uc

namespace mu
open E Go.RowKit fz f_ gn gL gU hi hs hD hR lb lI iX iY
theorem D_{c m:Nat}{fs:List fX}{M st:dq}{dJ:List dL}{op:Nat}{p:aH}{w:dW}(aA:cv p=true)(d:(w.on (aG.dk ⟨c,m,fs,M,st,dJ,op+1,0,false⟩ p) w.d.length).length≤m)(U:iC fs M+(w.on (aG.dk ⟨c,m,fs,M,st,dJ,op+1,0,false⟩ p) w.d.length).length≤c+(aG.dk ⟨c,m,fs,M,st,dJ,op+1,0,false⟩ p).length):
 aG.lay ⟨c,m,fs,M,st,dJ,op,0,false⟩ p w=(0,aG.write ⟨c,m,fs,M,st,dJ,op+1,0,false⟩ p w):=by
 have aw:aG.begin ⟨c,m,fs,M,st,dJ,op,0,false⟩=(true,⟨c,m,fs,M,st,dJ,op+1,0,false⟩):=by simp[aG.begin]
 have he:=oS (D:=⟨c,m,fs,M,st,dJ,op+1,0,false⟩) aA (Nat.not_lt.2 d) (Nat.not_lt.2 U);rw[qv (by rw[aw]),aw];simp only[he,if_true]
theorem qN(b:List UInt8)(d:List UInt8):(⟨false,d⟩:dW).on b d.length=d:=by simp[dW.on]
theorem s3(b:List UInt8)(d:List UInt8):(⟨true,d⟩:dW).on b d.length=b++d:=by simp[dW.on]
end mu

namespace ni
open E Go.RowKit fz f_ gn gL gU hi hs hD hR lb lI iX iY mu
section
variable {H : Type} {enc : TypeId × Value → H} {P : Program} {ck : World} {base : Nat} {sp : Nat → Bool} {held : Bool}
open Go.ChangeShapes Go.WideShapes Go.ChangeAt Go.RowKit Go.Deep
end
theorem uF{D:aG}(h:D.dead=false)(U:D.left=0):D.begin=(true,{D with left:=D.left-1,ops:=D.ops+1}):=by
 unfold aG.begin;rw[if_neg (by rw[h];decide),if_neg (by omega)]
end ni

namespace og
open E Go.RowKit fz f_ gn gL gU hi hs hD hR lb lI iX iY mu ni
def oh(D E:aG):Prop:=E.cap=D.cap∧E.most=D.most∧E.ops=D.ops∧E.left=D.left∧E.dead=D.dead
theorem oh.rfl{D:aG}:oh D D:=⟨Eq.refl _,Eq.refl _,Eq.refl _,Eq.refl _,Eq.refl _⟩
theorem G7(D:aG)(p:aH)(w:dW):oh D (D.write p w):=by
 unfold aG.write aG.make
 cases aL D.now p with
 |some i=>exact oh.rfl
 |none=>exact oh.rfl
end og

namespace pG
open E Go.RowKit fz f_ gn gL gU hi hs hD hR lb lI iX iY mu ni og
theorem qf{fs:List fX}{i j:Nat}{x:fX}:b4 (fs.set i x) j=if j=i∧i<fs.length then x else b4 fs j:=by
 unfold b4;by_cases d:i<fs.length
 ·by_cases e:j=i
  ·rw[if_pos ⟨e,d⟩,e,List.getD_eq_getElem?_getD,List.getElem?_set_self d];rfl
  ·rw[if_neg (fun h=>e h.1),List.getD_eq_getElem?_getD,List.getElem?_set_ne (Ne.symm e),←List.getD_eq_getElem?_getD]
 ·rw[if_neg (fun h=>d h.2),List.set_eq_of_length_le (by omega)]
end pG

namespace rD
open E Go.RowKit fz f_ gn gL gU hi hs hD hR iX iY mu ni og pG ki kG lh lL mz nk om
theorem HL{a b:List UInt8}{f:UInt8→Bool}(h:∀x∈a,f x=true):(a++b).takeWhile f=a++b.takeWhile f:=by
 induction a with
 |nil=>rfl
 |cons x a ih=>rw[List.cons_append,List.takeWhile_cons,if_pos (h x List.mem_cons_self),ih (fun y hy=>h y (List.mem_cons_of_mem _ hy)),List.cons_append]
theorem DJ(p:aH):mQ (cC p)=mQ p:=by
 unfold mQ cC
 have h:((p++[46,110,101,119]).reverse.takeWhile (fun c=>decide (c≠47))).length=4+(p.reverse.takeWhile (fun c=>decide (c≠47))).length:=by
  rw[List.reverse_append,HL (by decide),List.length_append];rfl
 rw[h,List.length_append,List.length_cons,List.length_cons,List.length_cons,List.length_cons,List.length_nil];rw[List.take_append_of_le_length (by omega)];congr 1;omega
theorem CQ{p:aH}(h:cv p=true)(U:cv (cC p)=true):cp (cC p)=cp p:=by unfold cp;rw[if_pos h,if_pos U,DJ]
theorem AB(p:aH):blt p (cC p):=by
 unfold blt cC
 induction p with
 |nil=>decide
 |cons x p ih=>simp only[List.cons_append,Op.bytesLess];simpa using ih
theorem new_ne(p:aH):cC p≠p:=fun e=>by have:=congrArg List.length e;rw[o5]at this;omega
theorem xH(p:aH):¬cC p=[]:=by simp[cC]
structure One (cap most:Nat) (p:aH) (x:List UInt8) (D:aG):Prop where
 dead:D.dead=false
 left:D.left=0
 cap:D.cap=cap
 most:D.most=most
 M:∃i,D.now=[(p,i)]∧i<D.fs.length∧(b4 D.fs i).now=x
section
variable {cap most : Nat} {p : aH} {x : List UInt8} {D : aG}
theorem One.used(h:One cap most p x D):D.used=x.length:=by
 obtain⟨i,d,_,U⟩:=h.M;unfold aG.used iC;rw[d];simp[U]
theorem One.pw(h:One cap most p x D):D.dk p=x:=by
 obtain⟨i,d,_,U⟩:=h.M;unfold aG.dk;rw[d];simp[aL,U]
theorem One.begin(h:One cap most p x D):D.begin=(true,D.begin.2)∧One cap most p x D.begin.2:=by
 have e:=uF h.dead h.left;rw[e];exact⟨rfl,h.dead,by show D.left-1=0;rw[h.left],h.cap,h.most,h.M⟩
theorem One.lay(h:One cap most p x D)(aA:cv p=true)(w:dW):
 ((D.lay p w).1=5∧most<(w.on x w.d.length).length∧One cap most p x (D.lay p w).2)∨((D.lay p w).1=12∧cap<(w.on x w.d.length).length∧One cap most p x (D.lay p w).2)∨
 ((D.lay p w).1=0∧(w.on x w.d.length).length≤cap∧One cap most p (w.on x w.d.length) (D.lay p w).2):=by
 obtain⟨aw,d⟩:=h.begin;rw[qv (by rw[aw])];by_cases j:most<(w.on x w.d.length).length
 ·rw[ss aA (by rw[d.pw,d.most];exact j)]
  exact .inl ⟨rfl,j,d⟩
 by_cases n:cap<(w.on x w.d.length).length
 ·rw[qu aA (by rw[d.pw,d.most];exact j) (by rw[d.pw,d.cap,d.used];omega)]
  exact .inr (.inl ⟨rfl,n,d⟩)
 rw[oS aA (by rw[d.pw,d.most];exact j) (by rw[d.pw,d.cap,d.used];omega)];refine .inr (.inr ⟨rfl,by omega,?_⟩);simp only[if_true];obtain⟨s1,s2,t,q,r⟩:=G7 D.begin.2 p w;obtain⟨i,aK,k,o⟩:=d.M;have hm:aL D.begin.2.now p=some i:=by rw[aK];simp[aL]
 refine⟨by rw[r];exact d.dead,by rw[q];exact d.left,by rw[s1];exact d.cap,by rw[s2];exact d.most,i,?_⟩;unfold aG.write aG.make;rw[hm];refine⟨aK,by show i<(D.begin.2.fs.set i _).length;rw[List.length_set];exact k,?_⟩;show(b4 (D.begin.2.fs.set i _) i).now=_;rw[qf,if_pos ⟨rfl,k⟩,o]
theorem One.sync(h:One cap most p x D)(aA:cv p=true):(D.sync p).1=0∧One cap most p x (D.sync p).2:=by
 obtain⟨aw,d⟩:=h.begin;obtain⟨i,aK,j,k⟩:=d.M;have hm:aL D.begin.2.now p=some i:=by rw[aK];simp[aL]
 have n:D.begin.2.look p=0:=by unfold aG.look;rw[if_pos aA,hm];rfl
 rw[tH (by rw[aw]),n];refine⟨rfl,?_⟩;simp only[if_true];rw[hm];refine⟨d.dead,d.left,d.cap,d.most,i,aK,by show i<(D.begin.2.fs.set i _).length;rw[List.length_set];exact j,?_⟩;show(b4 (D.begin.2.fs.set i _) i).now=_;rw[qf,if_pos ⟨rfl,j⟩];exact k
structure kh (cap most:Nat) (p:aH) (x:List UInt8) (D:aG):Prop where
 dead:D.dead=false
 left:D.left=0
 cap:D.cap=cap
 most:D.most=most
 M:∃k,aL D.now (cC p)=some k∧k<D.fs.length∧(b4 D.fs k).now=x∧(dL.ap ⟨cC p,p,some k⟩ D.now)=[(p,k)]
theorem kh.begin(h:kh cap most p x D):D.begin=(true,D.begin.2)∧kh cap most p x D.begin.2:=by
 have e:=uF h.dead h.left;rw[e];exact⟨rfl,h.dead,by show D.left-1=0;rw[h.left],h.cap,h.most,h.M⟩
theorem kh.sync(h:kh cap most p x D)(aA:cv (cC p)=true):(D.sync (cC p)).1=0∧kh cap most p x (D.sync (cC p)).2:=by
 obtain⟨aw,d⟩:=h.begin;obtain⟨k,aK,i,j,n⟩:=d.M;have o:D.begin.2.look (cC p)=0:=by unfold aG.look;rw[if_pos aA,aK];rfl
 rw[tH (by rw[aw]),o];refine⟨rfl,?_⟩;simp only[if_true];rw[aK];refine⟨d.dead,d.left,d.cap,d.most,k,aK,by show k<(D.begin.2.fs.set k _).length;rw[List.length_set];exact i,?_,n⟩;show(b4 (D.begin.2.fs.set k _) k).now=_;rw[qf,if_pos ⟨rfl,i⟩];exact j
theorem kh.rename(h:kh cap most p x D)(bI:cv p=true)(i:cv (cC p)=true):(D.rename (cC p) p).1=0∧One cap most p x (D.rename (cC p) p).2:=by
 obtain⟨aw,d⟩:=h.begin;obtain⟨k,aK,j,n,o⟩:=d.M;have q:D.begin.2.j8 (cC p) p=0:=by rw[yf i bI (CQ bI i)];unfold aG.look;rw[if_pos i,aK];rfl
 rw[yg (by rw[aw]),q];refine⟨rfl,?_⟩;rw[if_pos ⟨rfl,new_ne p⟩,aK];exact⟨d.dead,d.left,d.cap,d.most,k,o,j,n⟩
theorem One.iu(h:One cap most p x D){d:aH}(al:ja d=0):(D.iu d).1=0∧One cap most p x (D.iu d).2:=by
 obtain⟨aw,i⟩:=h.begin;rw[yF (by rw[aw]),al];exact⟨rfl,i.dead,i.left,i.cap,i.most,i.M⟩
theorem wF{d:aG}{l:List Rec}(h:D.lay (cC p) ⟨false,cS l⟩=(0,d))(q:kh cap most p (cS l) d)(bI:cv p=true)(i:cv (cC p)=true)(al:ja (cp p)=0):(eF D p l).1=0∧One cap most p (cS l) (eF D p l).2:=by
 obtain⟨b2,a2⟩:=q.sync i;obtain⟨j,k⟩:=a2.rename bI i;obtain⟨n,o⟩:=k.iu al;unfold eF jd;simp only[c5,h,if_true,b2,j,n];exact⟨trivial,o⟩
theorem Du{l:List Rec}(h:(D.lay (cC p) ⟨false,cS l⟩).1≠0):eF D p l=D.lay (cC p) ⟨false,cS l⟩:=by
 unfold eF jd c5;rw[if_neg h]
theorem zE{q:aH}{k:Nat}{w:dW}(hm:aL D.now q=none):D.write q w=({D with fs:=(D.fs++[(⟨[],[],[]⟩:fX)]).set D.fs.length ⟨w.on [] w.d.length,[],[w]⟩,now:=hK D.now q D.fs.length,log:=D.log++[⟨[],q,some D.fs.length⟩]}:aG):=by
 unfold aG.write aG.make;rw[hm];simp only[aG.change,aG.fu,dL.ap,if_true];rw[show b4 (D.fs++[(⟨[],[],[]⟩:fX)]) D.fs.length=⟨[],[],[]⟩by simp[b4]];rfl
theorem One.fresh(h:One cap most p x D)(bI:cv p=true)(o:cv (cC p)=true)(al:ja (cp p)=0)(l:List Rec)(hm:(cS l).length≤most):
 ((eF D p l).1=12∧cap<x.length+(cS l).length∧One cap most p x (eF D p l).2)∨((eF D p l).1=0∧x.length+(cS l).length≤cap∧One cap most p (cS l) (eF D p l).2):=by
 obtain⟨aw,d⟩:=h.begin;obtain⟨i,aK,C,E⟩:=d.M;have q:aL D.begin.2.now (cC p)=none:=by rw[aK];simp[aL,new_ne]
 have hw:D.begin.2.dk (cC p)=[]:=by unfold aG.dk;rw[q]
 have n:((⟨false,cS l⟩:dW).on [] (cS l).length)=cS l:=qN _ _;have j:=qv (D:=D) (p:=cC p) (w:=⟨false,cS l⟩) (by rw[aw]);by_cases r:cap<x.length+(cS l).length
 ·rw[qu o (by rw[hw,d.most];simp only[n];omega) (by rw[hw,d.cap,d.used];simp only[n,List.length_nil];omega)]at j
  have B:(D.lay (cC p) ⟨false,cS l⟩).1≠0:=by rw[j];exact Nat.succ_ne_zero 11
  rw[Du B,j];exact .inl ⟨rfl,r,d⟩
 ·rw[oS o (by rw[hw,d.most];simp only[n];omega) (by rw[hw,d.cap,d.used];simp only[n,List.length_nil];omega)]at j
  simp only[if_true]at j;refine .inr ?_
  have A:kh cap most p (cS l) (D.begin.2.write (cC p) ⟨false,cS l⟩):=by
   rw[zE (k:=0) q];refine⟨d.dead,d.left,d.cap,d.most,D.begin.2.fs.length,?_,?_,?_,?_⟩
   ·show aL (hK _ _ _) _=_;rw[qD,if_pos rfl]
   ·simp
   ·show(b4 ((_:List fX).set _ _) _).now=_
    rw[qf,if_pos ⟨rfl,by simp⟩];exact n
   ·show dL.ap _ (hK D.begin.2.now _ _)=_
    have t:¬p=cC p:=fun e=>new_ne p e.symm;rw[aK];simp[dL.ap,hK,AB,d_,new_ne,mF,xH,t]
  have:=wF j A bI o al;exact⟨this.1,by omega,this.2⟩
theorem One.start(bI:cv p=true)(d:cv (cC p)=true)(al:ja (cp p)=0)(hm:8≤most)(av:8≤cap):(eQ (aG.empty cap most) p).1=0∧(eQ (aG.empty cap most) p).2.1=[]∧One cap most p (cS []) (eQ (aG.empty cap most) p).2.2:=by
 have n:(aG.empty cap most).fw p=2:=by simp[aG.fw,aG.empty,aG.look,bI,aL]
 have o:cS []=gz:=rfl
 have j:(aG.empty cap most).lay (cC p) ⟨false,cS []⟩=(0,aG.write ⟨cap,most,[],[],[],[],1,0,false⟩ (cC p) ⟨false,cS []⟩):=by
  unfold aG.empty;rw[D_ d (by simp only[qN];exact hm) (by simp only[qN];simp[iC,aG.dk,aL];exact av)]
 have i:kh cap most p (cS []) (aG.write ⟨cap,most,[],[],[],[],1,0,false⟩ (cC p) ⟨false,cS []⟩):=by
  rw[zE (k:=0) rfl];refine⟨rfl,rfl,rfl,rfl,0,?_,?_,?_,?_⟩
  ·show aL (hK _ _ _) _=_;rw[qD,if_pos rfl];rfl
  ·simp
  ·simp[b4,qN]
  ·simp[dL.ap,hK,d_,xH]
 have:=wF j i bI d al;rw[xU bI d n];exact⟨this.1,rfl,this.2⟩
theorem qU{f:h7}{fs:List h7}{D:aG}(h:(f D).1=0):c5 (f::fs) D=c5 fs (f D).2:=by rw[c5,if_pos h]
theorem yq{f:h7}{fs:List h7}{D:aG}(h:(f D).1≠0):c5 (f::fs) D=f D:=by rw[c5,if_neg h]
theorem One.Gc(h:One cap most p x D)(aA:cv p=true)(n:Nat)(r:Rec)(hm:x.length+13+r.length≤most):
 ((c5 (gV p n r) D).1=12∧(One cap most p x (c5 (gV p n r) D).2∨One cap most p (x++jf n r) (c5 (gV p n r) D).2)∧cap<x.length+13+r.length)∨((c5 (gV p n r) D).1=0∧One cap most p (x++kz n r) (c5 (gV p n r) D).2):=by
 have o:=oT n r;have j:∀b:List UInt8,(⟨true,[67]⟩:dW).on b 1=b++[67]:=fun b=>by simp[dW.on]
 unfold gV;rcases h.lay aA ⟨true,jf n r⟩with⟨_,e,_⟩|⟨aK,i,d⟩|⟨aK,i,d⟩
 ·simp only[s3,List.length_append]at e;omega
 ·simp only[s3,List.length_append]at i
  rw[yq (by rw[aK];decide)];exact .inl ⟨aK,.inl d,by omega⟩
 ·simp only[s3,List.length_append]at d i
  obtain⟨f1,f2⟩:=d.sync aA;rw[qU aK,qU f1];rcases f2.lay aA ⟨true,[67]⟩with⟨_,e,_⟩|⟨g1,g2,g3⟩|⟨g1,g2,g3⟩
  ·simp only[List.length_singleton,j,List.length_append]at e;omega
  ·simp only[List.length_singleton,j,List.length_append]at g2
   rw[yq (by rw[g1];decide)];exact .inl ⟨g1,.inr g3,by omega⟩
  ·simp only[List.length_singleton,j]at g3
   obtain⟨k,a8⟩:=g3.sync aA;rw[qU g1,qU k];refine .inr ⟨rfl,?_⟩;unfold kz;rw[←List.append_assoc];exact a8
end
end rD

namespace ud
open E Go.RowKit fz f_ gn gL gU hi hs hD hR iX iY mu ni og pG ki kG lh lL mz nk om rD
theorem FG{cap most:Nat}{p:aH}{l:List Rec}{r:Rec}{D:aG}(h:One cap most p (cS l) D)(bI:cv p=true)(hm:(cS l).length+13+r.length≤most)(av:(cS l).length+13+r.length≤cap):(e8 D p l.length false r).1=0∧(e8 D p l.length false r).2.1=l.length+1∧(e8 D p l.length false r).2.2.1=false∧One cap most p (cS (l++[r])) (e8 D p l.length false r).2.2.2:=by
 rw[uu (x6 rfl)];rcases h.Gc bI l.length r hm with⟨_,_,i⟩|⟨d,U⟩
 ·omega
 ·simp only[d,if_true]
  refine⟨trivial,trivial,trivial,?_⟩;rw[r7];exact U
end ud

namespace tX
open E Go.RowKit fz f_ gn gL gU hi hs hD hR iX iY mu ni og pG ki kG lh lL mz nk om rD ud ey eX eY fF fG fO fY gg gx gy pC uc dz
set_option maxRecDepth 100000 in
theorem qq:c6 Tryz.prog 24 52 66 96:=⟨Tryz.underlying24,_,_,rfl,rfl,rfl,rfl,rfl⟩
def mR:cX:=⟨7::List.replicate 31 0,by simp⟩
def j0:bF:=⟨[109,97,105,110],bz,mR,[99,111,109,109,105,116]⟩
def fM(s:aM):b0:=⟨false,[],s,[j0],false,hN,cO,[]⟩
theorem nJ(s:aM):eC (fM s)=0∧fr (fM s)=0∧gj (fM s)=0:=⟨by unfold eC;simp[fM],by unfold fr;simp[fM],by unfold gj;simp[fM]⟩
theorem sq(s:aM):eE jr (fM s)=0:=vz (nJ s).1 (nJ s).2.1 (by show ft [] [j0]=0;decide+kernel) (nJ s).2.2 (by show ie [] []=0;decide)
theorem D5(s:aM):eE (jr.ap (fM s)) (fM s)=21:=vz (nJ s).1 (nJ s).2.1 (by show ft ([j0].foldl dK []) [j0]=21;decide+kernel) (nJ s).2.2 (by show ie [] []=0;decide)
theorem wY(s:aM):jr.ap (fM s)=⟨[],[([109,97,105,110],mR)],[([109,97,105,110],[⟨bz,mR,[99,111,109,109,105,116]⟩])],hN,[]⟩:=by
 have h:¬mR=bz:=by intro h;have d:=congrArg (fun z:cX=>z.1.getD 0 0) h;simp only[mR,bz,List.getD_cons_zero]at d;revert d;decide
 unfold dU.ap fM;simp[dK,hl,j0,h,gA,dZ,jr,aL,hX]
theorem vV{t:b0}(d:t.bE=false)(U:t.ao=false):(fi t).length=5+(t.ml.flatMap iN).length+(t.el.flatMap iL).length:=by
 unfold fi;rw[d,U];simp only[List.length_append,dR,Bool.false_eq_true,if_false,List.length_nil];omega
theorem HR{t:b0}(j:t.bE=false)(U:t.ao=false)(d:t.q=hN)(k:t.al=[])(n:t.ml.length≤65535)(o:t.el.length≤65535)(i:∀m∈t.ml,m.y.length≤65535∧m.n.length≤140737488355328)(q:(t.ml.flatMap iN).length+(t.el.flatMap iL).length≤1048571):lf t:=
 ⟨n,o,fun m hm=>(i m hm).1,fun m hm=>(i m hm).2,by rw[k];simp,by rw[d];simp[hN],by rw[d];simp[hN],by rw[vV j U];omega⟩
theorem y2(s:aM):lf (fM s):=HR rfl rfl rfl rfl (Nat.le_of_ble_eq_true rfl) (Nat.le_of_ble_eq_true rfl) (fun m hm=>by rw[List.mem_singleton.1 hm];decide) (by simp only[fM,List.flatMap_cons,List.flatMap_nil,List.append_nil,nQ,j0,List.length_cons,List.length_nil];decide)
theorem Gy{l:List cw}{x:aH×cX}(h:bN l=[x]):l.length=1:=by have:=congrArg List.length h;simpa[bN]using this
theorem En{l:List e5}{n:aH}{k:List cA}(h:cm l=[(n,k)]):∃y:e5,l=[y]∧y.n=n∧y.l=k:=by
 match l,h with
 |[y],h=>
  simp only[cm,List.map_cons,List.map_nil,List.cons.injEq,Prod.mk.injEq,and_true]at h;exact⟨y,rfl,h.1,h.2⟩
theorem y_{F:Nat→Prop}{H:Heap}{s:aM}(h:Rd F H dt 66 s.v [j0]):e6 F H (fM s):=⟨h,Rd.nil _ _ _ _,Rd.nil _ _ _ _,fun y hy=>by cases hy⟩
set_option maxHeartbeats 1600000 in
theorem D6(bk:Int)(w0:World)(I:Heap)
 (aN:dV bk I) (K:bg (fun b=>b=0) I.size):
 aC Tryz.prog w0 11 #[] I (fun r bR=>r= .bool true∧ak I bR):=by
 refine aC.aK [] Tryz.func11 ?_;intro dc c2;have d:ak I I:=V.refl _ _;refine G.L (fun b4=>?_);refine o.aj ?_;refine b4 (G.L (fun b5=>?_));refine aV AX (sU 65536 65536 w0 _ (by decide) (by decide)) (fun dp dq b6=>?_);obtain⟨bv,b7,aO,rfl,i,bH,aQ⟩:=b6;have a0:=az.hk (az.nil) (K.mono d.size) bH;have bu:aZ [] I.size bv:=aZ.L (aZ.refl [] _) bH d.size;replace aN:=aN.M aQ;replace d:=d.L aQ;have dr:=aQ.size;have aP:=i.aB;have bC:=bP.empty 65536 65536;have a7:=One.start (p:=fc) (cap:=65536) (most:=65536) (by decide) (by decide) (by decide) (by decide) (by decide);refine o.W ?_;refine o.v1 cN ?_;refine o.v1 cN ?_;refine o.aR 2 ?_;refine b5 (G.t1 (fun b_=>G.L (fun cb=>?_)));refine o.W ?_;refine o.v1 (Y.peq rfl (by kernel_rfl) (by kernel_rfl) rfl rfl) (o.nil (cb ?_));refine dB ?_;refine G.skip (b_ (G.L (fun cc=>?_)));refine o.W ?_;refine aV Ba (FH bk bv b7 aO (aG.empty 65536 65536) _ w0 _ i aN (K.mono (by omega)) (a0) bC (by omega) a7.1 a7.2.1) (fun dv Z cd=>?_);obtain⟨x,B,N,cf,rfl,i,bp,q,bq,cO,A,bG,cT,bA,aR⟩:=cd;have a2:=az.hk (a0) (K.mono d.size) bp;have bw:aZ [] I.size N:=aZ.L (bu) bp d.size;have a3:=ay.app (ay.z) (K.mono d.size) bq;have bx:T 0 I.size (B+1):=T.L (T.refl 0 _) bq d.size;have a4:=ay.app (ay.z) (K.mono d.size) bG;have a8:T 0 I.size (x+1):=T.L (T.refl 0 _) bG d.size;replace aN:=aN.ab aR (a0);replace d:=d.bl aR (ag.sZ (bu));have dw:=aR.size;have aP:=i.aB;have de:=q.le;have dg:=A.le;obtain⟨M,cW,cZ,bD⟩:∃M,(eQ (aG.empty 65536 65536) fc).2.2=M∧One 65536 65536 fc (cS []) M∧bP _ M:=⟨_,rfl,a7.2.2,AH bC fc⟩;rw[cW]at i;refine o.W ?_;refine o.v1 cN ?_;refine o.v1 cN ?_;refine o.aR 2 ?_;refine cc (G.t1 (fun cj=>G.L (fun cl=>?_)));refine o.W ?_;refine o.v1 ((c1).fC ((fun h=>h rfl))) ?_;refine o.ax 2 ?_;refine o.an (Y.peq rfl (by kernel_rfl) (by kernel_rfl) rfl rfl) ?_;refine o.dF ?_;refine o.nil (cl ?_);refine dB ?_;refine G.skip (cj (G.L (fun cn=>?_)));refine o.v1 (Y.build (v:=bs mR) rfl rfl (by intro w;kernel_rfl)) ?_;refine o.v1 (Y.build (v:= .agg (dt j0).toArray) rfl rfl (by intro w;kernel_rfl)) ?_;refine o.aO (cU _ ([j0]) qq e0 kO (rfl)) fun bt P cp=>?_;obtain⟨C,aa,dA,a5⟩:=cp;have dz:P.size=Z.size+1:=by rw[a5];simp
 have aD:ah (Z.size+1) N:=ah.hn i.aB;have aF:af (B+1) (Z.size+1):=af.new q.le;have aH:af (x+1) (Z.size+1):=af.new A.le;replace aN:=aN.M aa;replace i:=i.M aa;replace q:=q.M aa;replace A:=A.M aa;replace d:=d.L aa;have dF:=aa.size;obtain⟨ac,rfl⟩:∃s:aM,bt=s.v:=⟨cg bt,C.bm.symm⟩;refine o.v1 (Y.build (v:=eg (fM ac)) rfl rfl (by intro w;kernel_rfl)) ?_;refine o.aO (cQ n9) ?_;rintro v5 bU ⟨rfl,aB,S,dG,cq⟩;have dD:bU.size=P.size+1:=by rw[cq];simp
 have bX:=(ay.new (K.mono d.size):ay _ (P.size+1));have aI:ah (P.size+1) N:=ah.hn i.aB;have aJ:af (B+1) (P.size+1):=af.new q.le;have aK:af (x+1) (P.size+1):=af.new A.le;have bY:af (Z.size+1) (P.size+1):=af.new C.le;have bZ:T 0 I.size (P.size+1):=T.new d.size;replace aN:=aN.M S;replace i:=i.M S;replace q:=q.M S;replace A:=A.M S;replace C:=C.M S;replace d:=d.L S;have dH:=S.size;refine o.s1 (dy aB (_) (df (fM ac)) (mN _) fk (dY _) ((c0 (dY _).symm))) fun X a9=>?_;obtain⟨aB,H⟩:=a9;replace H:=H.bp;replace aN:=aN.ab H (az.J bX);replace i:=i.ab H (ew.cons aI ew.nil);replace q:=q.ab H (ah.J aJ);replace A:=A.ab H (ah.J aK);replace C:=C.ab H (ah.J bY);replace d:=d.bl H (ag.J (aq.q bZ));have dI:=H.size;refine o.nil (cn (G.t1 (fun cr=>?_)));refine dC (fun F=>V (aE (N++[(B+1),(x+1)])) X F) [] ?_;have j:V (aE (N++[(B+1),(x+1)])) X X:=V.refl _ _;have a_:=aZ.refl N X.size;have bb:=T.refl (B+1) X.size;have bc:=T.refl (x+1) X.size;have a1:=vV (t:=fM ac) rfl rfl;have dT:(fi (fM ac)).length≤100:=by rw[a1];simp[fM,nQ,j0]
 have aA:=FG cZ (l:=[]) (r:=fi (fM ac)) (by decide) (by rw[a1];simp[fM,nQ,j0,cS,eZ,gz]) (by rw[a1];simp[fM,nQ,j0,cS,eZ,gz]);rw[List.length_nil]at aA;refine O.W 0 rfl j ?_;refine O.t1 1 rfl (fun F L=>Y.nM (aB.ab L (ah.app aI (ah.cons aJ.symm (ah.J aK.symm)))).N rfl gM fk (dY _) rfl) j ?_;refine O.W 3 rfl j ?_;refine O.t1 4 rfl (fun F L=>Y.nM (aB.ab L (ah.app aI (ah.cons aJ.symm (ah.J aK.symm)))).N rfl gM fk (dY _) rfl) j ?_;refine O.aY 2 ?_;refine ch u2 (vL bk N cf aO M _ B x 0 false mj (fM ac) _ _ w0 _ i aN (K.mono (by omega)) (a2) q (cO) (a3) A (cT) (bA) (a4) (fun _=>zK) (fun b (h:False)=>h.elim) (fun k R b (h:False)=>h.elim) (fun b (h:False)=>h.elim) (fun b (h:False)=>h.elim) (y_ C.rd) (bg.of C.le) (az.of (aD)) (ay.of (aF.symm)) (ay.of (aH.symm)) rl (y2 ac) bD (by omega) (by omega)) (fun dJ W ct=>?_);have b1:=C.le;obtain⟨Q,cu,aS,ce,rfl,i,an,q,cP,A,cV,da,am,c5,c6,c_,ai,ae⟩:=ct;have cB:=az.hk (a2) (K.mono d.size) an;have cC:ah (Z.size+1) Q:=ah.hk (aD) b1 an;have bT:aZ [] I.size Q:=aZ.L (bw) an d.size;have be:aZ N X.size Q:=aZ.L (a_) an j.size;replace aN:=aN.ab ae (az.app a2 (az.cons a3 (az.J a4)));replace C:=C.ab ae (ah.app aD (ah.cons aF.symm (ah.J aH.symm)));replace d:=d.bl ae (ag.app (ag.sZ (bw)) (ag.cons (aq.q bx) (ag.J (aq.q a8))));replace j:=j.aJ ae (ag.app (ag.cF (a_) (by intro k R;simp[R])) (ag.cons (aq.r bb) (ag.J (aq.r bc))));have dK:=ae.size;have aP:=i.aB;have cE:=c5;have cG:=c6;have bi:=c_;have bE:=vK (D:=M) (n:=0) (br:=false) (sq ac) aA.1;rw[zJ]at i q ai;rw[bE]at i q ai;rw[aA.2.1,aA.2.2.1]at q;have cY:=AG bD fc 0 false (fi (fM ac));have bN:eE aS.m (fM ac)=21:=by rw[ai];exact D5 ac
 refine⟨.inr j,O.narrow (SH2:=fun F=>V (aE (Q++[(B+1),(x+1)])) W F) (fun F L=>j.aJ L (ag.app (ag.cF (be) (by intro k R;simp[R])) (ag.cons (aq.r bb) (ag.J (aq.r bc))))) ?_⟩;have j:V (aE (Q++[(B+1),(x+1)])) W W:=V.refl _ _;have bd:=aZ.refl Q W.size;have bf:=T.refl (B+1) W.size;have bj:=T.refl (x+1) W.size;refine O.aY 5 ?_;refine ch u2 (vL bk Q cu aO (e8 M fc 0 false (fi (fM ac))).2.2.2 _ B x (0+1) false aS (fM ac) _ _ w0 _ i aN (K.mono (by omega)) (cB) q (cP) (a3) A (cV) (bA) (a4) da (am.mono (by omega)) (cE) (cG) (bi) (y_ C.rd) (bg.of C.le) (az.of (cC)) (ay.of (aF.symm)) (ay.of (aH.symm)) (by rw[ai];exact rl.ap (sq ac)) (y2 ac) cY (by omega) (by omega)) (fun dL aT cv=>?_);obtain⟨aW,dX,cw,ci,rfl,i,b0,q,dR,A,dS,db,b2,ec,ed,ee,bM,aL⟩:=cv;have cH:aZ Q W.size aW:=aZ.L (bd) b0 j.size;replace d:=d.bl aL (ag.app (ag.sZ (bT)) (ag.cons (aq.q bx) (ag.J (aq.q a8))));replace j:=j.aJ aL (ag.app (ag.cF (bd) (by intro k R;simp[R])) (ag.cons (aq.r bf) (ag.J (aq.r bj))));have dM:=aL.size;have aP:=i.aB;have bF:=do_1 (D:=(e8 M fc 0 false (fi (fM ac))).2.2.2) (n:=0+1) (br:=false) (t:=fM ac) (m:=aS.m) (by rw[bN];decide);rw[bF]at i q bM;obtain⟨hm,d_⟩:∃hm,hm=bM.trans (ai.trans (wY ac)):=⟨_,rfl⟩;refine⟨.inr j,O.narrow (SH2:=fun F=>V (aE (aW++[(B+1),(x+1)])) aT F) (fun F L=>j.aJ L (ag.app (ag.cF (cH) (by intro k R;simp[R])) (ag.cons (aq.r bf) (ag.J (aq.r bj))))) ?_⟩;have j:V (aE (aW++[(B+1),(x+1)])) aT aT:=V.refl _ _;refine O.t1 6 rfl (fun F L=>ev) j ?_;refine O.t1 7 rfl (fun F L=>ev) j ?_;refine cD ?_;refine cr (G.L (fun cI=>?_));refine o.W ?_;refine aV Bh (Hq B x cw _ w0 _ A (db ()) (b2.mono (by omega)) (by rw[hm];exact(wY ac)▸rl.ap (sq ac))) (fun dN aX cy=>?_);obtain⟨aj,rfl,E,a6,bl⟩:=cy;replace d:=d.L bl;have dO:=bl.size;replace E:=E.bt;have b3:=E.bY;rw[hm]at a6;have ea:=Gy (congrArg dU.b5 a6);obtain⟨y,bQ,eb,c3⟩:=En (congrArg dU.dJ a6);have dW:aj.bW.length=1:=by rw[bQ];rfl
 have bJ:aj.bW[0].l=[⟨bz,mR,[99,111,109,109,105,116]⟩]:=by simp only[bQ];exact c3
 have dZ:aj.bW[0].l.length=1:=by rw[bJ];rfl
 refine o.aO (cQ jq) ?_;rintro ef bV ⟨rfl,au,aY,dP,cz⟩;have dE:bV.size=aX.size+1:=by rw[cz];simp
 have cJ:=(ay.new (b3.mono (by omega)):ay _ (aX.size+1));have cK:T 0 I.size (aX.size+1):=T.new d.size;replace E:=E.M aY;replace d:=d.L aY;have dQ:=aY.size;refine o.s1 (dy au (_) (bS aj) (iG _) dx (b8 _) ((c0 (b8 _).symm))) fun dh cL=>?_;obtain⟨au,ab⟩:=cL;replace ab:=ab.bp;replace E:=E.ab ab (az.J cJ);replace d:=d.bl ab (ag.J (aq.q cK));have di:=ab.size;refine o.nil (cI (G.L (fun cM=>?_)));refine o.W ?_;refine o.v1 ((b9).gq (by rw[zJ,bE])) ?_;refine o.ax 2 ?_;refine o.an ((b9).gq (by rw[bF];exact bN)) ?_;refine o.ax 2 ?_;refine o.an (Y.ai au.N rfl ca rfl hb) ?_;refine o.an (ar (au.N.drop 1) iw) ?_;refine o.an (ba E.r gI) ?_;refine o.an ((b9).gq (by omega)) ?_;refine o.ax 2 ?_;refine o.an (Y.ai au.N rfl ca rfl fS) ?_;refine o.an (ar (au.N.drop 2) ht) ?_;refine o.an (ba E.g fD) ?_;refine o.an ((b9).gq (by omega)) ?_;refine o.ax 2 ?_;refine o.an (Y.ai au.N rfl ca rfl fS) ?_;refine o.an (ar (au.N.drop 2) ht) ?_;refine o.e (g:=fun ad=> .pointer (some ad)) (Y.mS E.g (0) rfl fD fl rfl rfl (by first|rfl|omega) (by omega)) bh rfl rfl (fun dj bm=>?_);refine o.an (Y.ai bm.N rfl fW rfl gR) ?_;refine o.an (ar (bm.N.drop 1) h9) ?_;refine o.an (ba (E.n _ (List.getElem_mem _)) hM) ?_;refine o.an ((b9).gq (by omega)) ?_;refine o.ax 2 ?_;refine o.an (Y.ai au.N rfl ca rfl fS) ?_;refine o.an (ar (au.N.drop 2) ht) ?_;refine o.e (g:=fun ad=> .pointer (some ad)) (Y.mS E.g (0) rfl fD fl rfl rfl (by first|rfl|omega) (by omega)) bh rfl rfl (fun dk bn=>?_);refine o.an (Y.ai bn.N rfl fW rfl gR) ?_;refine o.an (ar (bn.N.drop 1) h9) ?_;refine o.e (g:=fun ad=> .pointer (some ad)) (Y.mS (E.n _ (List.getElem_mem _)) (0) rfl hM j9 rfl rfl (by first|rfl|omega) (by omega)) bh rfl rfl (fun dm bo=>?_);refine o.an (Y.ai bo.N rfl HT rfl bO) ?_;refine o.an (ar bo.N.Ep bL) ?_;refine o.an ((Y.jB rfl rfl rfl).gq (by simp only[bJ];rfl)) ?_;refine o.aR 2 ?_;refine cM ?_;refine G.ret (c2 ?_);exact⟨rfl,d⟩
end tX

namespace E
open Go.ChangeShapes Go.WideShapes Go.ChangeAt Go.RowKit Go.Deep
section
variable {H : Type} {enc : TypeId × Value → H} {P : Program} {ck : World} {base : Nat} {sp : Nat → Bool} {held : Bool}
def lM(P:Program)(t:TypeId)(d:DataW H):Prop:=∀n∈d.weights P t,n≤reachBytes
theorem lM.of{i:List TypeId}{ds:List (DataW H)}{j:Nat}{t:TypeId}{d:DataW H}(h:(DataW.weightsEach P i ds).all (·≤reachBytes)=true)(k:i[j]?=some t)(al:ds[j]?=some d):lM P t d:=fun n aA=>by
 have:=List.all_eq_true.1 h _ (DataW.weights_mem_each k al n aA)
 simpa using this
theorem yM{t e:TypeId}{n:Nat}{u:Value}{y:DataW H}{eR:List MemPlace}(he:P.underlying t=some (.slice e))(hy:DataW.trod enc P ck base sp held n t [u]=some (y,eR)):∃s:aM,u=s.v:=by
 rcases open_slice he hy with⟨d,_⟩|⟨a,len,cap,_,_,_,_,d,_⟩
 ·simp only[List.cons.injEq,and_true]at d;exact⟨⟨none,0,0⟩,d⟩
 ·simp only[List.cons.injEq,and_true]at d;exact⟨⟨some a,len,cap⟩,d⟩
theorem F_{n m:Nat}{t e:TypeId}{cs:List Value}{y:DataW H}{eR:List MemPlace}(x:P.underlying t=some (.array n e))(he:P.underlying e=some (.int .u8))(av:P.cellsOf e=1)(C:cs.length=n)(h:DataW.trod enc P ck base sp held m t cs=some (y,eR)):
 ∃l:List UInt8,cs=l.map (fun b=>Value.int .u8 b.toNat)∧l.length=n:=by
 obtain⟨xs,m,_,ex,hlen,B,q⟩:=DataW.trod_array x h
 have:∀i,i<n→∃b:UInt8,cs[i]?=some (.int .u8 b.toNat):=by
  intro i d;have k:=q i d;rw[av,Nat.mul_one,List.getElem?_eq_getElem (by omega)]at k;obtain⟨z,aK,A,hw⟩:=DataW.trod_int he k;obtain⟨b,rfl⟩:=zm hw;refine⟨b,?_⟩;have o:((cs.drop i).take 1)[0]?=some (.int .u8 b.toNat):=by rw[aK];rfl
  simpa using o
 obtain⟨l,j,r⟩:=w5 this;refine⟨l,?_,j⟩;apply List.ext_getElem?;intro i;by_cases d:i<n
 ·rw[r i l[i] (by simp[j,d])];simp[j,d]
 ·rw[List.getElem?_eq_none (by omega),List.getElem?_eq_none (by simp;omega)]
end
end E

namespace ub
open E Go.RowKit eJ eN eW e3 ey eX eY nh rA dz
section
variable {H : Type} {enc : TypeId × Value → H} {P : Program} {ck : World} {base : Nat} {sp : Nat → Bool} {held : Bool}
open Go.ChangeShapes Go.WideShapes Go.ChangeAt Go.RowKit Go.Deep
theorem Dt{fs:Array Field}{l:List (TypeId×Nat)}(i:fs.toList.map (fun f=>(f.type,f.offset))=l){j:Nat}{t:TypeId}{J:Nat}(h:l[j]?=some (t,J)):∃f,fs[j]?=some f∧f.type=t∧f.offset=J:=by
 rw[←i,List.getElem?_map]at h;obtain⟨f,d,U⟩:=Option.map_eq_some_iff.1 h;simp only[Prod.mk.injEq]at U;exact⟨f,by simpa using d,U.1,U.2⟩
theorem uR{d:DataW H}:∀{ds:List (DataW H)},d∈ds→Rows.uptoBulk d≤Rows.uptoBulkAll ds
 |x::ds,h=>by
  simp only[Rows.uptoBulkAll];rcases List.mem_cons.1 h with rfl|h
  ·omega
  ·have:=uR h;omega
theorem parts{fs:Array Field}{k:List (TypeId×Nat)}{t:TypeId}{n:Nat}{cs:List Value}{y:DataW H}{eR:List MemPlace}(E:P.underlying t=some (.struct fs))(B:fs.toList.map (fun f=>(f.type,f.offset))=k)(h:DataW.trod enc P ck base sp held n t cs=some (y,eR)){j:Nat}{ty:TypeId}{J c:Nat}(C:k[j]?=some (ty,J))(av:P.cellsOf ty=c):
 ∃z q m,DataW.trod enc P ck base sp held m ty ((cs.drop J).take c)=some (z,q)∧Rows.uptoBulk z+1≤Rows.uptoBulk y:=by
 obtain⟨xs,m,_,o,F,hlen,A⟩:=DataW.trod_struct E h;obtain⟨f,x,rfl,rfl⟩:=Dt B C;have i:=A j f x;rw[av]at i;have r:j<xs.length:=by rw[hlen];exact(Array.getElem?_eq_some_iff.1 x).1
 rw[List.getElem?_eq_getElem r]at i;simp only[Prod.mk.injEq]at o;refine⟨xs[j].1,xs[j].2,m,i,?_⟩;rw[o.1];simp only[Rows.uptoBulk];have:=uR (ds:=xs.map (·.1)) (d:=xs[j].1) (List.mem_map.2 ⟨xs[j],List.getElem_mem r,rfl⟩);omega
theorem im{cs:List Value}(a n b:Nat)(aw:b=a+n):cs.drop a=(cs.drop a).take n++cs.drop b:=by
 subst aw
 conv=>lhs;rw[←List.take_append_drop n (cs.drop a),List.drop_drop]
theorem pf{cs:List Value}(a n:Nat)(h:cs.length=a+n):cs.drop a=(cs.drop a).take n:=(List.take_of_length_le (by simp;omega)).symm
theorem qQ{t:TypeId}{m:Nat}{c:List Value}{z:DataW H}{q:List MemPlace}(u:P.underlying t=some .string)(h:DataW.trod enc P ck base sp held m t c=some (z,q)):∃s:List UInt8,c=[aI s]∧s.length+1≤Rows.uptoBulk z:=by
 obtain⟨s,e,ex,_⟩:=DataW.trod_string u h;simp only[Prod.mk.injEq]at ex;exact⟨s.data.toList,e,by rw[ex.1];simp[Rows.uptoBulk]⟩
theorem nX{t u8:TypeId}{m:Nat}{c:List Value}{z:DataW H}{q:List MemPlace}(u:P.underlying t=some (.array 32 u8))(hu:P.underlying u8=some (.int .u8))(bo:P.cellsOf u8=1)(j:c.length=32)(h:DataW.trod enc P ck base sp held m t c=some (z,q)):∃i:cX,c=b7 i:=by
 obtain⟨k,e,d⟩:=F_ u hu bo j h;exact⟨⟨k,d⟩,e⟩
theorem s7{α:Type}(f:α→List Value)(sz:Nat)(B:α→Nat)(Φ:α→Prop){t e:TypeId}{m:Nat}{c:List Value}{z:DataW H}{q:List MemPlace}(u:P.underlying t=some (.slice e))(av:P.cellsOf e=sz)(k:∀x,(f x).length=sz)(r:0<sz)
 (elem:∀n d y eR,DataW.trod enc P ck base sp held n e d=some (y,eR)→d.length=sz→∃x,d=f x∧Φ x∧B x≤Rows.uptoBulk y) (o:c.length=1) (h:DataW.trod enc P ck base sp held m t c=some (z,q)):
 ∃(s:aM) (l:List α),c=[s.v]∧bw ck.heap f sz s.v l∧(∀x∈l,Φ x)∧(l.map B).sum+1≤Rows.uptoBulk z:=by
 obtain⟨v,rfl⟩:=List.length_eq_one_iff.1 o;obtain⟨s,rfl⟩:=yM u h;obtain⟨l,i,U,j⟩:=pc f sz B Φ (v:=s.v) rfl u av k r elem ⟨m,h⟩;exact⟨s,l,rfl,i,U,j⟩
end
section
variable {H : Type} {enc : TypeId × Value → H} {ck : World} {base : Nat} {sp : Nat → Bool} {held : Bool}
def qF(m:bF):Nat:=max m.n.length m.y.length
theorem C0(n:Nat)(cs:List Value)(y:DataW H)(eR:List MemPlace)(h:DataW.trod enc Tryz.prog ck base sp held n 52 cs=some (y,eR))(G:cs.length=66):∃x:bF,cs=dt x∧True∧qF x≤Rows.uptoBulk y:=by
 have ao:Tryz.prog.underlying 52=some (.struct (Tryz.prog.fieldsOf 52)):=by kernel_rfl
 have d:(Tryz.prog.fieldsOf 52).toList.map (fun f=>(f.type,f.offset))=[(9,0),(26,1),(26,33),(9,65)]:=by kernel_rfl
 obtain⟨z0,M,I,q,B⟩:=parts ao d h (j:=0) (c:=1) rfl (by kernel_rfl);obtain⟨aO,N,W,r,C⟩:=parts ao d h (j:=1) (c:=32) rfl (by kernel_rfl);obtain⟨z2,O,K,t,E⟩:=parts ao d h (j:=2) (c:=32) rfl (by kernel_rfl);obtain⟨z3,P,L,A,F⟩:=parts ao d h (j:=3) (c:=1) rfl (by kernel_rfl);obtain⟨s,i,w0⟩:=qQ Tryz.underlying9 q;obtain⟨J,aK⟩:=nX Tryz.underlying26 Tryz.underlying5 (by kernel_rfl) (by simp;omega) r;obtain⟨w,k⟩:=nX Tryz.underlying26 Tryz.underlying5 (by kernel_rfl) (by simp;omega) t;obtain⟨x,o,Q⟩:=qQ Tryz.underlying9 A;refine⟨⟨s,J,w,x⟩,?_,trivial,Nat.max_le.2 ⟨by simp only;omega,by simp only;omega⟩⟩;show cs.drop 0=_;rw[im 0 1 1 rfl,im 1 32 33 rfl,im 33 32 65 rfl,pf 65 1 (by omega),i,aK,k,o];rfl
theorem C2(n:Nat)(cs:List Value)(y:DataW H)(eR:List MemPlace)(h:DataW.trod enc Tryz.prog ck base sp held n 129 cs=some (y,eR))(A:cs.length=33):∃x:fA,cs=c4 x∧True∧0≤Rows.uptoBulk y:=by
 have ao:Tryz.prog.underlying 129=some (.struct (Tryz.prog.fieldsOf 129)):=by kernel_rfl
 have d:(Tryz.prog.fieldsOf 129).toList.map (fun f=>(f.type,f.offset))=[(3,0),(26,1)]:=by kernel_rfl
 obtain⟨z0,C,B,o,r⟩:=parts ao d h (j:=0) (c:=1) rfl (by kernel_rfl);obtain⟨aO,E,W,q,t⟩:=parts ao d h (j:=1) (c:=32) rfl (by kernel_rfl);obtain⟨k,i,_,_⟩:=DataW.trod_int Tryz.underlying3 o;obtain⟨J,aK⟩:=nX Tryz.underlying26 Tryz.underlying5 (by kernel_rfl) (by simp;omega) q;refine⟨⟨k,J⟩,?_,trivial,Nat.zero_le _⟩;show cs.drop 0=_;rw[im 0 1 1 rfl,pf 1 32 (by omega),i,aK];rfl
theorem CZ(n:Nat)(cs:List Value)(y:DataW H)(eR:List MemPlace)(h:DataW.trod enc Tryz.prog ck base sp held n 68 cs=some (y,eR))(B:cs.length=33):∃x:bA,cs=bM x∧bw ck.heap a1 1 x.v.v x.d∧x.d.length≤Rows.uptoBulk y:=by
 have ao:Tryz.prog.underlying 68=some (.struct (Tryz.prog.fieldsOf 68)):=by kernel_rfl
 have i:(Tryz.prog.fieldsOf 68).toList.map (fun f=>(f.type,f.offset))=[(26,0),(57,32)]:=by kernel_rfl
 obtain⟨z0,E,C,r,t⟩:=parts ao i h (j:=0) (c:=32) rfl (by kernel_rfl);obtain⟨aO,q,W,d,A⟩:=parts ao i h (j:=1) (c:=1) rfl (by kernel_rfl);obtain⟨J,k⟩:=nX Tryz.underlying26 Tryz.underlying5 (by kernel_rfl) (by simp;omega) r;obtain⟨u,aK⟩:=List.length_eq_one_iff.1 (show((cs.drop 32).take 1).length=1 by simp;omega);rw[aK]at d;obtain⟨s,rfl⟩:=yM Tryz.underlying57 d;obtain⟨l,o,U⟩:=Gb rfl Tryz.underlying57 Tryz.underlying5 (by kernel_rfl) (show DataW.Trod enc Tryz.prog ck base sp held 57 s.v aO q from⟨W,d⟩);refine⟨⟨J,s,l⟩,?_,o,by simp only;omega⟩;show cs.drop 0=_;rw[im 0 32 32 rfl,pf 32 1 (by omega),k,aK];rfl
theorem C1(n:Nat)(cs:List Value)(y:DataW H)(eR:List MemPlace)(h:DataW.trod enc Tryz.prog ck base sp held n 29 cs=some (y,eR))(Y:cs.length=70):∃x:cY,cs=dT x∧bw ck.heap c4 33 x.cM.v x.a6∧x.br.length≤Rows.uptoBulk y:=by
 have ao:Tryz.prog.underlying 29=some (.struct (Tryz.prog.fieldsOf 29)):=by kernel_rfl
 have d:(Tryz.prog.fieldsOf 29).toList.map (fun f=>(f.type,f.offset))=[(3,0),(9,1),(26,2),(26,34),(27,66),(3,67),(3,68),(4,69)]:=by kernel_rfl
 obtain⟨z0,ai,Z,E,O⟩:=parts ao d h (j:=0) (c:=1) rfl (by kernel_rfl);obtain⟨aO,aj,W,F,P⟩:=parts ao d h (j:=1) (c:=1) rfl (by kernel_rfl);obtain⟨z2,aq,aa,G,Q⟩:=parts ao d h (j:=2) (c:=32) rfl (by kernel_rfl);obtain⟨z3,ar,ab,I,R⟩:=parts ao d h (j:=3) (c:=32) rfl (by kernel_rfl);obtain⟨z4,au,ae,K,S⟩:=parts ao d h (j:=4) (c:=1) rfl (by kernel_rfl);obtain⟨z5,ay,af,L,T⟩:=parts ao d h (j:=5) (c:=1) rfl (by kernel_rfl);obtain⟨aB,az,ag,M,V⟩:=parts ao d h (j:=6) (c:=1) rfl (by kernel_rfl);obtain⟨aC,aA,ah,N,X⟩:=parts ao d h (j:=7) (c:=1) rfl (by kernel_rfl);obtain⟨k,i,_,_⟩:=DataW.trod_int Tryz.underlying3 E;obtain⟨s,aK,an⟩:=qQ Tryz.underlying9 F;obtain⟨bX,o⟩:=nX Tryz.underlying26 Tryz.underlying5 (by kernel_rfl) (by simp;omega) G;obtain⟨bo,q⟩:=nX Tryz.underlying26 Tryz.underlying5 (by kernel_rfl) (by simp;omega) I;obtain⟨cM,a6,r,C,_,_⟩:=s7 c4 33 (fun _=>0) (fun _=>True) Tryz.underlying27 (by kernel_rfl) hU (by decide) C2 (by simp;omega) K;obtain⟨dn,t,_,_⟩:=DataW.trod_int Tryz.underlying3 L;obtain⟨md,A,_,_⟩:=DataW.trod_int Tryz.underlying3 M;obtain⟨st,B,_⟩:=DataW.trod_bool Tryz.underlying4 N;refine⟨⟨k,s,bX,bo,cM,a6,dn,md,st⟩,?_,C,by simp only;omega⟩;show cs.drop 0=_;rw[im 0 1 1 rfl,im 1 1 2 rfl,im 2 32 34 rfl,im 34 32 66 rfl,im 66 1 67 rfl,im 67 1 68 rfl,im 68 1 69 rfl,pf 69 1 (by omega),i,aK,o,q,r,t,A,B];rfl
def fU(x:b0):Nat:=max (max x.al.length x.q.br.length) (max (x.ml.map qF).sum (x.el.map (·.d.length)).sum)
theorem qB{α:Type}{B:α→Nat}:∀{l:List α} {x:α},x∈l→B x≤(l.map B).sum
 |y::l,x,h=>by
  simp only[List.map_cons,List.sum_cons];rcases List.mem_cons.1 h with rfl|h
  ·omega
  ·have:=qB (B:=B) h;omega
theorem zg{x:b0}(h:fU x≤140737488355328):oj x:=by
 unfold fU at h;have d:=Nat.max_le.1 h;have U:=Nat.max_le.1 d.1;have i:=Nat.max_le.1 d.2;refine⟨U.1,U.2,fun m hm=>?_,fun y hy=>?_⟩
 ·have j:=qB (B:=qF) hm
  have k:=Nat.max_le.1 (Nat.le_trans j i.1);exact k
 ·exact Nat.le_trans (qB (B:=fun y:bA=>y.d.length) hy) i.2
theorem C3(n:Nat)(cs:List Value)(y:DataW H)(eR:List MemPlace)(h:DataW.trod enc Tryz.prog ck base sp held n 32 cs=some (y,eR))(S:cs.length=75):∃x:b0,cs=df x∧e6 (fun _=>True) ck.heap x∧fU x≤Rows.uptoBulk y:=by
 have ao:Tryz.prog.underlying 32=some (.struct (Tryz.prog.fieldsOf 32)):=by kernel_rfl
 have d:(Tryz.prog.fieldsOf 32).toList.map (fun f=>(f.type,f.offset))=[(4,0),(9,1),(24,2),(4,3),(29,4),(30,74)]:=by kernel_rfl
 obtain⟨z0,aa,T,E,M⟩:=parts ao d h (j:=0) (c:=1) rfl (by kernel_rfl);obtain⟨aO,ab,W,F,N⟩:=parts ao d h (j:=1) (c:=1) rfl (by kernel_rfl);obtain⟨z2,ae,V,G,O⟩:=parts ao d h (j:=2) (c:=1) rfl (by kernel_rfl);obtain⟨z3,af,X,I,P⟩:=parts ao d h (j:=3) (c:=1) rfl (by kernel_rfl);obtain⟨z4,ag,Y,K,Q⟩:=parts ao d h (j:=4) (c:=70) rfl (by kernel_rfl);obtain⟨z5,ah,Z,L,R⟩:=parts ao d h (j:=5) (c:=1) rfl (by kernel_rfl);obtain⟨bE,i,_⟩:=DataW.trod_bool Tryz.underlying4 E;obtain⟨al,aK,an⟩:=qQ Tryz.underlying9 F;obtain⟨eL,ml,k,hm,_,ai⟩:=s7 dt 66 qF (fun _=>True) Tryz.underlying24 (by kernel_rfl) e0 (by decide) C0 (by simp;omega) G;obtain⟨C,o,_⟩:=DataW.trod_bool Tryz.underlying4 I;obtain⟨q,r,B,aj⟩:=C1 _ _ _ _ K (by simp;omega);obtain⟨cB,el,t,he,A,aq⟩:=s7 bM 33 (fun x:bA=>x.d.length) (fun x=>bw ck.heap a1 1 x.v.v x.d) Tryz.underlying30 (by kernel_rfl) cZ (by decide) CZ (by simp;omega) L;refine⟨⟨bE,al,eL,ml,C,q,cB,el⟩,?_,⟨hm,B,he,A⟩,Nat.max_le.2 ⟨Nat.max_le.2 ⟨by simp only;omega,by simp only;omega⟩,Nat.max_le.2 ⟨by simp only;omega,by simp only;omega⟩⟩⟩;show cs.drop 0=_;rw[im 0 1 1 rfl,im 1 1 2 rfl,im 2 1 3 rfl,im 3 1 4 rfl,im 4 70 74 rfl,pf 74 1 (by omega),i,aK,k,o,r,t];rfl
theorem yd{v:Value}{d:DataW H}{p:List MemPlace}(j:v.cells= #[v])(h:DataW.Trod enc Tryz.prog ck base sp held 22 v d p):∃l:List b0,bw ck.heap df 75 v l∧(∀x∈l,e6 (fun _=>True) ck.heap x)∧∀x∈l,fU x≤Rows.uptoBulk d:=by
 obtain⟨l,i,U,n⟩:=pc df 75 fU (e6 (fun _=>True) ck.heap) j Tryz.underlying22 (by kernel_rfl) dY (by decide) C3 h;exact⟨l,i,U,fun x k=>by have:=qB (B:=fU) k;omega⟩
open Go.ChangeShapes Go.WideShapes Go.ChangeAt in
end
end ub

namespace ua
open E Go.RowKit fz ey eX eY fG fO fY gg gy pC tX hQ ry pD nh rA t_ dz
theorem yl:∀{a b:List cw},bN a=bN b→a=b
 |[],[],_=>rfl
 |x::a,[],h=>by cases h
 |[],y::b,h=>by cases h
 |x::a,y::b,h=>by
  simp only[bN,List.map_cons,List.cons.injEq,Prod.mk.injEq]at h;have e:x=y:=by cases x;cases y;simp only at h;rw[h.1.1,h.1.2]
  rw[e,yl (a:=a) (b:=b) h.2]
theorem Hp{a b:c2}(h:a.m=b.m):kg a b:=by
 have i:a.al=b.al:=congrArg dU.al h;have U:bN a.bb=bN b.bb:=congrArg dU.b5 h;have j:cm a.bW=cm b.bW:=congrArg dU.dJ h;have d:a.q.p=b.q.p:=congrArg dU.q h;have k:cl a.el=cl b.el:=congrArg dU.gB h;exact⟨i,⟨congrArg (·.k) d,congrArg (·.br) d,congrArg (·.bX) d,congrArg (·.bo) d,congrArg (·.dn) d,congrArg (·.md) d,congrArg (·.st) d,congrArg (·.a6) d⟩,yl U,j,k⟩
theorem Ge(bk:Int)(v1 v2 v3:Value)(l:List b0)(on:List Bool)(m:List b0)(w0:World)(I:Heap)
 (aN:dV bk I) (bt:bg (fun b=>b=0) I.size) (q:bw I df 75 v1 l) (x:∀t∈l,e6 (fun _=>True) I t) (hw:∀t∈l,oj t) (n:bw I oI 1 v2 on) (B:bw I df 75 v3 m) (hy:∀t∈m,e6 (fun _=>True) I t) (bN:∀t∈m,oj t):
 aC Tryz.prog w0 8 #[v1,v2,v3] I (fun r aF=>r= .bool true∧ak I aF):=by
 refine aC.aK [v1,v2,v3] Tryz.func8 ?_;intro bR bM;have i:ak I I:=V.refl _ _;replace q:=q.bt;have aA:=q.bY;replace x:=fun t d=>(x t d).bt;have aD:bg (fun b=>True∧b<I.size) I.size:=fun b h=>h.2;replace n:=n.bt;have ar:=n.bY;replace B:=B.bt;have bo:=B.bY;replace hy:=fun t d=>(hy t d).bt;have au:bg (fun b=>True∧b<I.size) I.size:=fun b h=>h.2;refine G.L (fun a3=>?_);refine o.aj ?_;refine a3 (G.t1 (fun a4=>G.L (fun a5=>?_)));refine aV AR (D6 bk w0 _ aN (bt.mono (by omega))) (fun cj cl aK=>?_);obtain⟨rfl,R⟩:=aK;replace q:=q.M R;replace x:=fun t d=>(x t d).M R;replace n:=n.M R;replace B:=B.M R;replace hy:=fun t d=>(hy t d).M R;replace i:=i.L R;have cn:=R.size;refine o.v1 eI (o.nil (a5 ?_));refine dB ?_;refine G.skip (a4 (G.L (fun aL=>?_)));refine o.ax 2 ?_;refine aV rY (sC _ _ l on w0 _ q.any (fun t ab=>(x t ab).any) n.any hw) (fun bV ap aM=>?_);obtain⟨ae,bO,rfl,j,am,cp,bJ,cv,S⟩:=aM;replace q:=q.M S;replace x:=fun t d=>(x t d).M S;replace n:=n.M S;replace B:=B.M S;replace hy:=fun t d=>(hy t d).M S;replace i:=i.L S;have bX:=S.size;refine o.aO (cQ jq) ?_;rintro k aH ⟨rfl,k,N,bY,a9⟩;have bU:aH.size=ap.size+1:=by rw[a9];simp
 have bp:=(ay.new (aA.mono i.size):ay _ (ap.size+1));have bq:=(ay.new (aD.mono i.size):ay _ (ap.size+1));have bs:=(ay.new (ar.mono i.size):ay _ (ap.size+1));have bT:=(ay.new (bo.mono i.size):ay _ (ap.size+1));have be:=(ay.new (au.mono i.size):ay _ (ap.size+1));have bu:=(ay.new (am.mono (by omega)):ay _ (ap.size+1));have bx:T 0 I.size (ap.size+1):=T.new i.size;replace q:=q.M N;replace x:=fun t d=>(x t d).M N;replace n:=n.M N;replace B:=B.M N;replace hy:=fun t d=>(hy t d).M N;replace j:=fun u=>(j u).M N;replace i:=i.L N;have bZ:=N.size;refine o.s1 (dy k (_) (bS ae) (iG _) dx (b8 _) ((c0 (b8 _).symm))) fun bi aT=>?_;obtain⟨k,H⟩:=aT;replace H:=H.bp;replace q:=q.ab H (az.J bp);replace x:=fun t d=>(x t d).ab H (az.J bq);replace n:=n.ab H (az.J bs);replace B:=B.ab H (az.J bT);replace hy:=fun t d=>(hy t d).ab H (az.J be);replace j:=fun u=>(j u).ab H (az.J bu);replace i:=i.bl H (ag.J (aq.q bx));have b1:=H.size;refine o.nil (aL (G.L (fun bz=>?_)));refine o.ax 2 ?_;refine aV rY (sC _ _ m on w0 _ B.any (fun t ab=>(hy t ab).any) n.any bN) (fun b3 K aB=>?_);obtain⟨cV,bP,rfl,aw,aE,cq,ct,cw,ad⟩:=aB;replace q:=q.M ad;replace x:=fun t d=>(x t d).M ad;replace n:=n.M ad;replace hy:=fun t d=>(hy t d).M ad;replace j:=fun u=>(j u).M ad;replace k:=k.M ad;replace i:=i.L ad;have b4:=ad.size;refine o.aO (cQ jq) ?_;rintro C aI ⟨rfl,C,L,b5,bA⟩;have cf:aI.size=K.size+1:=by rw[bA];simp
 have aX:=(ay.new (aA.mono i.size):ay _ (K.size+1));have aY:=(ay.new (aD.mono i.size):ay _ (K.size+1));have aZ:=(ay.new (ar.mono i.size):ay _ (K.size+1));have a1:=(ay.new (au.mono i.size):ay _ (K.size+1));have a6:=(ay.new (am.mono (by omega)):ay _ (K.size+1));have a7:af (ap.size+1) (K.size+1):=af.new k.lt;have a8:=(ay.new (aE.mono (by omega)):ay _ (K.size+1));have a_:T 0 I.size (K.size+1):=T.new i.size;replace q:=q.M L;replace x:=fun t d=>(x t d).M L;replace n:=n.M L;replace hy:=fun t d=>(hy t d).M L;replace j:=fun u=>(j u).M L;replace k:=k.M L;replace aw:=fun u=>(aw u).M L;replace i:=i.L L;have b6:=L.size;refine o.s1 (dy C (_) (bS cV) (iG _) dx (b8 _) ((c0 (b8 _).symm))) fun cg ba=>?_;obtain⟨C,E⟩:=ba;replace E:=E.bp;replace q:=q.ab E (az.J aX);replace x:=fun t d=>(x t d).ab E (az.J aY);replace n:=n.ab E (az.J aZ);replace hy:=fun t d=>(hy t d).ab E (az.J a1);replace j:=fun u=>(j u).ab E (az.J a6);replace k:=k.ab E (ah.J a7);replace aw:=fun u=>(aw u).ab E (az.J a8);replace i:=i.bl E (ag.J (aq.q a_));have b7:=E.size;refine o.nil (bz (G.L (fun bC=>?_)));refine o.ax 2 ?_;refine aV rY (sC _ _ l on w0 _ q.any (fun t ab=>(x t ab).any) n.any hw) (fun b9 P bD=>?_);obtain⟨q0,bQ,rfl,av,aO,cr,bL,cy,W⟩:=bD;replace hy:=fun t d=>(hy t d).M W;replace j:=fun u=>(j u).M W;replace k:=k.M W;replace aw:=fun u=>(aw u).M W;replace C:=C.M W;replace i:=i.L W;have b_:=W.size;refine o.aO (cQ jq) ?_;rintro v9 aJ ⟨rfl,v9,Q,ca,bE⟩;have br:aJ.size=P.size+1:=by rw[bE];simp
 have bb:=(ay.new (au.mono i.size):ay _ (P.size+1));have bc:=(ay.new (am.mono (by omega)):ay _ (P.size+1));have bd:af (ap.size+1) (P.size+1):=af.new k.lt;have bf:=(ay.new (aE.mono (by omega)):ay _ (P.size+1));have bj:af (K.size+1) (P.size+1):=af.new C.lt;have bl:=(ay.new (aO.mono (by omega)):ay _ (P.size+1));have bm:T 0 I.size (P.size+1):=T.new i.size;replace hy:=fun t d=>(hy t d).M Q;replace j:=fun u=>(j u).M Q;replace k:=k.M Q;replace aw:=fun u=>(aw u).M Q;replace C:=C.M Q;replace av:=fun u=>(av u).M Q;replace i:=i.L Q;refine o.s1 (dy v9 (_) (bS q0) (iG _) dx (b8 _) ((c0 (b8 _).symm))) fun aj bn=>?_;obtain⟨v9,ac⟩:=bn;replace ac:=ac.bp;replace hy:=fun t d=>(hy t d).ab ac (az.J bb);replace j:=fun u=>(j u).ab ac (az.J bc);replace k:=k.ab ac (ah.J bd);replace aw:=fun u=>(aw u).ab ac (az.J bf);replace C:=C.ab ac (ah.J bj);replace av:=fun u=>(av u).ab ac (az.J bl);replace i:=i.bl ac (ag.J (aq.q bm));refine o.nil (bC (G.t1 (fun bF=>?_)));refine dC (fun F=>ak aj F) [] ?_;have aa:=ak.refl aj;refine O.t1 0 rfl (fun F A=>aW (k.N.M A) fg dx (b8 _)) aa ?_;refine O.t1 1 rfl (fun F A=>aW (C.N.M A) fg dx (b8 _)) aa ?_;refine O.t1 3 rfl (fun F A=>aW (k.N.M A) fg dx (b8 _)) aa ?_;refine O.t1 4 rfl (fun F A=>aW (C.N.M A) fg dx (b8 _)) aa ?_;refine O.aY 2 ?_;refine ch vh (x8 ae cV w0 _ (j ()).r.any (j ()).g.any (fun y hy=>((j ()).n y hy).any) (j ()).q.any (j ()).e.any (fun y hy=>((j ()).d y hy).any) (aw ()).r.any (aw ()).g.any (fun y hy=>((aw ()).n y hy).any) (aw ()).q.any (aw ()).e.any (fun y hy=>((aw ()).d y hy).any)) (fun cb a0 bG=>?_);obtain⟨rfl,M⟩:=bG;replace hy:=fun t d=>(hy t d).M M;replace j:=fun u=>(j u).M M;replace k:=k.M M;replace aw:=fun u=>(aw u).M M;replace av:=fun u=>(av u).M M;replace v9:=v9.M M;replace i:=i.L M;have aP:=aa.L M;refine O.cn aP ?_;have aQ:=ak.refl a0;refine O.aY 5 ?_;refine ch Bx (CV ae cV w0 _ (j ()).r.any (j ()).g.any (fun y hy=>((j ()).n y hy).any) (j ()).q.any (j ()).e.any (fun y hy=>((j ()).d y hy).any) (aw ()).r.any (aw ()).g.any (fun y hy=>((aw ()).n y hy).any) (aw ()).q.any (aw ()).e.any (fun y hy=>((aw ()).d y hy).any)) (fun cc b2 bH=>?_);obtain⟨rfl,X⟩:=bH;replace hy:=fun t d=>(hy t d).M X;replace j:=fun u=>(j u).M X;replace k:=k.M X;replace av:=fun u=>(av u).M X;replace v9:=v9.M X;replace i:=i.L X;have aR:=aQ.L X;refine O.cn aR ?_;have Z:=ak.refl b2;refine O.t1 6 rfl (fun F A=>(Y.rP rfl Tryz.underlying4 rfl rfl).gq (rfl)) Z ?_;refine O.W 7 rfl Z ?_;refine O.bQ 8 rfl (fun F A=>aW (k.N.M A) fg dx (b8 _)) bh Z ?_;refine O.bQ 9 rfl (fun F A=>aW (v9.N.M A) fg dx (b8 _)) bh Z ?_;refine O.aY 10 ?_;refine dD.call rfl rfl vh rfl bh rfl rfl (x8 ae q0 w0 _ (j ()).r.any (j ()).g.any (fun y hy=>((j ()).n y hy).any) (j ()).q.any (j ()).e.any (fun y hy=>((j ()).d y hy).any) (av ()).r.any (av ()).g.any (fun y hy=>((av ()).n y hy).any) (av ()).q.any (av ()).e.any (fun y hy=>((av ()).d y hy).any)) (fun cd a2 bv=>?_);obtain⟨rfl,an⟩:=bv;replace i:=i.L an;have aS:=Z.L an;refine O.cn aS ?_;have ai:=ak.refl a2;refine O.t1 11 rfl (fun F A=>eh) ai ?_;refine O.t1 12 rfl (fun F A=>ev) ai ?_;refine cD ?_;have cu:=ai;refine bF ?_;refine G.ret (bM ?_);exact⟨by rw[decide_eq_true (Hp (bJ.trans bL.symm))],i⟩
end ua
end Go.Proofs.YtfjmpninmdjcaaaGreatDoor
