/-
  Contracts of functions of the program, and plain laws: put together of several texts.
-/
import Derived.Test.YtfjmpninmdjcaaaGreatDoorGd
import Derived.Test.YtfjmpninmdjcaaaGreatDoorGa
import Derived.Test.YtfjmpninmdjcaaaGreatDoorGb
import Derived.Shelf.Vars
import Derived.Test.YtfjmpninmdjcaaaGreatDoorGe
import Derived.SizedLaws
set_option linter.unusedVariables false
set_option linter.unusedSimpArgs false
set_option linter.unusedSectionVars false
set_option linter.defProp false
set_option maxHeartbeats 8000000
set_option maxRecDepth 20000
namespace Go.Proofs.YtfjmpninmdjcaaaGreatDoor

namespace rF
open E Go.RowKit eM eP e1 e7 ev eQ eR fC fD fI fS ga gz gq hG nh oi pD rC pE ke dz
theorem AR{q:cZ}{e:aN}{l:List bA}(w:World):(Instr.build 32 #[(3,.bool true),(4,er q),(5,e.v)]).run Tryz.prog w= .ok (dG ⟨false,[],cM,[],true,q,e,l⟩) w:=by
 obtain⟨k,br,⟨bX,i⟩,⟨bm,d⟩,cd,a6,dn,md,st⟩:=q;simp only[dG,c_,er,dX,b7];obtain⟨j,n,H,T,X,Y,Z,aa,ab,ae,o,r,t,x,A,B,C,E,F,G,I,K,L,M,N,O,P,Q,R,S,V,W,rfl⟩:=l1 i;obtain⟨af,ag,aB,dE,aQ,aR,aS,cy,aT,aU,ah,ai,ak,al,aq,ar,au,ay,az,aA,aC,aD,aE,aF,aH,aI,aJ,aK,aL,aM,aO,aP,rfl⟩:=l1 d
 kernel_rfl
theorem Gt(v1 v2:Value)(a b:List cA)(w0:World)(I:Heap)
 (d:bx I dB 33 v1 a) (aw:bx I dB 33 v2 b):
 aC Tryz.prog w0 67 #[v1,v2] I (fun r C=>r= .bool (decide (a=b))∧aj I C):=by
 refine aC.aK [v1,v2] Tryz.func67 ?_;intro ay x;have k:aj I I:=W.refl _ _;replace d:=d.bw;replace aw:=aw.bw;have aH:=d.len;have aI:=aw.len;refine G.L (fun ae=>?_);refine o.ak ?_;refine ae (G.t2 (fun af ag=>G.L (fun ah=>?_)));refine o.V ?_;refine o.v1 (bb d gK) ?_;refine o.V ?_;refine o.v1 (bb aw gK) ?_;refine o.v1 cU (o.nil (ah ?_));refine aU (fun A=>?_) (fun A=>?_)
 ·
  refine G.L (fun ai=>?_);refine o.ak ?_;refine ai ?_;refine G.ret (ag (x ?_));exact⟨by rw[decide_eq_false (fun e=>A (by rw[e]))],k⟩
 ·
  have hlen:a.length=b.length:=by omega
  refine G.skip (af (G.t2 (fun ak E=>G.L (fun F=>?_))));refine o.V ?_;refine o.v1 (bb d gK) ?_;refine o.V (o.nil (F ?_));refine G.aB (fun _ K L=>?_)
  refine G.bg (fun(i:(Nat))=>[(0,v1),(1,v2),(12,.int .i64 (a.length:Int)),(13,.int .i64 (i:Int))])
   (fun(i:(Nat)) (H:Heap)=>(i≤a.length)∧(a.take i=b.take i)∧aj I H)
   (fun(i:(Nat))=>a.length-i) 0 ⟨rfl,rfl,rfl,rfl,trivial⟩ ?_ ?_
  ·
   exact⟨(by omega),rfl,W.refl _ _⟩
  intro i aB M ar N B;obtain⟨aF,he,j⟩:=M;replace d:=d.M j;replace aw:=aw.M j;replace k:=k.L j;have aE:=j.size;refine G.L (fun O=>?_);refine o.v1 bJ (o.nil (O ?_));refine G.t2 (fun Q ac=>?_);refine aU (fun P=>?_) (fun P=>?_)
  ·
   have al:i<a.length:=by omega
   have aq:i<b.length:=by omega
   obtain⟨y,n⟩:∃q,q=a[i]:=⟨_,rfl⟩;obtain⟨z,t⟩:∃q,q=b[i]:=⟨_,rfl⟩;refine G.skip (Q (G.t2 (fun R S=>G.aB (fun T _ V=>G.L (fun X=>?_)))));refine o.aQ 2 ?_;refine X (G.t1 (fun Z=>?_));refine hf ?_;refine o.ax 2 ?_;refine o.bR (Y.bL d (i) rfl gK hP rfl rfl) fun az aa=>?_;refine o.v1 (Y.cast (v2:= .agg (dB y).toArray) (aT aa.N np hP (hW _)) (by rw[n])) ?_;refine o.ax 2 ?_;refine o.bR (Y.bL aw (i) rfl gK hP rfl rfl) fun aA au=>?_;refine o.v1 (Y.cast (v2:= .agg (dB z).toArray) (aT au.N np hP (hW _)) (by rw[t])) ?_;refine o.v1 (Y.jM rfl Tryz.eqGuardType71 (fun w=>wh y z w) rfl rfl) (o.nil (Z ?_));refine aU (fun am=>?_) (fun am=>?_)
   ·
    refine G.L (fun ab=>?_);refine o.ak ?_;refine ab ?_;refine G.ret (V (S (B (L (E (x ?_))))));exact⟨by rw[decide_eq_false (fun e=>am (by rw[n,t];simp only[e]))],k⟩
   ·
    refine G.skip (T (R (G.region ?_)));refine o.v1 bD ?_;refine o.V (o.nil ?_);refine aP.sub (N (i+1) _ ?_ ?_) ⟨rfl,rfl,(aD (by omega)),(aD (by omega)),trivial⟩
    ·exact⟨(by omega),kr he al aq (by rw[←n,←t];exact Decidable.not_not.1 am),j⟩
    ·first|omega|(simp only;omega)|(simp;omega)
  ·
   refine G.exit (ac (B (K ?_)));refine ak (G.L (fun ap=>?_));refine o.ak ?_;refine ap ?_;refine G.ret (x ?_);exact⟨by rw[decide_eq_true (show a=b from by rwa[List.take_of_length_le (by omega),List.take_of_length_le (by omega)]at he)],k⟩
theorem zi(v1 v2:Value)(a b:List fE)(w0:World)(I:Heap)
 (d:bx I c2 33 v1 a) (aw:bx I c2 33 v2 b):
 aC Tryz.prog w0 139 #[v1,v2] I (fun r C=>r= .bool (decide (a=b))∧aj I C):=by
 refine aC.aK [v1,v2] Tryz.func139 ?_;intro ay x;have k:aj I I:=W.refl _ _;replace d:=d.bw;replace aw:=aw.bw;have aH:=d.len;have aI:=aw.len;refine G.L (fun ae=>?_);refine o.ak ?_;refine ae (G.t2 (fun af ag=>G.L (fun ah=>?_)));refine o.V ?_;refine o.v1 (bb d fq) ?_;refine o.V ?_;refine o.v1 (bb aw fq) ?_;refine o.v1 cU (o.nil (ah ?_));refine aU (fun A=>?_) (fun A=>?_)
 ·
  refine G.L (fun ai=>?_);refine o.ak ?_;refine ai ?_;refine G.ret (ag (x ?_));exact⟨by rw[decide_eq_false (fun e=>A (by rw[e]))],k⟩
 ·
  have hlen:a.length=b.length:=by omega
  refine G.skip (af (G.t2 (fun ak E=>G.L (fun F=>?_))));refine o.V ?_;refine o.v1 (bb d fq) ?_;refine o.V (o.nil (F ?_));refine G.aB (fun _ K L=>?_)
  refine G.bg (fun(i:(Nat))=>[(0,v1),(1,v2),(12,.int .i64 (a.length:Int)),(13,.int .i64 (i:Int))])
   (fun(i:(Nat)) (H:Heap)=>(i≤a.length)∧(a.take i=b.take i)∧aj I H)
   (fun(i:(Nat))=>a.length-i) 0 ⟨rfl,rfl,rfl,rfl,trivial⟩ ?_ ?_
  ·
   exact⟨(by omega),rfl,W.refl _ _⟩
  intro i aB M ar N B;obtain⟨aF,he,j⟩:=M;replace d:=d.M j;replace aw:=aw.M j;replace k:=k.L j;have aE:=j.size;refine G.L (fun O=>?_);refine o.v1 bJ (o.nil (O ?_));refine G.t2 (fun Q ac=>?_);refine aU (fun P=>?_) (fun P=>?_)
  ·
   have al:i<a.length:=by omega
   have aq:i<b.length:=by omega
   obtain⟨y,n⟩:∃q,q=a[i]:=⟨_,rfl⟩;obtain⟨z,t⟩:∃q,q=b[i]:=⟨_,rfl⟩;refine G.skip (Q (G.t2 (fun R S=>G.aB (fun T _ V=>G.L (fun X=>?_)))));refine o.aQ 2 ?_;refine X (G.t1 (fun Z=>?_));refine hf ?_;refine o.ax 2 ?_;refine o.bR (Y.bL d (i) rfl fq ha rfl rfl) fun az aa=>?_;refine o.v1 (Y.cast (v2:= .agg (c2 y).toArray) (aT aa.N mB ha (hX _)) (by rw[n])) ?_;refine o.ax 2 ?_;refine o.bR (Y.bL aw (i) rfl fq ha rfl rfl) fun aA au=>?_;refine o.v1 (Y.cast (v2:= .agg (c2 z).toArray) (aT au.N mB ha (hX _)) (by rw[t])) ?_;refine o.v1 (Y.jM rfl Tryz.eqGuardType129 (fun w=>wi y z w) rfl rfl) (o.nil (Z ?_));refine aU (fun am=>?_) (fun am=>?_)
   ·
    refine G.L (fun ab=>?_);refine o.ak ?_;refine ab ?_;refine G.ret (V (S (B (L (E (x ?_))))));exact⟨by rw[decide_eq_false (fun e=>am (by rw[n,t];simp only[e]))],k⟩
   ·
    refine G.skip (T (R (G.region ?_)));refine o.v1 bD ?_;refine o.V (o.nil ?_);refine aP.sub (N (i+1) _ ?_ ?_) ⟨rfl,rfl,(aD (by omega)),(aD (by omega)),trivial⟩
    ·exact⟨(by omega),kr he al aq (by rw[←n,←t];exact Decidable.not_not.1 am),j⟩
    ·first|omega|(simp only;omega)|(simp;omega)
  ·
   refine G.exit (ac (B (K ?_)));refine ak (G.L (fun ap=>?_));refine o.ak ?_;refine ap ?_;refine G.ret (x ?_);exact⟨by rw[decide_eq_true (show a=b from by rwa[List.take_of_length_le (by omega),List.take_of_length_le (by omega)]at he)],k⟩
theorem Eu(v1 v2:Value)(a b:List cE)(w0:World)(I:Heap)
 (d:bx I dt 65 v1 a) (aw:bx I dt 65 v2 b):
 aC Tryz.prog w0 73 #[v1,v2] I (fun r C=>r= .bool (decide (a=b))∧aj I C):=by
 refine aC.aK [v1,v2] Tryz.func73 ?_;intro ay x;have k:aj I I:=W.refl _ _;replace d:=d.bw;replace aw:=aw.bw;have aH:=d.len;have aI:=aw.len;refine G.L (fun ae=>?_);refine o.ak ?_;refine ae (G.t2 (fun af ag=>G.L (fun ah=>?_)));refine o.V ?_;refine o.v1 (bb d hR) ?_;refine o.V ?_;refine o.v1 (bb aw hR) ?_;refine o.v1 cU (o.nil (ah ?_));refine aU (fun A=>?_) (fun A=>?_)
 ·
  refine G.L (fun ai=>?_);refine o.ak ?_;refine ai ?_;refine G.ret (ag (x ?_));exact⟨by rw[decide_eq_false (fun e=>A (by rw[e]))],k⟩
 ·
  have hlen:a.length=b.length:=by omega
  refine G.skip (af (G.t2 (fun ak E=>G.L (fun F=>?_))));refine o.V ?_;refine o.v1 (bb d hR) ?_;refine o.V (o.nil (F ?_));refine G.aB (fun _ K L=>?_)
  refine G.bg (fun(i:(Nat))=>[(0,v1),(1,v2),(12,.int .i64 (a.length:Int)),(13,.int .i64 (i:Int))])
   (fun(i:(Nat)) (H:Heap)=>(i≤a.length)∧(a.take i=b.take i)∧aj I H)
   (fun(i:(Nat))=>a.length-i) 0 ⟨rfl,rfl,rfl,rfl,trivial⟩ ?_ ?_
  ·
   exact⟨(by omega),rfl,W.refl _ _⟩
  intro i aB M ar N B;obtain⟨aF,he,j⟩:=M;replace d:=d.M j;replace aw:=aw.M j;replace k:=k.L j;have aE:=j.size;refine G.L (fun O=>?_);refine o.v1 bJ (o.nil (O ?_));refine G.t2 (fun Q ac=>?_);refine aU (fun P=>?_) (fun P=>?_)
  ·
   have al:i<a.length:=by omega
   have aq:i<b.length:=by omega
   obtain⟨y,n⟩:∃q,q=a[i]:=⟨_,rfl⟩;obtain⟨z,t⟩:∃q,q=b[i]:=⟨_,rfl⟩;refine G.skip (Q (G.t2 (fun R S=>G.aB (fun T _ V=>G.L (fun X=>?_)))));refine o.aQ 2 ?_;refine X (G.t1 (fun Z=>?_));refine hf ?_;refine o.ax 2 ?_;refine o.bR (Y.bL d (i) rfl hR j7 rfl rfl) fun az aa=>?_;refine o.v1 (Y.cast (v2:= .agg (dt y).toArray) (aT aa.N pM j7 (kN _)) (by rw[n])) ?_;refine o.ax 2 ?_;refine o.bR (Y.bL aw (i) rfl hR j7 rfl rfl) fun aA au=>?_;refine o.v1 (Y.cast (v2:= .agg (dt z).toArray) (aT au.N pM j7 (kN _)) (by rw[t])) ?_;refine o.v1 (Y.jM rfl Tryz.eqGuardType64 (fun w=>wg y z w) rfl rfl) (o.nil (Z ?_));refine aU (fun am=>?_) (fun am=>?_)
   ·
    refine G.L (fun ab=>?_);refine o.ak ?_;refine ab ?_;refine G.ret (V (S (B (L (E (x ?_))))));exact⟨by rw[decide_eq_false (fun e=>am (by rw[n,t];simp only[e]))],k⟩
   ·
    refine G.skip (T (R (G.region ?_)));refine o.v1 bD ?_;refine o.V (o.nil ?_);refine aP.sub (N (i+1) _ ?_ ?_) ⟨rfl,rfl,(aD (by omega)),(aD (by omega)),trivial⟩
    ·exact⟨(by omega),kr he al aq (by rw[←n,←t];exact Decidable.not_not.1 am),j⟩
    ·first|omega|(simp only;omega)|(simp;omega)
  ·
   refine G.exit (ac (B (K ?_)));refine ak (G.L (fun ap=>?_));refine o.ak ?_;refine ap ?_;refine G.ret (x ?_);exact⟨by rw[decide_eq_true (show a=b from by rwa[List.take_of_length_le (by omega),List.take_of_length_le (by omega)]at he)],k⟩
theorem AT(v1 v2:Value)(a b:List UInt8)(w0:World)(I:Heap)
 (d:bx I a1 1 v1 a) (aw:bx I a1 1 v2 b):
 aC Tryz.prog w0 145 #[v1,v2] I (fun r C=>r= .bool (decide (a=b))∧aj I C):=by
 refine aC.aK [v1,v2] Tryz.func145 ?_;intro az x;have k:aj I I:=W.refl _ _;replace d:=d.bw;replace aw:=aw.bw;have aI:=d.len;have aJ:=aw.len;refine G.L (fun ae=>?_);refine o.ak ?_;refine ae (G.t2 (fun af ag=>G.L (fun ah=>?_)));refine o.V ?_;refine o.v1 (bb d dc) ?_;refine o.V ?_;refine o.v1 (bb aw dc) ?_;refine o.v1 cU (o.nil (ah ?_));refine aU (fun A=>?_) (fun A=>?_)
 ·
  refine G.L (fun ai=>?_);refine o.ak ?_;refine ai ?_;refine G.ret (ag (x ?_));exact⟨by rw[decide_eq_false (fun e=>A (by rw[e]))],k⟩
 ·
  have hlen:a.length=b.length:=by omega
  refine G.skip (af (G.t2 (fun ak E=>G.L (fun F=>?_))));refine o.V ?_;refine o.v1 (bb d dc) ?_;refine o.V (o.nil (F ?_));refine G.aB (fun _ K L=>?_)
  refine G.bg (fun(i:(Nat))=>[(0,v1),(1,v2),(12,.int .i64 (a.length:Int)),(13,.int .i64 (i:Int))])
   (fun(i:(Nat)) (H:Heap)=>(i≤a.length)∧(a.take i=b.take i)∧aj I H)
   (fun(i:(Nat))=>a.length-i) 0 ⟨rfl,rfl,rfl,rfl,trivial⟩ ?_ ?_
  ·
   exact⟨(by omega),rfl,W.refl _ _⟩
  intro i aE M ay N B;obtain⟨aH,he,j⟩:=M;replace d:=d.M j;replace aw:=aw.M j;replace k:=k.L j;have aF:=j.size;refine G.L (fun O=>?_);refine o.v1 bJ (o.nil (O ?_));refine G.t2 (fun Q ac=>?_);refine aU (fun P=>?_) (fun P=>?_)
  ·
   have al:i<a.length:=by omega
   have aq:i<b.length:=by omega
   obtain⟨y,n⟩:∃q,q=a[i]:=⟨_,rfl⟩;obtain⟨z,t⟩:∃q,q=b[i]:=⟨_,rfl⟩;refine G.skip (Q (G.t2 (fun R S=>G.aB (fun T _ V=>G.L (fun X=>?_)))));refine o.aQ 2 ?_;refine X (G.t1 (fun Z=>?_));refine hf ?_;refine o.ax 2 ?_;refine o.bR (Y.bL d (i) rfl dc cN rfl rfl) fun aA aa=>?_;refine o.v1 (Y.cast (v2:= .int .u8 y.toNat) (ar aa.N dS) (by rw[n])) ?_;refine o.ax 2 ?_;refine o.bR (Y.bL aw (i) rfl dc cN rfl rfl) fun aB au=>?_;refine o.v1 (Y.cast (v2:= .int .u8 z.toNat) (ar au.N dS) (by rw[t])) ?_;refine o.v1 (Y.cast (v2:= .bool (decide (y≠z))) cU ((congrArg Value.bool (decide_eq_decide.2 ⟨fun h e=>h (by rw[e]),fun h e=>h (UInt8.toNat_inj.1 (by omega))⟩)))) (o.nil (Z ?_));refine aU (fun am=>?_) (fun am=>?_)
   ·
    refine G.L (fun ab=>?_);refine o.ak ?_;refine ab ?_;refine G.ret (V (S (B (L (E (x ?_))))));exact⟨by rw[decide_eq_false (fun e=>am (by rw[n,t];simp only[e]))],k⟩
   ·
    refine G.skip (T (R (G.region ?_)));refine o.v1 bD ?_;refine o.V (o.nil ?_);refine aP.sub (N (i+1) _ ?_ ?_) ⟨rfl,rfl,(aD (by omega)),(aD (by omega)),trivial⟩
    ·exact⟨(by omega),kr he al aq (by rw[←n,←t];exact Decidable.not_not.1 am),j⟩
    ·first|omega|(simp only;omega)|(simp;omega)
  ·
   refine G.exit (ac (B (K ?_)));refine ak (G.L (fun ap=>?_));refine o.ak ?_;refine ap ?_;refine G.ret (x ?_);exact⟨by rw[decide_eq_true (show a=b from by rwa[List.take_of_length_le (by omega),List.take_of_length_le (by omega)]at he)],k⟩
theorem E6 (w0:World)(I:Heap)
 :
 aC Tryz.prog w0 140 #[.slice none 0 0,.slice none 0 0] I (fun r j=>r= .bool true∧aj I j):=by
 refine aC.aK [.slice none 0 0,.slice none 0 0] Tryz.func140 ?_;intro K E;have d:aj I I:=W.refl _ _;have aA:bx I du 66 (.slice none 0 0) []:=Rd.nil _ _ _ _;refine G.L (fun ac=>?_);refine o.ak ?_;refine ac (G.t1 (fun ad=>G.L (fun n=>?_)));refine o.V ?_;refine o.v1 (bb aA dI) ?_;refine o.V ?_;refine o.v1 (bb aA dI) ?_;refine o.v1 ((cU).fm (by simp)) (o.nil (n ?_));refine dw ?_;refine G.skip (ad (G.t1 (fun q=>G.L (fun t=>?_))));refine o.V ?_;refine o.v1 (bb aA dI) ?_;refine o.V (o.nil (t ?_));refine G.aB (fun _ x _=>?_)
 refine G.bg (fun(_:Unit)=>[(0,.slice none 0 0),(1,.slice none 0 0),(12,.int .i64 0),(13,.int .i64 0)])
  (fun(_:Unit) (H:Heap)=>(True)∧aj I H)
  (fun(_:Unit)=>0) () ⟨rfl,rfl,rfl,rfl,trivial⟩ ?_ ?_
 ·
  exact⟨trivial,W.refl _ _⟩
 intro _ L A F ap B;obtain⟨N,i⟩:=A;replace d:=d.L i;have M:=i.size;refine G.L (fun C=>?_);refine o.v1 bJ (o.nil (C ?_));refine G.t2 (fun _ au=>?_);refine aU (fun am=>?_) (fun am=>?_)
 ·
  omega
 ·
  refine G.exit (au (B (x ?_)));refine q (G.L (fun k=>?_));refine o.ak ?_;refine k ?_;refine G.ret (E ?_);exact⟨rfl,d⟩
theorem w3(s:List UInt8)(w0:World)(I:Heap)
 :
 aC Tryz.prog w0 146 #[aI s] I (fun r d=>r= .bool false∧aj I d):=by
 refine aC.aK [aI s] Tryz.func146 ?_;intro q n;have k:aj I I:=W.refl _ _;refine G.L (fun i=>?_);refine o.ak ?_;refine i (G.L (fun j=>?_));refine o.ax 2 ?_;refine o.v1 (Y.iT rfl rfl rfl) ?_;refine o.ak ?_;refine j ?_;refine G.ret (n ?_);exact⟨by simp,k⟩
theorem CA(a b:List UInt8)(w0:World)(I:Heap)
 :
 aC Tryz.prog w0 72 #[aI a,aI b] I (fun r t=>∃n:Int,r= .int .i64 n∧(n=0↔a=b)∧aj I t):=by
 refine aC.aK [aI a,aI b] Tryz.func72 ?_;intro R j;have d:aj I I:=W.refl _ _;refine G.L (fun F=>?_);refine o.ak ?_;refine F (G.L (fun au=>?_));refine o.V ?_;refine aW vb (w3 a w0 _) ?_;rintro Z Q ⟨rfl,q⟩;replace d:=d.L q;have V:=q.size;refine o.ak ?_;refine au (G.L (fun am=>?_));refine o.V ?_;refine aW vb (w3 b w0 _) (fun X S H=>?_);obtain⟨rfl,k⟩:=H;replace d:=d.L k;have T:=k.size;refine o.ak ?_;refine am (G.t1 (fun ap=>G.L (fun K=>?_)));refine o.V (o.nil (K ?_));refine dw ?_;refine G.skip (ap (G.t1 (fun L=>G.L (fun M=>?_))));refine o.V (o.nil (M ?_));refine dw ?_;refine G.skip (L (G.t2 (fun N O=>G.L (fun P=>?_))));refine o.ax 2 ?_;refine o.v1 (Y.yY rfl rfl rfl) (o.nil (P ?_));refine cK (fun i=>?_) (fun i=>?_)
 ·
  refine G.L (fun ad=>?_);refine o.ak ?_;refine ad ?_;refine G.ret (O (j ?_));exact⟨-1,rfl,⟨fun h=>by omega,fun h=>by rw[h,uT]at i;cases i⟩,d⟩
 ·
  refine G.skip (N (G.t2 (fun x A=>G.L (fun B=>?_))));refine o.ax 2 ?_;refine o.v1 (Y.G0 rfl rfl rfl) (o.nil (B ?_));refine cK (fun ac=>?_) (fun ac=>?_)
  ·
   refine G.L (fun C=>?_);refine o.ak ?_;refine C ?_;refine G.ret (A (j ?_));exact⟨1,rfl,⟨fun h=>by omega,fun h=>by subst h;simp at ac⟩,d⟩
  ·
   refine G.skip (x (G.L (fun E=>?_)));refine o.ak ?_;refine E ?_;refine G.ret (j ?_);exact⟨0,rfl,⟨fun _=>by rw[i]at ac;simpa using ac,fun _=>rfl⟩,d⟩
abbrev kT(x:e8):Value:= .agg (ek x).toArray
theorem wk(v1 v2 cJ:Value)(a b:List bA)(w0:World)(I:Heap)
 (n:bx I bO 33 v1 a) (aw:bx I bO 33 v2 b) (bf:∀(x y:bA) (aa:Heap),aj I aa→x∈a→y∈b→ff Tryz.prog w0 cJ [gZ x,gZ y] aa (fun r M=>r= .bool (decide ((x.k.1,x.d)=(y.k.1,y.d)))∧aj aa M)):
 aC Tryz.prog w0 143 #[v1,v2,cJ] I (fun r M=>r= .bool (decide (a.map (fun x=>(x.k.1,x.d))=b.map (fun x=>(x.k.1,x.d))))∧aj I M):=by
 refine aC.aK [v1,v2,cJ] Tryz.func143 ?_;intro bk Q;have d:aj I I:=W.refl _ _;replace n:=n.bw;replace aw:=aw.bw;have aX:=aw.bY;have bC:=n.len;have bE:=aw.len;refine G.L (fun ar=>?_);refine o.ak ?_;refine ar (G.t2 (fun aA aB=>G.L (fun aE=>?_)));refine o.V ?_;refine o.v1 (bb n cu) ?_;refine o.V ?_;refine o.v1 (bb aw cu) ?_;refine o.v1 cU (o.nil (aE ?_));refine aU (fun R=>?_) (fun R=>?_)
 ·
  refine G.L (fun aF=>?_);refine o.ak ?_;refine aF ?_;refine G.ret (aB (Q ?_));exact⟨by rw[decide_eq_false (fun e=>R (by have F:=congrArg List.length e;simp only[List.length_map]at F;rw[F]))],d⟩
 ·
  have hlen:a.length=b.length:=by omega
  refine G.skip (aA (G.t2 (fun aH aI=>G.L (fun aJ=>?_))));refine o.V ?_;refine o.v1 (bb n cu) ?_;refine o.V (o.nil (aJ ?_));refine G.aB (fun _ aK aL=>?_)
  refine G.bg (fun(i:(Nat))=>[(1,v2),(2,cJ),(15,v1),(16,.int .i64 (a.length:Int)),(17,.int .i64 (i:Int))])
   (fun(i:(Nat)) (H:Heap)=>(i≤a.length)∧((a.map (fun x=>(x.k.1,x.d))).take i=(b.map (fun x=>(x.k.1,x.d))).take i)∧aj I H)
   (fun(i:(Nat))=>a.length-i) 0 ⟨rfl,rfl,rfl,rfl,rfl,trivial⟩ ?_ ?_
  ·
   exact⟨(by omega),rfl,W.refl _ _⟩
  intro i A aM bj aN S;obtain⟨bz,he,j⟩:=aM;replace n:=n.M j;replace aw:=aw.M j;replace d:=d.L j;have bm:=j.size;refine G.L (fun aO=>?_);refine o.v1 bJ (o.nil (aO ?_));refine G.t2 (fun aY au=>?_);refine aU (fun aQ=>?_) (fun aQ=>?_)
  ·
   have P:i<a.length:=by omega
   have V:i<b.length:=by omega
   obtain⟨y,K⟩:∃q,q=a[i]:=⟨_,rfl⟩;obtain⟨z,L⟩:∃q,q=b[i]:=⟨_,rfl⟩;have bg:y∈a:=by rw[K];exact List.getElem_mem P
   have bh:z∈b:=by rw[L];exact List.getElem_mem V
   refine G.skip (aY (G.t2 (fun am aZ=>G.aB (fun ap _ a1=>G.L (fun a6=>?_)))));refine o.V ?_;refine o.bR (Y.bL n (i) rfl cu ck rfl rfl) fun bn a7=>?_;refine o.v1 (Y.cast (v2:=gZ y) (aT a7.N hJ ck (c0 _)) (by rw[K])) ?_;refine o.aO (cV kD) ?_;rintro k X ⟨rfl,k,C,a9,aR⟩;have bo:X.size=A.size+1:=by rw[aR];simp
   have aS:=(ay.new (aX.mono d.size):ay _ (A.size+1));have aW:T 0 I.size (A.size+1):=T.new d.size;have a0:T 0 I.size (A.size+1):=T.new j.size;replace aw:=aw.M C;replace d:=d.L C;replace j:=j.L C;have bp:=C.size;refine o.b2 ?_;refine o.s1 (dM k (_) (bO y) (gX y) ck (c0 _) ((c9 (c0 _).symm))) fun B a8=>?_;obtain⟨k,t⟩:=a8;replace t:=t.bs;replace aw:=aw.ab t (az.J aS);replace d:=d.bo t (ag.J (aq.q aW));replace j:=j.bo t (ag.J (aq.q a0));have bq:=t.size;refine o.nil (a6 (G.L (fun a_=>?_)));refine o.ax 2 ?_;refine o.bR (Y.bL aw (i) rfl cu ck rfl rfl) fun a2 ba=>?_;refine o.v1 (Y.cast (v2:=gZ z) (aT ba.N hJ ck (c0 _)) (by rw[L])) ?_;refine o.aO (cV kD) ?_;rintro v9 Z ⟨rfl,v9,E,bs,a3⟩;have a4:Z.size=B.size+1:=by rw[a3];simp
   have a5:af (A.size+1) (B.size+1):=af.new k.lt;have bc:T 0 I.size (B.size+1):=T.new d.size;have bd:T 0 I.size (B.size+1):=T.new j.size;replace k:=k.M E;replace d:=d.L E;replace j:=j.L E;have bt:=E.size;refine o.s1 (dM v9 (_) (bO z) (gX z) ck (c0 _) ((c9 (c0 _).symm))) fun bl ae=>?_;obtain⟨v9,ac⟩:=ae;replace ac:=ac.bs;replace k:=k.ab ac (ah.J a5);replace d:=d.bo ac (ag.J (aq.q bc));replace j:=j.bo ac (ag.J (aq.q bd));have bT:=ac.size;refine o.nil (a_ (G.L (fun ai=>?_)));refine o.V ?_;refine o.v1 (aT k.N hJ ck (c0 _)) ?_;refine o.v1 (aT v9.N hJ ck (c0 _)) ?_;refine o.kk rfl rfl rfl cQ rfl rfl (bf y z _ d bg bh) (fun be bu ab=>?_);obtain⟨rfl,O⟩:=ab;replace d:=d.L O;replace j:=j.L O;have bw:=O.size;refine o.v1 (Y.hp rfl rfl) (o.nil (ai ?_));refine aU (fun N=>?_) (fun N=>?_)
   ·
    refine G.L (fun ak=>?_);refine o.ak ?_;refine ak ?_;refine G.ret (a1 (aZ (S (aL (aI (Q ?_))))));exact⟨by rw[decide_eq_false (fun e=>N (by rw[K,L];have F:=List.getElem_of_eq e (by rw[List.length_map];exact P);simpa only[List.getElem_map]using F))],d⟩
   ·
    refine G.skip (ap (am (G.region ?_)));refine o.v1 bD ?_;refine o.V (o.nil ?_);refine aP.sub (aN (i+1) _ ?_ ?_) ⟨rfl,rfl,rfl,(aD (by omega)),(aD (by omega)),trivial⟩
    ·exact⟨(by omega),kr he (by rw[List.length_map];exact P) (by rw[List.length_map];exact V) (by rw[List.getElem_map,List.getElem_map,←K,←L];exact Decidable.not_not.1 N),j⟩
    ·first|omega|(simp only;omega)|(simp;omega)
  ·
   refine G.exit (au (S (aK ?_)));refine aH (G.L (fun al=>?_));refine o.ak ?_;refine al ?_;refine G.ret (Q ?_);exact⟨by rw[decide_eq_true (by have bF:(a.map (fun x=>(x.k.1,x.d))).length=a.length:=List.length_map _;have bG:(b.map (fun x=>(x.k.1,x.d))).length=b.length:=List.length_map _;rwa[List.take_of_length_le (by omega),List.take_of_length_le (by omega)]at he)],d⟩
theorem Dc(v1 v2 cJ:Value)(a b:List e8)(w0:World)(I:Heap)
 (n:bx I ek 2 v1 a) (aw:bx I ek 2 v2 b) (bf:∀(x y:e8) (aa:Heap),aj I aa→x∈a→y∈b→ff Tryz.prog w0 cJ [kT x,kT y] aa (fun r M=>r= .bool (decide ((x.n,x.l)=(y.n,y.l)))∧aj aa M)):
 aC Tryz.prog w0 70 #[v1,v2,cJ] I (fun r M=>r= .bool (decide (a.map (fun x=>(x.n,x.l))=b.map (fun x=>(x.n,x.l))))∧aj I M):=by
 refine aC.aK [v1,v2,cJ] Tryz.func70 ?_;intro bk Q;have d:aj I I:=W.refl _ _;replace n:=n.bw;replace aw:=aw.bw;have aX:=aw.bY;have bA:=n.len;have bC:=aw.len;refine G.L (fun ar=>?_);refine o.ak ?_;refine ar (G.t2 (fun aA aB=>G.L (fun aE=>?_)));refine o.V ?_;refine o.v1 (bb n fG) ?_;refine o.V ?_;refine o.v1 (bb aw fG) ?_;refine o.v1 cU (o.nil (aE ?_));refine aU (fun R=>?_) (fun R=>?_)
 ·
  refine G.L (fun aF=>?_);refine o.ak ?_;refine aF ?_;refine G.ret (aB (Q ?_));exact⟨by rw[decide_eq_false (fun e=>R (by have F:=congrArg List.length e;simp only[List.length_map]at F;rw[F]))],d⟩
 ·
  have hlen:a.length=b.length:=by omega
  refine G.skip (aA (G.t2 (fun aH aI=>G.L (fun aJ=>?_))));refine o.V ?_;refine o.v1 (bb n fG) ?_;refine o.V (o.nil (aJ ?_));refine G.aB (fun _ aK aL=>?_)
  refine G.bg (fun(i:(Nat))=>[(1,v2),(2,cJ),(15,v1),(16,.int .i64 (a.length:Int)),(17,.int .i64 (i:Int))])
   (fun(i:(Nat)) (H:Heap)=>(i≤a.length)∧((a.map (fun x=>(x.n,x.l))).take i=(b.map (fun x=>(x.n,x.l))).take i)∧aj I H)
   (fun(i:(Nat))=>a.length-i) 0 ⟨rfl,rfl,rfl,rfl,rfl,trivial⟩ ?_ ?_
  ·
   exact⟨(by omega),rfl,W.refl _ _⟩
  intro i A aM bj aN S;obtain⟨bz,he,j⟩:=aM;replace n:=n.M j;replace aw:=aw.M j;replace d:=d.L j;have bm:=j.size;refine G.L (fun aO=>?_);refine o.v1 bJ (o.nil (aO ?_));refine G.t2 (fun aY au=>?_);refine aU (fun aQ=>?_) (fun aQ=>?_)
  ·
   have P:i<a.length:=by omega
   have V:i<b.length:=by omega
   obtain⟨y,K⟩:∃q,q=a[i]:=⟨_,rfl⟩;obtain⟨z,L⟩:∃q,q=b[i]:=⟨_,rfl⟩;have bg:y∈a:=by rw[K];exact List.getElem_mem P
   have bh:z∈b:=by rw[L];exact List.getElem_mem V
   refine G.skip (aY (G.t2 (fun am aZ=>G.aB (fun ap _ a1=>G.L (fun a6=>?_)))));refine o.V ?_;refine o.bR (Y.bL n (i) rfl fG fp rfl rfl) fun bn a7=>?_;refine o.v1 (Y.cast (v2:=kT y) (aT a7.N lQ fp (fL _)) (by rw[K])) ?_;refine o.aO (cV pA) ?_;rintro k X ⟨rfl,k,C,a9,aR⟩;have bo:X.size=A.size+1:=by rw[aR];simp
   have aS:=(ay.new (aX.mono d.size):ay _ (A.size+1));have aW:T 0 I.size (A.size+1):=T.new d.size;have a0:T 0 I.size (A.size+1):=T.new j.size;replace aw:=aw.M C;replace d:=d.L C;replace j:=j.L C;have bp:=C.size;refine o.b2 ?_;refine o.s1 (dM k (_) (ek y) (ju y) fp (fL _) ((c9 (fL _).symm))) fun B a8=>?_;obtain⟨k,t⟩:=a8;replace t:=t.bs;replace aw:=aw.ab t (az.J aS);replace d:=d.bo t (ag.J (aq.q aW));replace j:=j.bo t (ag.J (aq.q a0));have bq:=t.size;refine o.nil (a6 (G.L (fun a_=>?_)));refine o.ax 2 ?_;refine o.bR (Y.bL aw (i) rfl fG fp rfl rfl) fun a2 ba=>?_;refine o.v1 (Y.cast (v2:=kT z) (aT ba.N lQ fp (fL _)) (by rw[L])) ?_;refine o.aO (cV pA) ?_;rintro v9 Z ⟨rfl,v9,E,bs,a3⟩;have a4:Z.size=B.size+1:=by rw[a3];simp
   have a5:af (A.size+1) (B.size+1):=af.new k.lt;have bc:T 0 I.size (B.size+1):=T.new d.size;have bd:T 0 I.size (B.size+1):=T.new j.size;replace k:=k.M E;replace d:=d.L E;replace j:=j.L E;have bt:=E.size;refine o.s1 (dM v9 (_) (ek z) (ju z) fp (fL _) ((c9 (fL _).symm))) fun bl ae=>?_;obtain⟨v9,ac⟩:=ae;replace ac:=ac.bs;replace k:=k.ab ac (ah.J a5);replace d:=d.bo ac (ag.J (aq.q bc));replace j:=j.bo ac (ag.J (aq.q bd));have bT:=ac.size;refine o.nil (a_ (G.L (fun ai=>?_)));refine o.V ?_;refine o.v1 (aT k.N lQ fp (fL _)) ?_;refine o.v1 (aT v9.N lQ fp (fL _)) ?_;refine o.kk rfl rfl rfl cQ rfl rfl (bf y z _ d bg bh) (fun be bu ab=>?_);obtain⟨rfl,O⟩:=ab;replace d:=d.L O;replace j:=j.L O;have bw:=O.size;refine o.v1 (Y.hp rfl rfl) (o.nil (ai ?_));refine aU (fun N=>?_) (fun N=>?_)
   ·
    refine G.L (fun ak=>?_);refine o.ak ?_;refine ak ?_;refine G.ret (a1 (aZ (S (aL (aI (Q ?_))))));exact⟨by rw[decide_eq_false (fun e=>N (by rw[K,L];have F:=List.getElem_of_eq e (by rw[List.length_map];exact P);simpa only[List.getElem_map]using F))],d⟩
   ·
    refine G.skip (ap (am (G.region ?_)));refine o.v1 bD ?_;refine o.V (o.nil ?_);refine aP.sub (aN (i+1) _ ?_ ?_) ⟨rfl,rfl,rfl,(aD (by omega)),(aD (by omega)),trivial⟩
    ·exact⟨(by omega),kr he (by rw[List.length_map];exact P) (by rw[List.length_map];exact V) (by rw[List.getElem_map,List.getElem_map,←K,←L];exact Decidable.not_not.1 N),j⟩
    ·first|omega|(simp only;omega)|(simp;omega)
  ·
   refine G.exit (au (S (aK ?_)));refine aH (G.L (fun al=>?_));refine o.ak ?_;refine al ?_;refine G.ret (Q ?_);exact⟨by rw[decide_eq_true (by have bE:(a.map (fun x=>(x.n,x.l))).length=a.length:=List.length_map _;have bF:(b.map (fun x=>(x.n,x.l))).length=b.length:=List.length_map _;rwa[List.take_of_length_le (by omega),List.take_of_length_le (by omega)]at he)],d⟩
theorem ES(x y:bA)(w0:World)(I:Heap)
 (k:bx I a1 1 x.v.v x.d) (hy:bx I a1 1 y.v.v y.d):
 aC Tryz.prog w0 144 #[gZ x,gZ y] I (fun r n=>r= .bool (decide ((x.k.1,x.d)=(y.k.1,y.d)))∧aj I n):=by
 refine aC.aK [gZ x,gZ y] Tryz.func144 ?_;intro H B;have i:aj I I:=W.refl _ _;replace k:=k.bw;replace hy:=hy.bw;refine G.L (fun E=>?_);refine o.aO cq ?_;rintro v2 n ⟨rfl,j,t,K,L⟩;replace k:=k.M t;replace hy:=hy.M t;replace i:=i.L t;replace j:Var 68 n I.size (bO x):=j;refine o.aO cq ?_;rintro v3 C ⟨rfl,aS,q,M,N⟩;replace k:=k.M q;replace hy:=hy.M q;replace j:=j.M q;replace i:=i.L q;replace aS:Var 68 C n.size (bO y):=aS;refine o.ak ?_;refine E (G.L (fun A=>?_));refine o.v1 (Y.ai j.N rfl eX rfl a_) ?_;refine o.v1 (Y.cast (v2:=bq x.k) (aT (j.N.take 32) b_ a_ (by rw[show(bO x).take 32=b7 x.k from eN _];exact bB _)) ((b6 (show(bO x).take 32=b7 x.k from eN _)))) ?_;refine o.v1 (Y.ai aS.N rfl eX rfl a_) ?_;refine o.v1 (Y.cast (v2:=bq y.k) (aT (aS.N.take 32) b_ a_ (by rw[show(bO y).take 32=b7 y.k from eN _];exact bB _)) ((b6 (show(bO y).take 32=b7 y.k from eN _)))) ?_;refine o.v1 (Y.ia rfl Tryz.eqGuardType26 (fun w=>fV 9998 Tryz.underlying26 Tryz.underlying5 cN dS (x.k.2) (y.k.2) w) rfl rfl) ?_;refine o.V ?_;refine o.bj (d:=10) rfl (fun ac=>?_) (fun ac=>?_)
 ·
  refine o.ao (Y.ai j.N rfl eX rfl db) ?_;refine o.ao (ar j.N.ji eD) ?_;refine o.ao (Y.ai aS.N rfl eX rfl db) ?_;refine o.ao (ar aS.N.ji eD) ?_;refine o.call rfl Bl rfl bd rfl rfl (AT _ _ x.d y.d w0 _ k.any hy.any) (fun au am F=>?_);obtain⟨rfl,ad⟩:=F;replace i:=i.L ad;refine o.aQ 2 ?_;refine A ?_;refine G.ret (B ?_);exact⟨congrArg Value.bool (decide_eq_decide.2 ⟨fun h=>by rw[ac,h],fun h=>(Prod.mk.inj h).2⟩),i⟩
 ·
  refine o.aQ 7 ?_;refine A ?_;refine G.ret (B ?_);exact⟨by rw[decide_eq_false (fun h=>ac (Prod.mk.inj h).1)],i⟩
theorem Eb(x y:e8)(w0:World)(I:Heap)
 (k:bx I dt 65 x.v.v x.l) (hy:bx I dt 65 y.v.v y.l):
 aC Tryz.prog w0 71 #[kT x,kT y] I (fun r q=>r= .bool (decide ((x.n,x.l)=(y.n,y.l)))∧aj I q):=by
 refine aC.aK [kT x,kT y] Tryz.func71 ?_;intro M C;have i:aj I I:=W.refl _ _;replace k:=k.bw;replace hy:=hy.bw;refine G.L (fun H=>?_);refine o.aO cq ?_;rintro v2 q ⟨rfl,j,ac,N,O⟩;replace k:=k.M ac;replace hy:=hy.M ac;replace i:=i.L ac;replace j:Var 62 q I.size (ek x):=j;refine o.aO cq ?_;rintro v3 E ⟨rfl,aS,t,P,au⟩;replace k:=k.M t;replace hy:=hy.M t;replace j:=j.M t;replace i:=i.L t;replace aS:Var 62 E q.size (ek y):=aS;refine o.ak ?_;refine H (G.L (fun A=>?_));refine o.v1 (Y.ai j.N rfl fZ rfl bP) ?_;refine o.v1 (ar j.N bN) ?_;refine o.v1 (Y.ai aS.N rfl fZ rfl bP) ?_;refine o.v1 (ar aS.N bN) ?_;refine aW B_ (CA x.n y.n w0 _) ?_;rintro v9 L ⟨R,rfl,B,n⟩;replace k:=k.M n;replace hy:=hy.M n;replace j:=j.M n;replace aS:=aS.M n;replace i:=i.L n;refine o.v1 b9 ?_;refine o.V ?_;refine o.bj (d:=11) rfl (fun ad=>?_) (fun ad=>?_)
 ·
  refine o.ao (Y.ai j.N rfl fZ rfl gS) ?_;refine o.ao (ar (j.N.drop 1) h_) ?_;refine o.ao (Y.ai aS.N rfl fZ rfl gS) ?_;refine o.ao (ar (aS.N.drop 1) h_) ?_;refine o.call rfl Ca rfl bd rfl rfl (Eu _ _ x.l y.l w0 _ k.any hy.any) (fun am Q K=>?_);obtain⟨rfl,F⟩:=K;replace i:=i.L F;refine o.aQ 2 ?_;refine A ?_;refine G.ret (C ?_);exact⟨congrArg Value.bool (decide_eq_decide.2 ⟨fun h=>by rw[B.1 ad,h],fun h=>(Prod.mk.inj h).2⟩),i⟩
 ·
  refine o.aQ 7 ?_;refine A ?_;refine G.ret (C ?_);exact⟨by rw[decide_eq_false (fun h=>ad (B.2 (Prod.mk.inj h).1))],i⟩
theorem xz(w0:World)(H:Heap)(x y:bA)(i:bx H a1 1 x.v.v x.d)(hy:bx H a1 1 y.v.v y.d):ff Tryz.prog w0 (.func (.func 144) #[] #[]) [gZ x,gZ y] H (fun r d=>r= .bool (decide ((x.k.1,x.d)=(y.k.1,y.d)))∧aj H d):=
 ff.of (caps:=[]) Bk (ES x y w0 H i hy)
theorem Ea(w0:World)(H:Heap)(x y:e8)(i:bx H dt 65 x.v.v x.l)(hy:bx H dt 65 y.v.v y.l):ff Tryz.prog w0 (.func (.func 71) #[] #[]) [kT x,kT y] H (fun r d=>r= .bool (decide ((x.n,x.l)=(y.n,y.l)))∧aj H d):=
 ff.of (caps:=[]) B9 (Eb x y w0 H i hy)
theorem FY(a b:cZ)(w0:World)(I:Heap)
 (k:bx I c2 33 a.cd.v a.a6) (aw:bx I c2 33 b.cd.v b.a6):
 aC Tryz.prog w0 68 #[er a,er b] I (fun r B=>r= .bool (decide (lg a b))∧aj I B):=by
 refine aC.aK [er a,er b] Tryz.func68 ?_;intro af aa;have j:aj I I:=W.refl _ _;replace k:=k.bw;replace aw:=aw.bw;refine G.L (fun au=>?_);refine o.aO cq ?_;rintro v2 B ⟨rfl,i,L,ag,ap⟩;replace k:=k.M L;replace aw:=aw.M L;replace j:=j.L L;replace i:Var 29 B I.size (dX a):=i;refine o.aO cq ?_;rintro v3 ab ⟨rfl,aS,C,ah,ai⟩;replace k:=k.M C;replace aw:=aw.M C;replace i:=i.M C;replace j:=j.L C;replace aS:Var 29 ab B.size (dX b):=aS;refine o.ak ?_;refine au (G.L (fun S=>?_));refine o.v1 (Y.ai i.N rfl bt rfl b0) ?_;refine o.v1 (ar i.N cj) ?_;refine o.v1 (Y.ai aS.N rfl bt rfl b0) ?_;refine o.v1 (ar aS.N cj) ?_;refine o.v1 b9 ?_;refine o.V ?_;refine o.join (d:=16) (v:= .bool (decide (a.k=b.k∧a.br=b.br))) 6 (fun M=>?_) ?_
 ·
  refine o.bj (d:=10) rfl (fun ac=>?_) (fun ac=>?_)
  ·
   refine o.ao (Y.ai i.N rfl bt rfl bP) ?_;refine o.ao (ar (i.N.drop 1) bN) ?_;refine o.ao (Y.ai aS.N rfl bt rfl bP) ?_;refine o.ao (ar (aS.N.drop 1) bN) ?_;refine o.ao (Y.jz rfl rfl rfl) ?_;refine o.N ?_;exact M _ (congrArg (fun b=>some (Value.bool b)) (by simp[ac])) (ae (ae (ae (ae (ae (ae (bC (congrArg Value.bool (decide_eq_true ac).symm))))))))
  ·
   refine o.ax 6 ?_;exact M _ (congrArg (fun b=>some (Value.bool b)) (by simp[ac])) (ae (ae (ae (ae (ae (ae (bC (congrArg Value.bool (decide_eq_false ac).symm))))))))
 refine o.V ?_;refine o.join (d:=23) (v:= .bool (decide ((a.k=b.k∧a.br=b.br)∧a.bX=b.bX))) 6 (fun N=>?_) ?_
 ·
  refine o.bj (d:=17) rfl (fun ad=>?_) (fun ad=>?_)
  ·
   refine o.ao (Y.ai i.N rfl bt rfl a_) ?_;refine o.ao (Y.cast (v2:=bq a.bX) (aT ((i.N.drop 2).take 32) b_ a_ (by rw[hC];exact bB _)) (b6 (hC _))) ?_;refine o.ao (Y.ai aS.N rfl bt rfl a_) ?_;refine o.ao (Y.cast (v2:=bq b.bX) (aT ((aS.N.drop 2).take 32) b_ a_ (by rw[hC];exact bB _)) (b6 (hC _))) ?_;refine o.ao (Y.cast (v2:= .bool (decide (a.bX=b.bX))) (Y.ia rfl Tryz.eqGuardType26 (fun w=>fV 9998 Tryz.underlying26 Tryz.underlying5 cN dS (a.bX.2) (b.bX.2) w) rfl rfl) ((congrArg Value.bool (decide_eq_decide.2 ⟨fun e=>Subtype.ext e,fun e=>congrArg Subtype.val e⟩)))) ?_;refine o.N ?_;exact N _ (congrArg (fun b=>some (Value.bool b)) (by simp[ad])) (ae (ae (ae (ae (ae (ae (bC (congrArg Value.bool (decide_eq_true ad).symm))))))))
  ·
   refine o.ax 6 ?_;exact N _ (congrArg (fun b=>some (Value.bool b)) (by simp[ad])) (ae (ae (ae (ae (ae (ae (bC (congrArg Value.bool (decide_eq_false ad).symm))))))))
 refine o.V ?_;refine o.join (d:=30) (v:= .bool (decide (((a.k=b.k∧a.br=b.br)∧a.bX=b.bX)∧a.bm=b.bm))) 6 (fun O=>?_) ?_
 ·
  refine o.bj (d:=24) rfl (fun q=>?_) (fun q=>?_)
  ·
   refine o.ao (Y.ai i.N rfl bt rfl a_) ?_;refine o.ao (Y.cast (v2:=bq a.bm) (aT ((i.N.drop 34).take 32) b_ a_ (by rw[hB];exact bB _)) (b6 (hB _))) ?_;refine o.ao (Y.ai aS.N rfl bt rfl a_) ?_;refine o.ao (Y.cast (v2:=bq b.bm) (aT ((aS.N.drop 34).take 32) b_ a_ (by rw[hB];exact bB _)) (b6 (hB _))) ?_;refine o.ao (Y.cast (v2:= .bool (decide (a.bm=b.bm))) (Y.ia rfl Tryz.eqGuardType26 (fun w=>fV 9998 Tryz.underlying26 Tryz.underlying5 cN dS (a.bm.2) (b.bm.2) w) rfl rfl) ((congrArg Value.bool (decide_eq_decide.2 ⟨fun e=>Subtype.ext e,fun e=>congrArg Subtype.val e⟩)))) ?_;refine o.N ?_;exact O _ (congrArg (fun b=>some (Value.bool b)) (by simp[q])) (ae (ae (ae (ae (ae (ae (bC (congrArg Value.bool (decide_eq_true q).symm))))))))
  ·
   refine o.ax 6 ?_;exact O _ (congrArg (fun b=>some (Value.bool b)) (by simp[q])) (ae (ae (ae (ae (ae (ae (bC (congrArg Value.bool (decide_eq_false q).symm))))))))
 refine o.V ?_;refine o.bj (d:=31) rfl (fun n=>?_) (fun n=>?_)
 ·
  refine o.ao (Y.ai i.N rfl bt rfl ep) ?_;refine o.ao (ar i.N.fO fi) ?_;refine o.ao (Y.ai aS.N rfl bt rfl ep) ?_;refine o.ao (ar aS.N.fO fi) ?_;refine o.call rfl u_ rfl bd rfl rfl (zi _ _ a.a6 b.a6 w0 _ k.any aw.any) (fun ak al am=>?_);obtain⟨rfl,K⟩:=am;replace i:=i.M K;replace aS:=aS.M K;replace j:=j.L K;refine o.ax 2 ?_;refine o.join (d:=44) (v:= .bool (decide (a.a6=b.a6∧a.dn=b.dn))) 6 (fun P=>?_) ?_
  ·
   refine o.bj (d:=38) rfl (fun t=>?_) (fun t=>?_)
   ·
    refine o.ao (Y.ai i.N rfl bt rfl b0) ?_;refine o.ao (ar i.N.iu cj) ?_;refine o.ao (Y.ai aS.N rfl bt rfl b0) ?_;refine o.ao (ar aS.N.iu cj) ?_;refine o.ao b9 ?_;refine o.N ?_;exact P _ (congrArg (fun b=>some (Value.bool b)) (by simp[t])) (ae (ae (ae (ae (ae (ae (bC (congrArg Value.bool (decide_eq_true t).symm))))))))
   ·
    refine o.ax 6 ?_;exact P _ (congrArg (fun b=>some (Value.bool b)) (by simp[t])) (ae (ae (ae (ae (ae (ae (bC (congrArg Value.bool (decide_eq_false t).symm))))))))
  refine o.V ?_;refine o.join (d:=51) (v:= .bool (decide ((a.a6=b.a6∧a.dn=b.dn)∧a.md=b.md))) 6 (fun Q=>?_) ?_
  ·
   refine o.bj (d:=45) rfl (fun x=>?_) (fun x=>?_)
   ·
    refine o.ao (Y.ai i.N rfl bt rfl b0) ?_;refine o.ao (ar i.N.jB cj) ?_;refine o.ao (Y.ai aS.N rfl bt rfl b0) ?_;refine o.ao (ar aS.N.jB cj) ?_;refine o.ao b9 ?_;refine o.N ?_;exact Q _ (congrArg (fun b=>some (Value.bool b)) (by simp[x])) (ae (ae (ae (ae (ae (ae (bC (congrArg Value.bool (decide_eq_true x).symm))))))))
   ·
    refine o.ax 6 ?_;exact Q _ (congrArg (fun b=>some (Value.bool b)) (by simp[x])) (ae (ae (ae (ae (ae (ae (bC (congrArg Value.bool (decide_eq_false x).symm))))))))
  refine o.V ?_;refine o.join (d:=58) (v:= .bool (decide (((a.a6=b.a6∧a.dn=b.dn)∧a.md=b.md)∧a.st=b.st))) 6 (fun R=>?_) ?_
  ·
   refine o.bj (d:=52) rfl (fun A=>?_) (fun A=>?_)
   ·
    refine o.ao (Y.ai i.N rfl bt rfl cX) ?_;refine o.ao (ar i.N.k4 dA) ?_;refine o.ao (Y.ai aS.N rfl bt rfl cX) ?_;refine o.ao (ar aS.N.k4 dA) ?_;refine o.ao (Y.uR rfl Tryz.underlying4 rfl rfl) ?_;refine o.N ?_;exact R _ (congrArg (fun b=>some (Value.bool b)) (by simp[A])) (ae (ae (ae (ae (ae (ae (bC (congrArg Value.bool (decide_eq_true A).symm))))))))
   ·
    refine o.ax 6 ?_;exact R _ (congrArg (fun b=>some (Value.bool b)) (by simp[A])) (ae (ae (ae (ae (ae (ae (bC (congrArg Value.bool (decide_eq_false A).symm))))))))
  refine o.ak ?_;refine S ?_;refine G.ret (aa ?_);exact⟨congrArg Value.bool (decide_eq_decide.2 ⟨fun⟨⟨⟨E,U⟩,F⟩,H⟩=>⟨n.1.1.1,n.1.1.2,n.1.2,n.2,U,F,H,E⟩,fun⟨E,U,F,H,T,V,X,Z⟩=>⟨⟨⟨Z,T⟩,V⟩,X⟩⟩),j⟩
 ·
  refine o.aQ 28 ?_;refine S ?_;refine G.ret (aa ?_);exact⟨by rw[decide_eq_false (fun⟨E,U,F,H,T,V,X,Z⟩=>n ⟨⟨⟨E,U⟩,F⟩,H⟩)],j⟩
theorem CN(a b:cZ)(w0:World)(I:Heap)
 (k:bx I c2 33 a.cd.v a.a6) (aw:bx I c2 33 b.cd.v b.a6):
 aC Tryz.prog w0 142 #[er a,er b] I (fun r B=>r= .bool (decide (lg a b))∧aj I B):=by
 refine aC.aK [er a,er b] Tryz.func142 ?_;intro af aa;have j:aj I I:=W.refl _ _;replace k:=k.bw;replace aw:=aw.bw;refine G.L (fun au=>?_);refine o.aO cq ?_;rintro v2 B ⟨rfl,i,L,ag,ap⟩;replace k:=k.M L;replace aw:=aw.M L;replace j:=j.L L;replace i:Var 29 B I.size (dX a):=i;refine o.aO cq ?_;rintro v3 ab ⟨rfl,aS,C,ah,ai⟩;replace k:=k.M C;replace aw:=aw.M C;replace i:=i.M C;replace j:=j.L C;replace aS:Var 29 ab B.size (dX b):=aS;refine o.ak ?_;refine au (G.L (fun S=>?_));refine o.v1 (Y.ai i.N rfl bt rfl b0) ?_;refine o.v1 (ar i.N cj) ?_;refine o.v1 (Y.ai aS.N rfl bt rfl b0) ?_;refine o.v1 (ar aS.N cj) ?_;refine o.v1 b9 ?_;refine o.V ?_;refine o.join (d:=16) (v:= .bool (decide (a.k=b.k∧a.br=b.br))) 6 (fun M=>?_) ?_
 ·
  refine o.bj (d:=10) rfl (fun ac=>?_) (fun ac=>?_)
  ·
   refine o.ao (Y.ai i.N rfl bt rfl bP) ?_;refine o.ao (ar (i.N.drop 1) bN) ?_;refine o.ao (Y.ai aS.N rfl bt rfl bP) ?_;refine o.ao (ar (aS.N.drop 1) bN) ?_;refine o.ao (Y.jz rfl rfl rfl) ?_;refine o.N ?_;exact M _ (congrArg (fun b=>some (Value.bool b)) (by simp[ac])) (ae (ae (ae (ae (ae (ae (bC (congrArg Value.bool (decide_eq_true ac).symm))))))))
  ·
   refine o.ax 6 ?_;exact M _ (congrArg (fun b=>some (Value.bool b)) (by simp[ac])) (ae (ae (ae (ae (ae (ae (bC (congrArg Value.bool (decide_eq_false ac).symm))))))))
 refine o.V ?_;refine o.join (d:=23) (v:= .bool (decide ((a.k=b.k∧a.br=b.br)∧a.bX=b.bX))) 6 (fun N=>?_) ?_
 ·
  refine o.bj (d:=17) rfl (fun ad=>?_) (fun ad=>?_)
  ·
   refine o.ao (Y.ai i.N rfl bt rfl a_) ?_;refine o.ao (Y.cast (v2:=bq a.bX) (aT ((i.N.drop 2).take 32) b_ a_ (by rw[hC];exact bB _)) (b6 (hC _))) ?_;refine o.ao (Y.ai aS.N rfl bt rfl a_) ?_;refine o.ao (Y.cast (v2:=bq b.bX) (aT ((aS.N.drop 2).take 32) b_ a_ (by rw[hC];exact bB _)) (b6 (hC _))) ?_;refine o.ao (Y.cast (v2:= .bool (decide (a.bX=b.bX))) (Y.ia rfl Tryz.eqGuardType26 (fun w=>fV 9998 Tryz.underlying26 Tryz.underlying5 cN dS (a.bX.2) (b.bX.2) w) rfl rfl) ((congrArg Value.bool (decide_eq_decide.2 ⟨fun e=>Subtype.ext e,fun e=>congrArg Subtype.val e⟩)))) ?_;refine o.N ?_;exact N _ (congrArg (fun b=>some (Value.bool b)) (by simp[ad])) (ae (ae (ae (ae (ae (ae (bC (congrArg Value.bool (decide_eq_true ad).symm))))))))
  ·
   refine o.ax 6 ?_;exact N _ (congrArg (fun b=>some (Value.bool b)) (by simp[ad])) (ae (ae (ae (ae (ae (ae (bC (congrArg Value.bool (decide_eq_false ad).symm))))))))
 refine o.V ?_;refine o.join (d:=30) (v:= .bool (decide (((a.k=b.k∧a.br=b.br)∧a.bX=b.bX)∧a.bm=b.bm))) 6 (fun O=>?_) ?_
 ·
  refine o.bj (d:=24) rfl (fun q=>?_) (fun q=>?_)
  ·
   refine o.ao (Y.ai i.N rfl bt rfl a_) ?_;refine o.ao (Y.cast (v2:=bq a.bm) (aT ((i.N.drop 34).take 32) b_ a_ (by rw[hB];exact bB _)) (b6 (hB _))) ?_;refine o.ao (Y.ai aS.N rfl bt rfl a_) ?_;refine o.ao (Y.cast (v2:=bq b.bm) (aT ((aS.N.drop 34).take 32) b_ a_ (by rw[hB];exact bB _)) (b6 (hB _))) ?_;refine o.ao (Y.cast (v2:= .bool (decide (a.bm=b.bm))) (Y.ia rfl Tryz.eqGuardType26 (fun w=>fV 9998 Tryz.underlying26 Tryz.underlying5 cN dS (a.bm.2) (b.bm.2) w) rfl rfl) ((congrArg Value.bool (decide_eq_decide.2 ⟨fun e=>Subtype.ext e,fun e=>congrArg Subtype.val e⟩)))) ?_;refine o.N ?_;exact O _ (congrArg (fun b=>some (Value.bool b)) (by simp[q])) (ae (ae (ae (ae (ae (ae (bC (congrArg Value.bool (decide_eq_true q).symm))))))))
  ·
   refine o.ax 6 ?_;exact O _ (congrArg (fun b=>some (Value.bool b)) (by simp[q])) (ae (ae (ae (ae (ae (ae (bC (congrArg Value.bool (decide_eq_false q).symm))))))))
 refine o.V ?_;refine o.bj (d:=31) rfl (fun n=>?_) (fun n=>?_)
 ·
  refine o.ao (Y.ai i.N rfl bt rfl ep) ?_;refine o.ao (ar i.N.fO fi) ?_;refine o.ao (Y.ai aS.N rfl bt rfl ep) ?_;refine o.ao (ar aS.N.fO fi) ?_;refine o.call rfl u_ rfl bd rfl rfl (zi _ _ a.a6 b.a6 w0 _ k.any aw.any) (fun ak al am=>?_);obtain⟨rfl,K⟩:=am;replace i:=i.M K;replace aS:=aS.M K;replace j:=j.L K;refine o.ax 2 ?_;refine o.join (d:=44) (v:= .bool (decide (a.a6=b.a6∧a.dn=b.dn))) 6 (fun P=>?_) ?_
  ·
   refine o.bj (d:=38) rfl (fun t=>?_) (fun t=>?_)
   ·
    refine o.ao (Y.ai i.N rfl bt rfl b0) ?_;refine o.ao (ar i.N.iu cj) ?_;refine o.ao (Y.ai aS.N rfl bt rfl b0) ?_;refine o.ao (ar aS.N.iu cj) ?_;refine o.ao b9 ?_;refine o.N ?_;exact P _ (congrArg (fun b=>some (Value.bool b)) (by simp[t])) (ae (ae (ae (ae (ae (ae (bC (congrArg Value.bool (decide_eq_true t).symm))))))))
   ·
    refine o.ax 6 ?_;exact P _ (congrArg (fun b=>some (Value.bool b)) (by simp[t])) (ae (ae (ae (ae (ae (ae (bC (congrArg Value.bool (decide_eq_false t).symm))))))))
  refine o.V ?_;refine o.join (d:=51) (v:= .bool (decide ((a.a6=b.a6∧a.dn=b.dn)∧a.md=b.md))) 6 (fun Q=>?_) ?_
  ·
   refine o.bj (d:=45) rfl (fun x=>?_) (fun x=>?_)
   ·
    refine o.ao (Y.ai i.N rfl bt rfl b0) ?_;refine o.ao (ar i.N.jB cj) ?_;refine o.ao (Y.ai aS.N rfl bt rfl b0) ?_;refine o.ao (ar aS.N.jB cj) ?_;refine o.ao b9 ?_;refine o.N ?_;exact Q _ (congrArg (fun b=>some (Value.bool b)) (by simp[x])) (ae (ae (ae (ae (ae (ae (bC (congrArg Value.bool (decide_eq_true x).symm))))))))
   ·
    refine o.ax 6 ?_;exact Q _ (congrArg (fun b=>some (Value.bool b)) (by simp[x])) (ae (ae (ae (ae (ae (ae (bC (congrArg Value.bool (decide_eq_false x).symm))))))))
  refine o.V ?_;refine o.join (d:=58) (v:= .bool (decide (((a.a6=b.a6∧a.dn=b.dn)∧a.md=b.md)∧a.st=b.st))) 6 (fun R=>?_) ?_
  ·
   refine o.bj (d:=52) rfl (fun A=>?_) (fun A=>?_)
   ·
    refine o.ao (Y.ai i.N rfl bt rfl cX) ?_;refine o.ao (ar i.N.k4 dA) ?_;refine o.ao (Y.ai aS.N rfl bt rfl cX) ?_;refine o.ao (ar aS.N.k4 dA) ?_;refine o.ao (Y.uR rfl Tryz.underlying4 rfl rfl) ?_;refine o.N ?_;exact R _ (congrArg (fun b=>some (Value.bool b)) (by simp[A])) (ae (ae (ae (ae (ae (ae (bC (congrArg Value.bool (decide_eq_true A).symm))))))))
   ·
    refine o.ax 6 ?_;exact R _ (congrArg (fun b=>some (Value.bool b)) (by simp[A])) (ae (ae (ae (ae (ae (ae (bC (congrArg Value.bool (decide_eq_false A).symm))))))))
  refine o.ak ?_;refine S ?_;refine G.ret (aa ?_);exact⟨congrArg Value.bool (decide_eq_decide.2 ⟨fun⟨⟨⟨E,U⟩,F⟩,H⟩=>⟨n.1.1.1,n.1.1.2,n.1.2,n.2,U,F,H,E⟩,fun⟨E,U,F,H,T,V,X,Z⟩=>⟨⟨⟨Z,T⟩,V⟩,X⟩⟩),j⟩
 ·
  refine o.aQ 28 ?_;refine S ?_;refine G.ret (aa ?_);exact⟨by rw[decide_eq_false (fun⟨E,U,F,H,T,V,X,Z⟩=>n ⟨⟨⟨E,U⟩,F⟩,H⟩)],j⟩
theorem CQ(K L:cZ)(V X:aN)(O aY:List bA)(w0:World)(I:Heap)
 (B:bx I c2 33 K.cd.v K.a6) (C:bx I c2 33 L.cd.v L.a6) (n:bx I bO 33 V.v O) (q:bx I bO 33 X.v aY) (t:∀y∈O,bx I a1 1 y.v.v y.d) (A:∀y∈aY,bx I a1 1 y.v.v y.d) (ak:lg K L):
 aC Tryz.prog w0 69 #[dG ⟨false,[],cM,[],true,K,V,O⟩,dG ⟨false,[],cM,[],true,L,X,aY⟩] I (fun r S=>r= .bool (decide (cn O=cn aY))∧aj I S):=by
 refine aC.aK [dG ⟨false,[],cM,[],true,K,V,O⟩,dG ⟨false,[],cM,[],true,L,X,aY⟩] Tryz.func69 ?_;intro bI aL;have j:aj I I:=W.refl _ _;replace B:=B.bw;have aF:=B.bY;replace C:=C.bw;have aH:=C.bY;replace n:=n.bw;have aI:=n.bY;replace q:=q.bw;have aJ:=q.bY;replace t:=fun y i=>(t y i).bw;have aK:bh (fun b=>True∧b<I.size) I.size:=fun b h=>h.2;replace A:=fun y i=>(A y i).bw;have au:bh (fun b=>True∧b<I.size) I.size:=fun b h=>h.2;refine G.L (fun bo=>?_);refine o.aO cq ?_;rintro v2 S ⟨rfl,k,R,bJ,bK⟩;replace B:=B.M R;replace C:=C.M R;replace n:=n.M R;replace q:=q.M R;replace t:=fun y i=>(t y i).M R;replace A:=fun y i=>(A y i).M R;replace j:=j.L R;replace k:Var 32 S I.size (c_ ⟨false,[],cM,[],true,K,V,O⟩):=k;refine o.aO cq ?_;rintro v3 aM ⟨rfl,aS,P,bL,bT⟩;replace B:=B.M P;replace C:=C.M P;replace n:=n.M P;replace q:=q.M P;replace t:=fun y i=>(t y i).M P;replace A:=fun y i=>(A y i).M P;replace k:=k.M P;replace j:=j.L P;replace aS:Var 32 aM S.size (c_ ⟨false,[],cM,[],true,L,X,aY⟩):=aS;refine o.ak ?_;refine bo (G.t1 (fun bp=>G.L (fun bq=>?_)));refine o.v1 (Y.ai k.N rfl bu rfl cX) ?_;refine o.v1 (ar k.N dA) ?_;refine o.v1 (Y.ai aS.N rfl bu rfl cX) ?_;refine o.v1 (ar aS.N dA) ?_;refine o.v1 ((Y.pU rfl Tryz.underlying4 rfl rfl).fm (by simp)) ?_;refine o.V ?_;refine o.ao (Y.ai k.N rfl bu rfl cX) ?_;refine o.ao (ar k.N dA) ?_;refine o.ax 6 ?_;refine o.ao dH ?_;refine o.ax 2 ?_;refine o.ao (Y.ai k.N rfl bu rfl cX) ?_;refine o.ao (ar (k.N.drop 3) dA) ?_;refine o.ao (Y.ai aS.N rfl bu rfl cX) ?_;refine o.ao (ar (aS.N.drop 3) dA) ?_;refine o.ao ((Y.pU rfl Tryz.underlying4 rfl rfl).fm (by simp)) ?_;refine o.ax 2 ?_;refine o.ao (Y.ai k.N rfl bu rfl eo) ?_;refine o.ao (ar (k.N.drop 2) eB) ?_;refine o.ao (Y.ai aS.N rfl bu rfl eo) ?_;refine o.ao (ar (aS.N.drop 2) eB) ?_;refine o.call rfl Bi rfl bd rfl rfl (E6 w0 _) (fun be bN bs=>?_);obtain⟨rfl,ad⟩:=bs;replace B:=B.M ad;replace C:=C.M ad;replace n:=n.M ad;replace q:=q.M ad;replace t:=fun y i=>(t y i).M ad;replace A:=fun y i=>(A y i).M ad;replace k:=k.M ad;replace aS:=aS.M ad;replace j:=j.L ad;refine o.ao eL ?_;refine o.dF ?_;refine o.nil (bq ?_);refine dw ?_;refine G.skip (bp (G.L (fun bt=>?_)));refine o.v1 (aT k.N fj ef (dg _)) ?_;refine aW r0 (rT ⟨false,[],cM,[],true,K,V,O⟩ w0 _) (fun bP am a0=>?_);obtain⟨rfl,M⟩:=a0;replace B:=B.M M;replace C:=C.M M;replace n:=n.M M;replace q:=q.M M;replace t:=fun y i=>(t y i).M M;replace A:=fun y i=>(A y i).M M;replace k:=k.M M;replace aS:=aS.M M;replace j:=j.L M;refine o.V ?_;refine o.v1 cO ?_;refine o.v1 (Y.cast (v2:= .bool (decide (K.k≠0))) cO (rfl)) ?_;refine o.aO (cV rn) ?_;rintro v5 bF ⟨rfl,v5,N,bi,bQ⟩;have bz:=(ay.new (aF.mono j.size):ay _ (am.size+1));have bC:=(ay.new (aH.mono j.size):ay _ (am.size+1));have bD:=(ay.new (aI.mono j.size):ay _ (am.size+1));have bE:=(ay.new (aJ.mono j.size):ay _ (am.size+1));have aR:=(ay.new (aK.mono j.size):ay _ (am.size+1));have aX:=(ay.new (au.mono j.size):ay _ (am.size+1));have aZ:af (I.size+1) (am.size+1):=af.new k.lt;have a6:af (S.size+1) (am.size+1):=af.new aS.lt;have a7:T 0 I.size (am.size+1):=T.new j.size;replace B:=B.M N;replace C:=C.M N;replace n:=n.M N;replace q:=q.M N;replace t:=fun y i=>(t y i).M N;replace A:=fun y i=>(A y i).M N;replace k:=k.M N;replace aS:=aS.M N;replace j:=j.L N;refine o.s1 (dM v5 (_) (dX K) (ko _) cS (ee _) ((c9 (ee _).symm))) fun b2 a8=>?_;obtain⟨v5,F⟩:=a8;replace F:=F.bs;replace B:=B.ab F (az.J bz);replace C:=C.ab F (az.J bC);replace n:=n.ab F (az.J bD);replace q:=q.ab F (az.J bE);replace t:=fun y i=>(t y i).ab F (az.J aR);replace A:=fun y i=>(A y i).ab F (az.J aX);replace k:=k.ab F (ah.J aZ);replace aS:=aS.ab F (ah.J a6);replace j:=j.bo F (ag.J (aq.q a7));refine o.ak ?_;refine bt (G.L (fun a2=>?_));refine o.v1 (aT aS.N fj ef (dg _)) ?_;refine aW r0 (rT ⟨false,[],cM,[],true,L,X,aY⟩ w0 _) (fun aB H a3=>?_);obtain⟨rfl,ac⟩:=a3;replace B:=B.M ac;replace C:=C.M ac;replace n:=n.M ac;replace q:=q.M ac;replace t:=fun y i=>(t y i).M ac;replace A:=fun y i=>(A y i).M ac;replace k:=k.M ac;replace aS:=aS.M ac;replace v5:=v5.M ac;replace j:=j.L ac;refine o.V ?_;refine o.v1 cO ?_;refine o.v1 (Y.cast (v2:= .bool (decide (L.k≠0))) cO (rfl)) ?_;refine o.aO (cV rn) ?_;rintro Z bG ⟨rfl,Z,ap,bR,bS⟩;have a_:=(ay.new (aF.mono j.size):ay _ (H.size+1));have ba:=(ay.new (aH.mono j.size):ay _ (H.size+1));have bb:=(ay.new (aI.mono j.size):ay _ (H.size+1));have bc:=(ay.new (aJ.mono j.size):ay _ (H.size+1));have bf:=(ay.new (aK.mono j.size):ay _ (H.size+1));have bg:=(ay.new (au.mono j.size):ay _ (H.size+1));have bj:af (I.size+1) (H.size+1):=af.new k.lt;have bk:af (S.size+1) (H.size+1):=af.new aS.lt;have bl:af (am.size+1) (H.size+1):=af.new v5.lt;have bm:T 0 I.size (H.size+1):=T.new j.size;replace B:=B.M ap;replace C:=C.M ap;replace n:=n.M ap;replace q:=q.M ap;replace t:=fun y i=>(t y i).M ap;replace A:=fun y i=>(A y i).M ap;replace k:=k.M ap;replace aS:=aS.M ap;replace v5:=v5.M ap;replace j:=j.L ap;refine o.s1 (dM Z (_) (dX L) (ko _) cS (ee _) ((c9 (ee _).symm))) fun a4 bn=>?_;obtain⟨Z,E⟩:=bn;replace E:=E.bs;replace B:=B.ab E (az.J a_);replace C:=C.ab E (az.J ba);replace n:=n.ab E (az.J bb);replace q:=q.ab E (az.J bc);replace t:=fun y i=>(t y i).ab E (az.J bf);replace A:=fun y i=>(A y i).ab E (az.J bg);replace k:=k.ab E (ah.J bj);replace aS:=aS.ab E (ah.J bk);replace v5:=v5.ab E (ah.J bl);replace j:=j.bo E (ag.J (aq.q bm));refine o.ak ?_;refine a2 (G.t1 (fun aD=>G.L (fun aE=>?_)));refine o.ax 2 ?_;refine o.v1 ((Y.pU rfl Tryz.underlying4 rfl rfl).fm (by rw[ak.1];simp)) ?_;refine o.ax 3 ?_;refine o.bj (d:=55) rfl (fun a5=>?_) (fun a5=>?_)
 ·
  refine o.ao (aT v5.N h9 cS (ee _)) ?_;refine o.ao (aT Z.N h9 cS (ee _)) ?_;refine o.call rfl Bj rfl bd rfl rfl (CN K L w0 _ B.any C.any) (fun bU bV aO=>?_);obtain⟨rfl,Q⟩:=aO;replace n:=n.M Q;replace q:=q.M Q;replace t:=fun y i=>(t y i).M Q;replace A:=fun y i=>(A y i).M Q;replace k:=k.M Q;replace aS:=aS.M Q;replace j:=j.L Q;refine o.ao (Y.hp rfl rfl) ?_;refine o.ao eh ?_;refine o.dF ?_;refine o.nil (aE ?_);refine aU (fun ab=>?_) (fun ab=>?_)
  ·
   first|exact absurd ak ab|exact absurd ak (by simpa using ab)
  ·
   refine G.skip (aD (G.L (fun aP=>?_)));refine o.v1 (Y.ai k.N rfl bu rfl dv) ?_;refine o.v1 (ar k.N.fX dV) ?_;refine o.v1 (Y.ai aS.N rfl bu rfl dv) ?_;refine o.v1 (ar aS.N.fX dV) ?_;refine aW va (wk _ _ _ O aY w0 _ n.any q.any (fun x y aa aA al hy=>xz w0 aa x y ((t x al).any.M aA) ((A y hy).any.M aA))) (fun aQ a9 ae=>?_);obtain⟨rfl,ai⟩:=ae;replace j:=j.L ai;refine o.ak ?_;refine aP ?_;refine G.ret (aL ?_);exact⟨rfl,j⟩
 ·
  refine o.ax 4 ?_;refine o.ao dH ?_;refine o.dF ?_;refine o.nil (aE ?_);refine dw ?_;refine G.skip (aD (G.L (fun bw=>?_)));refine o.v1 (Y.ai k.N rfl bu rfl dv) ?_;refine o.v1 (ar k.N.fX dV) ?_;refine o.v1 (Y.ai aS.N rfl bu rfl dv) ?_;refine o.v1 (ar aS.N.fX dV) ?_;refine aW va (wk _ _ _ O aY w0 _ n.any q.any (fun x y aa aA al hy=>xz w0 aa x y ((t x al).any.M aA) ((A y hy).any.M aA))) (fun aQ a9 ae=>?_);obtain⟨rfl,ai⟩:=ae;replace j:=j.L ai;refine o.ak ?_;refine bw ?_;refine G.ret (aL ?_);exact⟨rfl,j⟩
theorem G5(x:cW)(w0:World)(I:Heap)
 :
 aC Tryz.prog w0 66 #[eg x] I (fun r n=>r=dG ⟨false,[],cM,[],true,x.q,x.ct,x.el⟩∧aj I n):=by
 refine aC.enter (args:=[eg x]) Tryz.func66 rfl rfl rfl ?_;intro E C;have d:aj I I:=W.refl _ _;refine G.L (fun ad=>?_);refine o.aO cq ?_;rintro v1 H1 ⟨rfl,i,t,H,K⟩;replace d:=d.L t;replace i:Var 47 H1 I.size (bS x):=i;refine o.aO (cV nd) ?_;rintro v2 n ⟨rfl,k,ac,L,au⟩;have A:T 0 I.size (H1.size+1):=T.new d.size;replace i:=i.M ac;replace d:=d.L ac;refine o.nil (ad (G.L (fun B=>?_)));refine o.v1 (Y.ai i.N rfl ca rfl cS) ?_;refine o.v1 (Y.cast (v2:=er x.q) (aT ((i.N.drop 3).take 70) h9 cS (by rw[jU];exact ee _)) (b6 (jU x))) ?_;refine o.v1 (Y.ai i.N rfl ca rfl dv) ?_;refine o.v1 (ar i.N.hQ dV) ?_;refine o.v1 (Y.build (v:=dG ⟨false,[],cM,[],true,x.q,x.ct,x.el⟩) rfl rfl (by intro w;exact AR _)) ?_;refine o.s1 (dM k (_) (c_ ⟨false,[],cM,[],true,x.q,x.ct,x.el⟩) (lW _) ef (dg _) ((c9 (dg _).symm))) fun F q=>?_;obtain⟨k,j⟩:=q;replace j:=j.bs;replace d:=d.bo j (ag.J (aq.q A));refine o.nil (B ?_);refine G.ret (C .ret (.inr rfl) _ _ _ (j6 rfl rfl k.N fj ef (dg _)) ?_);exact⟨rfl,d⟩
theorem yZ(w0:World)(H:Heap)(x:cW):ff Tryz.prog w0 (.func (.func 66) #[] #[]) [eg x] H (fun r d=>r=dG ⟨false,[],cM,[],true,x.q,x.ct,x.el⟩∧aj H d):=
 ff.of (caps:=[]) B4 (G5 x w0 H)
set_option maxHeartbeats 1600000 in
theorem FZ(a b:cW)(w0:World)(I:Heap)
 (fa:bx I dB 33 a.en.v a.ba) (c7:bx I ek 2 a.cw.v a.bW) (E:∀y∈a.bW,bx I dt 65 y.v.v y.l) (F:bx I c2 33 a.q.cd.v a.q.a6) (Q:bx I bO 33 a.ct.v a.el) (P:∀y∈a.el,bx I a1 1 y.v.v y.d) (ec:bx I dB 33 b.en.v b.ba) (C:bx I ek 2 b.cw.v b.bW) (bM:∀y∈b.bW,bx I dt 65 y.v.v y.l) (H:bx I c2 33 b.q.cd.v b.q.a6) (R:bx I bO 33 b.ct.v b.el) (bf:∀y∈b.el,bx I a1 1 y.v.v y.d):
 aC Tryz.prog w0 26 #[eg a,eg b] I (fun r V=>r= .bool (decide (kf a b))∧aj I V):=by
 refine aC.aK [eg a,eg b] Tryz.func26 ?_;intro aZ ae;have B:aj I I:=W.refl _ _;replace fa:=fa.bw;replace c7:=c7.bw;replace E:=fun y i=>(E y i).bw;replace F:=F.bw;replace Q:=Q.bw;replace P:=fun y i=>(P y i).bw;replace ec:=ec.bw;replace C:=C.bw;replace bM:=fun y i=>(bM y i).bw;replace H:=H.bw;replace R:=R.bw;replace bf:=fun y i=>(bf y i).bw;refine G.L (fun aE=>?_);refine o.aO cq ?_;rintro v2 V ⟨rfl,A,S,bb,aF⟩;have a_:V.size=I.size+1:=by rw[aF];simp
 replace fa:=fa.M S;replace c7:=c7.M S;replace E:=fun y i=>(E y i).M S;replace F:=F.M S;replace Q:=Q.M S;replace P:=fun y i=>(P y i).M S;replace ec:=ec.M S;replace C:=C.M S;replace bM:=fun y i=>(bM y i).M S;replace H:=H.M S;replace R:=R.M S;replace bf:=fun y i=>(bf y i).M S;replace B:=B.L S;have bc:=S.size;replace A:Var 47 V I.size (bS a):=A;refine o.aO cq ?_;rintro v3 af ⟨rfl,aS,N,bg,aH⟩;have ba:af.size=V.size+1:=by rw[aH];simp
 replace fa:=fa.M N;replace c7:=c7.M N;replace E:=fun y i=>(E y i).M N;replace F:=F.M N;replace Q:=Q.M N;replace P:=fun y i=>(P y i).M N;replace ec:=ec.M N;replace C:=C.M N;replace bM:=fun y i=>(bM y i).M N;replace H:=H.M N;replace R:=R.M N;replace bf:=fun y i=>(bf y i).M N;replace A:=A.M N;replace B:=B.L N;have bh:=N.size;replace aS:Var 47 af V.size (bS b):=aS;refine o.ak ?_;refine aE (G.L (fun aI=>?_));refine o.ak ?_;refine aI (G.t1 (fun ab=>?_));refine dx (fun n=>aj af n) [] ?_;have k:=aj.refl af;refine O.t1 0 rfl (fun n j=>Y.ai (A.N.M j) rfl ca rfl bP) k ?_;refine O.t1 1 rfl (fun n j=>ar (A.N.M j) bN) k ?_;refine O.t1 2 rfl (fun n j=>Y.ai (aS.N.M j) rfl ca rfl bP) k ?_;refine O.t1 3 rfl (fun n j=>ar (aS.N.M j) bN) k ?_;refine O.t1 4 rfl (fun n j=>Y.jz rfl rfl rfl) k ?_;refine O.V 5 rfl k ?_;refine O.bj (d:=11) rfl (fun X=>?_) (fun X=>?_)
 ·
  refine O.bI 6 rfl (fun n j=>Y.ai (A.N.M j) rfl ca rfl hb) bd k ?_;refine O.bI 7 rfl (fun n j=>ar ((A.N.drop 1).M j) ix) bd k ?_;refine O.bI 8 rfl (fun n j=>Y.ai (aS.N.M j) rfl ca rfl hb) bd k ?_;refine O.bI 9 rfl (fun n j=>ar ((aS.N.drop 1).M j) ix) bd k ?_;refine O.aX 10 ?_;refine dq.call rfl rfl B5 rfl bd rfl rfl (Gt _ _ a.ba b.ba w0 _ fa.any ec.any) (fun bj al aJ=>?_);obtain⟨rfl,ad⟩:=aJ;replace c7:=c7.M ad;replace E:=fun y i=>(E y i).M ad;replace F:=F.M ad;replace Q:=Q.M ad;replace P:=fun y i=>(P y i).M ad;replace C:=C.M ad;replace bM:=fun y i=>(bM y i).M ad;replace H:=H.M ad;replace R:=R.M ad;replace bf:=fun y i=>(bf y i).M ad;replace A:=A.M ad;replace aS:=aS.M ad;replace B:=B.L ad;have bk:=ad.size;have aP:=k.L ad;refine O.cc aP ?_;have q:=aj.refl al;refine O.t1 11 rfl (fun n j=>eh) q ?_;refine O.V 12 rfl q ?_;refine O.bj (d:=18) rfl (fun ap=>?_) (fun ap=>?_)
  ·
   refine O.bI 13 rfl (fun n j=>Y.ai (A.N.M j) rfl ca rfl cS) bd q ?_;refine O.bI 14 rfl (fun n j=>Y.cast (v2:=er a.q) (aT (((A.N.drop 3).M j).take 70) h9 cS (by rw[jU];exact ee _)) (b6 (jU a))) bd q ?_;refine O.bI 15 rfl (fun n j=>Y.ai (aS.N.M j) rfl ca rfl cS) bd q ?_;refine O.bI 16 rfl (fun n j=>Y.cast (v2:=er b.q) (aT (((aS.N.drop 3).M j).take 70) h9 cS (by rw[jU];exact ee _)) (b6 (jU b))) bd q ?_;refine O.aX 17 ?_;refine dq.call rfl rfl B6 rfl bd rfl rfl (FY a.q b.q w0 _ F.any H.any) (fun a0 aq aK=>?_);obtain⟨rfl,K⟩:=aK;replace c7:=c7.M K;replace E:=fun y i=>(E y i).M K;replace F:=F.M K;replace Q:=Q.M K;replace P:=fun y i=>(P y i).M K;replace C:=C.M K;replace bM:=fun y i=>(bM y i).M K;replace H:=H.M K;replace R:=R.M K;replace bf:=fun y i=>(bf y i).M K;replace A:=A.M K;replace aS:=aS.M K;replace B:=B.L K;have b2:=K.size;have aQ:=q.L K;refine O.cc aQ ?_;have t:=aj.refl aq;refine O.t1 18 rfl (fun n j=>eh) t ?_;refine O.V 19 rfl t ?_;refine O.bj (d:=25) rfl (fun au=>?_) (fun au=>?_)
   ·
    refine O.bI 20 rfl (fun n j=>fc) bd t ?_;refine O.bI 21 rfl (fun n j=>aT (A.N.M j) eC di (b4 _)) bd t ?_;refine O.bI 23 rfl (fun n j=>fc) bd t ?_;refine O.bI 24 rfl (fun n j=>aT (aS.N.M j) eC di (b4 _)) bd t ?_;refine O.aX 22 ?_;refine dq.kk rfl rfl rfl rfl bd rfl rfl (yZ w0 _ a) (fun a2 ay aL=>?_);obtain⟨rfl,L⟩:=aL;replace c7:=c7.M L;replace E:=fun y i=>(E y i).M L;replace F:=F.M L;replace Q:=Q.M L;replace P:=fun y i=>(P y i).M L;replace C:=C.M L;replace bM:=fun y i=>(bM y i).M L;replace H:=H.M L;replace R:=R.M L;replace bf:=fun y i=>(bf y i).M L;replace A:=A.M L;replace aS:=aS.M L;replace B:=B.L L;have a3:=L.size;have aR:=t.L L;refine O.cc aR ?_;have aU:=aj.refl ay;refine O.aX 25 ?_;refine dq.kk rfl rfl rfl rfl bd rfl rfl (yZ w0 _ b) (fun a4 az aM=>?_);obtain⟨rfl,M⟩:=aM;replace c7:=c7.M M;replace E:=fun y i=>(E y i).M M;replace F:=F.M M;replace Q:=Q.M M;replace P:=fun y i=>(P y i).M M;replace C:=C.M M;replace bM:=fun y i=>(bM y i).M M;replace H:=H.M M;replace R:=R.M M;replace bf:=fun y i=>(bf y i).M M;replace A:=A.M M;replace aS:=aS.M M;replace B:=B.L M;have a5:=M.size;have aW:=aU.L M;refine O.cc aW ?_;have aX:=aj.refl az;refine O.aX 26 ?_;refine dq.call rfl rfl B7 rfl bd rfl rfl (CQ a.q b.q a.ct b.ct a.el b.el w0 _ F.any H.any Q.any R.any (fun y hy=>(P y hy).any) (fun y hy=>(bf y hy).any) au) (fun a6 aB aN=>?_);obtain⟨rfl,T⟩:=aN;replace c7:=c7.M T;replace E:=fun y i=>(E y i).M T;replace C:=C.M T;replace bM:=fun y i=>(bM y i).M T;replace A:=A.M T;replace aS:=aS.M T;replace B:=B.L T;have a7:=T.size;have ai:=aX.L T;refine O.cc ai ?_;have ac:=aj.refl aB;refine O.t1 27 rfl (fun n j=>eh) ac ?_;refine O.V 28 rfl ac ?_;refine O.bj (d:=34) rfl (fun Z=>?_) (fun Z=>?_)
    ·
     refine O.bI 29 rfl (fun n j=>Y.ai (A.N.M j) rfl ca rfl fW) bd ac ?_;refine O.bI 30 rfl (fun n j=>ar ((A.N.drop 2).M j) hx) bd ac ?_;refine O.bI 31 rfl (fun n j=>Y.ai (aS.N.M j) rfl ca rfl fW) bd ac ?_;refine O.bI 32 rfl (fun n j=>ar ((aS.N.drop 2).M j) hx) bd ac ?_;refine O.aX 33 ?_;refine dq.call rfl rfl B8 rfl bd rfl rfl (Dc _ _ _ a.bW b.bW w0 _ c7.any C.any (fun x y aa aA aY hy=>Ea w0 aa x y ((E x aY).any.M aA) ((bM y hy).any.M aA))) (fun a8 aD aO=>?_);obtain⟨rfl,am⟩:=aO;replace B:=B.L am;have a9:=am.size;have ak:=ac.L am;refine O.cc ak ?_;have ah:=aj.refl aD;refine O.t1 34 rfl (fun n j=>eh) ah ?_;refine O.t1 35 rfl (fun n j=>ej) ah ?_;refine cx ?_;have ag:=ah;refine ab ?_;refine G.ret (ae ?_);exact⟨by first|(exact congrArg Value.bool (decide_eq_decide.2 ⟨fun h=>⟨X,au,ap,h,Z⟩,fun h=>h.2.2.2.1⟩))|(rw[decide_eq_false (fun h:kf a b=>by first|exact absurd h.1 (by assumption)|exact absurd h.2.1 (by assumption)|exact absurd h.2.2.1 (by assumption)|exact absurd h.2.2.2.2 (by assumption))]),B⟩
    ·
     refine O.g1 29 rfl rfl rfl rfl ac ?_;refine O.g1 30 rfl rfl rfl rfl ac ?_;refine O.g1 31 rfl rfl rfl rfl ac ?_;refine O.g1 32 rfl rfl rfl rfl ac ?_;refine O.g1 33 rfl rfl rfl rfl ac ?_;refine O.t1 34 rfl (fun n j=>dH) ac ?_;refine O.t1 35 rfl (fun n j=>ej) ac ?_;refine cx ?_;have ag:=ac;refine ab ?_;refine G.ret (ae ?_);exact⟨by first|(exact congrArg Value.bool (decide_eq_decide.2 ⟨fun h=>⟨X,au,ap,h,Z⟩,fun h=>h.2.2.2.1⟩))|(rw[decide_eq_false (fun h:kf a b=>by first|exact absurd h.1 (by assumption)|exact absurd h.2.1 (by assumption)|exact absurd h.2.2.1 (by assumption)|exact absurd h.2.2.2.2 (by assumption))]),B⟩
   ·
    refine O.g1 20 rfl rfl rfl rfl t ?_;refine O.g1 21 rfl rfl rfl rfl t ?_;refine O.g1 22 rfl rfl rfl rfl t ?_;refine O.g1 23 rfl rfl rfl rfl t ?_;refine O.g1 24 rfl rfl rfl rfl t ?_;refine O.g1 25 rfl rfl rfl rfl t ?_;refine O.g1 26 rfl rfl rfl rfl t ?_;refine O.t1 27 rfl (fun n j=>dH) t ?_;refine O.V 28 rfl t ?_;refine O.g1 29 rfl rfl rfl rfl t ?_;refine O.g1 30 rfl rfl rfl rfl t ?_;refine O.g1 31 rfl rfl rfl rfl t ?_;refine O.g1 32 rfl rfl rfl rfl t ?_;refine O.g1 33 rfl rfl rfl rfl t ?_;refine O.t1 34 rfl (fun n j=>dH) t ?_;refine O.t1 35 rfl (fun n j=>ej) t ?_;refine cx ?_;have ag:=t;refine ab ?_;refine G.ret (ae ?_);exact⟨by first|(exact congrArg Value.bool (decide_eq_decide.2 ⟨fun h=>⟨X,au,ap,h,Z⟩,fun h=>h.2.2.2.1⟩))|(rw[decide_eq_false (fun h:kf a b=>by first|exact absurd h.1 (by assumption)|exact absurd h.2.1 (by assumption)|exact absurd h.2.2.1 (by assumption)|exact absurd h.2.2.2.2 (by assumption))]),B⟩
  ·
   refine O.g1 13 rfl rfl rfl rfl q ?_;refine O.g1 14 rfl rfl rfl rfl q ?_;refine O.g1 15 rfl rfl rfl rfl q ?_;refine O.g1 16 rfl rfl rfl rfl q ?_;refine O.g1 17 rfl rfl rfl rfl q ?_;refine O.t1 18 rfl (fun n j=>dH) q ?_;refine O.V 19 rfl q ?_;refine O.g1 20 rfl rfl rfl rfl q ?_;refine O.g1 21 rfl rfl rfl rfl q ?_;refine O.g1 22 rfl rfl rfl rfl q ?_;refine O.g1 23 rfl rfl rfl rfl q ?_;refine O.g1 24 rfl rfl rfl rfl q ?_;refine O.g1 25 rfl rfl rfl rfl q ?_;refine O.g1 26 rfl rfl rfl rfl q ?_;refine O.t1 27 rfl (fun n j=>dH) q ?_;refine O.V 28 rfl q ?_;refine O.g1 29 rfl rfl rfl rfl q ?_;refine O.g1 30 rfl rfl rfl rfl q ?_;refine O.g1 31 rfl rfl rfl rfl q ?_;refine O.g1 32 rfl rfl rfl rfl q ?_;refine O.g1 33 rfl rfl rfl rfl q ?_;refine O.t1 34 rfl (fun n j=>dH) q ?_;refine O.t1 35 rfl (fun n j=>ej) q ?_;refine cx ?_;have ag:=q;refine ab ?_;refine G.ret (ae ?_);exact⟨by first|(exact congrArg Value.bool (decide_eq_decide.2 ⟨fun h=>⟨X,au,ap,h,Z⟩,fun h=>h.2.2.2.1⟩))|(rw[decide_eq_false (fun h:kf a b=>by first|exact absurd h.1 (by assumption)|exact absurd h.2.1 (by assumption)|exact absurd h.2.2.1 (by assumption)|exact absurd h.2.2.2.2 (by assumption))]),B⟩
 ·
  refine O.g1 6 rfl rfl rfl rfl k ?_;refine O.g1 7 rfl rfl rfl rfl k ?_;refine O.g1 8 rfl rfl rfl rfl k ?_;refine O.g1 9 rfl rfl rfl rfl k ?_;refine O.g1 10 rfl rfl rfl rfl k ?_;refine O.t1 11 rfl (fun n j=>dH) k ?_;refine O.V 12 rfl k ?_;refine O.g1 13 rfl rfl rfl rfl k ?_;refine O.g1 14 rfl rfl rfl rfl k ?_;refine O.g1 15 rfl rfl rfl rfl k ?_;refine O.g1 16 rfl rfl rfl rfl k ?_;refine O.g1 17 rfl rfl rfl rfl k ?_;refine O.t1 18 rfl (fun n j=>dH) k ?_;refine O.V 19 rfl k ?_;refine O.g1 20 rfl rfl rfl rfl k ?_;refine O.g1 21 rfl rfl rfl rfl k ?_;refine O.g1 22 rfl rfl rfl rfl k ?_;refine O.g1 23 rfl rfl rfl rfl k ?_;refine O.g1 24 rfl rfl rfl rfl k ?_;refine O.g1 25 rfl rfl rfl rfl k ?_;refine O.g1 26 rfl rfl rfl rfl k ?_;refine O.t1 27 rfl (fun n j=>dH) k ?_;refine O.V 28 rfl k ?_;refine O.g1 29 rfl rfl rfl rfl k ?_;refine O.g1 30 rfl rfl rfl rfl k ?_;refine O.g1 31 rfl rfl rfl rfl k ?_;refine O.g1 32 rfl rfl rfl rfl k ?_;refine O.g1 33 rfl rfl rfl rfl k ?_;refine O.t1 34 rfl (fun n j=>dH) k ?_;refine O.t1 35 rfl (fun n j=>ej) k ?_;refine cx ?_;have ag:=k;refine ab ?_;refine G.ret (ae ?_);exact⟨by first|(exact congrArg Value.bool (decide_eq_decide.2 ⟨fun h=>⟨X,au,ap,h,Z⟩,fun h=>h.2.2.2.1⟩))|(rw[decide_eq_false (fun h:kf a b=>by first|exact absurd h.1 (by assumption)|exact absurd h.2.1 (by assumption)|exact absurd h.2.2.1 (by assumption)|exact absurd h.2.2.2.2 (by assumption))]),B⟩
end rF

namespace uk
open E Go.RowKit eM eP e1 e7 ev eQ eR
def wY(j:Nat):cY:=⟨1::UInt8.ofNat j::List.replicate 30 0,by simp⟩
def H5(i:Nat):List UInt8:=[UInt8.ofNat (97+i%26)]
def Fy(i:Nat):cY:=if i=0 then bz else wY (i-1)
def Eo(i:Nat):cE:=⟨Fy i,wY i,H5 i⟩
def mU(i:Nat):List cE:=h0 ((List.range i).map Eo)
theorem vJ{s:eA}{t:b1}{e:Int}(d:eF t=0)(i:fw t=0)(U:fx s.b8 t.ml=e)(j:gl t=0)(k:ig s.gD t.el=0):eI s t=e:=by
 unfold eI;rw[d,i,U,j,k];by_cases he:e=0<;>simp[he]
end uk

namespace mw
open E Go.RowKit ft gd gr gN gV hi hv hH hU lf lL iY iZ
theorem D8{c m:Nat}{fs:List f_}{M st:dy}{dK:List dN}{op:Nat}{p:aH}{w:dZ}(aA:cz p=true)(d:(w.on (aG.dp ⟨c,m,fs,M,st,dK,op+1,0,false⟩ p) w.d.length).length≤m)(U:iD fs M+(w.on (aG.dp ⟨c,m,fs,M,st,dK,op+1,0,false⟩ p) w.d.length).length≤c+(aG.dp ⟨c,m,fs,M,st,dK,op+1,0,false⟩ p).length):
 aG.lay ⟨c,m,fs,M,st,dK,op,0,false⟩ p w=(0,aG.write ⟨c,m,fs,M,st,dK,op+1,0,false⟩ p w):=by
 have aw:aG.begin ⟨c,m,fs,M,st,dK,op,0,false⟩=(true,⟨c,m,fs,M,st,dK,op+1,0,false⟩):=by simp[aG.begin]
 have he:=oT (D:=⟨c,m,fs,M,st,dK,op+1,0,false⟩) aA (Nat.not_lt.2 d) (Nat.not_lt.2 U);rw[qy (by rw[aw]),aw];simp only[he,if_true]
theorem qQ(b:List UInt8)(d:List UInt8):(⟨false,d⟩:dZ).on b d.length=d:=by simp[dZ.on]
theorem tc(b:List UInt8)(d:List UInt8):(⟨true,d⟩:dZ).on b d.length=b++d:=by simp[dZ.on]
end mw

namespace nj
open E Go.RowKit ft gd gr gN gV hi hv hH hU lf lL iY iZ mw
section
variable {H : Type} {enc : TypeId × Value → H} {P : Program} {ch : World} {base : Nat} {sp : Nat → Bool} {held : Bool}
open Go.ChangeShapes Go.WideShapes Go.ChangeAt Go.RowKit Go.Deep
end
theorem uN{D:aG}(h:D.dead=false)(U:D.left=0):D.begin=(true,{D with left:=D.left-1,ops:=D.ops+1}):=by
 unfold aG.begin;rw[if_neg (by rw[h];decide),if_neg (by omega)]
end nj

namespace oj
open E Go.RowKit ft gd gr gN gV hi hv hH hU lf lL iY iZ mw nj
def om(D E:aG):Prop:=E.cap=D.cap∧E.most=D.most∧E.ops=D.ops∧E.left=D.left∧E.dead=D.dead
theorem om.rfl{D:aG}:om D D:=⟨Eq.refl _,Eq.refl _,Eq.refl _,Eq.refl _,Eq.refl _⟩
theorem G6(D:aG)(p:aH)(w:dZ):om D (D.write p w):=by
 unfold aG.write aG.make
 cases aM D.now p with
 |some i=>exact om.rfl
 |none=>exact om.rfl
end oj

namespace pI
open E Go.RowKit ft gd gr gN gV hi hv hH hU lf lL iY iZ mw nj oj
theorem qi{fs:List f_}{i j:Nat}{x:f_}:b5 (fs.set i x) j=if j=i∧i<fs.length then x else b5 fs j:=by
 unfold b5;by_cases d:i<fs.length
 ·by_cases e:j=i
  ·rw[if_pos ⟨e,d⟩,e,List.getD_eq_getElem?_getD,List.getElem?_set_self d];rfl
  ·rw[if_neg (fun h=>e h.1),List.getD_eq_getElem?_getD,List.getElem?_set_ne (Ne.symm e),←List.getD_eq_getElem?_getD]
 ·rw[if_neg (fun h=>d h.2),List.set_eq_of_length_le (by omega)]
end pI

namespace rI
open E Go.RowKit ft gd gr gN gV hi hv hH hU iY iZ mw nj oj pI kh kG lk lN mA nm oq
theorem HJ{a b:List UInt8}{f:UInt8→Bool}(h:∀x∈a,f x=true):(a++b).takeWhile f=a++b.takeWhile f:=by
 induction a with
 |nil=>rfl
 |cons x a ih=>rw[List.cons_append,List.takeWhile_cons,if_pos (h x List.mem_cons_self),ih (fun y hy=>h y (List.mem_cons_of_mem _ hy)),List.cons_append]
theorem DH(p:aH):mQ (cG p)=mQ p:=by
 unfold mQ cG
 have h:((p++[46,110,101,119]).reverse.takeWhile (fun c=>decide (c≠47))).length=4+(p.reverse.takeWhile (fun c=>decide (c≠47))).length:=by
  rw[List.reverse_append,HJ (by decide),List.length_append];rfl
 rw[h,List.length_append,List.length_cons,List.length_cons,List.length_cons,List.length_cons,List.length_nil];rw[List.take_append_of_le_length (by omega)];congr 1;omega
theorem CT{p:aH}(h:cz p=true)(U:cz (cG p)=true):cr (cG p)=cr p:=by unfold cr;rw[if_pos h,if_pos U,DH]
theorem AK(p:aH):blt p (cG p):=by
 unfold blt cG
 induction p with
 |nil=>decide
 |cons x p ih=>simp only[List.cons_append,Op.bytesLess];simpa using ih
theorem new_ne(p:aH):cG p≠p:=fun e=>by have:=congrArg List.length e;rw[o6]at this;omega
theorem xR(p:aH):¬cG p=[]:=by simp[cG]
structure One (cap most:Nat) (p:aH) (x:List UInt8) (D:aG):Prop where
 dead:D.dead=false
 left:D.left=0
 cap:D.cap=cap
 most:D.most=most
 M:∃i,D.now=[(p,i)]∧i<D.fs.length∧(b5 D.fs i).now=x
section
variable {cap most : Nat} {p : aH} {x : List UInt8} {D : aG}
theorem One.used(h:One cap most p x D):D.used=x.length:=by
 obtain⟨i,d,_,U⟩:=h.M;unfold aG.used iD;rw[d];simp[U]
theorem One.px(h:One cap most p x D):D.dp p=x:=by
 obtain⟨i,d,_,U⟩:=h.M;unfold aG.dp;rw[d];simp[aM,U]
theorem One.begin(h:One cap most p x D):D.begin=(true,D.begin.2)∧One cap most p x D.begin.2:=by
 have e:=uN h.dead h.left;rw[e];exact⟨rfl,h.dead,by show D.left-1=0;rw[h.left],h.cap,h.most,h.M⟩
theorem One.lay(h:One cap most p x D)(aA:cz p=true)(w:dZ):
 ((D.lay p w).1=5∧most<(w.on x w.d.length).length∧One cap most p x (D.lay p w).2)∨((D.lay p w).1=12∧cap<(w.on x w.d.length).length∧One cap most p x (D.lay p w).2)∨
 ((D.lay p w).1=0∧(w.on x w.d.length).length≤cap∧One cap most p (w.on x w.d.length) (D.lay p w).2):=by
 obtain⟨aw,d⟩:=h.begin;rw[qy (by rw[aw])];by_cases j:most<(w.on x w.d.length).length
 ·rw[sG aA (by rw[d.px,d.most];exact j)]
  exact .inl ⟨rfl,j,d⟩
 by_cases n:cap<(w.on x w.d.length).length
 ·rw[qx aA (by rw[d.px,d.most];exact j) (by rw[d.px,d.cap,d.used];omega)]
  exact .inr (.inl ⟨rfl,n,d⟩)
 rw[oT aA (by rw[d.px,d.most];exact j) (by rw[d.px,d.cap,d.used];omega)];refine .inr (.inr ⟨rfl,by omega,?_⟩);simp only[if_true];obtain⟨s1,s2,t,q,r⟩:=G6 D.begin.2 p w;obtain⟨i,aK,k,o⟩:=d.M;have hm:aM D.begin.2.now p=some i:=by rw[aK];simp[aM]
 refine⟨by rw[r];exact d.dead,by rw[q];exact d.left,by rw[s1];exact d.cap,by rw[s2];exact d.most,i,?_⟩;unfold aG.write aG.make;rw[hm];refine⟨aK,by show i<(D.begin.2.fs.set i _).length;rw[List.length_set];exact k,?_⟩;show(b5 (D.begin.2.fs.set i _) i).now=_;rw[qi,if_pos ⟨rfl,k⟩,o]
theorem One.sync(h:One cap most p x D)(aA:cz p=true):(D.sync p).1=0∧One cap most p x (D.sync p).2:=by
 obtain⟨aw,d⟩:=h.begin;obtain⟨i,aK,j,k⟩:=d.M;have hm:aM D.begin.2.now p=some i:=by rw[aK];simp[aM]
 have n:D.begin.2.look p=0:=by unfold aG.look;rw[if_pos aA,hm];rfl
 rw[tT (by rw[aw]),n];refine⟨rfl,?_⟩;simp only[if_true];rw[hm];refine⟨d.dead,d.left,d.cap,d.most,i,aK,by show i<(D.begin.2.fs.set i _).length;rw[List.length_set];exact j,?_⟩;show(b5 (D.begin.2.fs.set i _) i).now=_;rw[qi,if_pos ⟨rfl,j⟩];exact k
structure kg (cap most:Nat) (p:aH) (x:List UInt8) (D:aG):Prop where
 dead:D.dead=false
 left:D.left=0
 cap:D.cap=cap
 most:D.most=most
 M:∃k,aM D.now (cG p)=some k∧k<D.fs.length∧(b5 D.fs k).now=x∧(dN.ap ⟨cG p,p,some k⟩ D.now)=[(p,k)]
theorem kg.begin(h:kg cap most p x D):D.begin=(true,D.begin.2)∧kg cap most p x D.begin.2:=by
 have e:=uN h.dead h.left;rw[e];exact⟨rfl,h.dead,by show D.left-1=0;rw[h.left],h.cap,h.most,h.M⟩
theorem kg.sync(h:kg cap most p x D)(aA:cz (cG p)=true):(D.sync (cG p)).1=0∧kg cap most p x (D.sync (cG p)).2:=by
 obtain⟨aw,d⟩:=h.begin;obtain⟨k,aK,i,j,n⟩:=d.M;have o:D.begin.2.look (cG p)=0:=by unfold aG.look;rw[if_pos aA,aK];rfl
 rw[tT (by rw[aw]),o];refine⟨rfl,?_⟩;simp only[if_true];rw[aK];refine⟨d.dead,d.left,d.cap,d.most,k,aK,by show k<(D.begin.2.fs.set k _).length;rw[List.length_set];exact i,?_,n⟩;show(b5 (D.begin.2.fs.set k _) k).now=_;rw[qi,if_pos ⟨rfl,i⟩];exact j
theorem kg.rename(h:kg cap most p x D)(bH:cz p=true)(i:cz (cG p)=true):(D.rename (cG p) p).1=0∧One cap most p x (D.rename (cG p) p).2:=by
 obtain⟨aw,d⟩:=h.begin;obtain⟨k,aK,j,n,o⟩:=d.M;have q:D.begin.2.j5 (cG p) p=0:=by rw[yp i bH (CT bH i)];unfold aG.look;rw[if_pos i,aK];rfl
 rw[yq (by rw[aw]),q];refine⟨rfl,?_⟩;rw[if_pos ⟨rfl,new_ne p⟩,aK];exact⟨d.dead,d.left,d.cap,d.most,k,o,j,n⟩
theorem One.iv(h:One cap most p x D){d:aH}(an:ja d=0):(D.iv d).1=0∧One cap most p x (D.iv d).2:=by
 obtain⟨aw,i⟩:=h.begin;rw[yP (by rw[aw]),an];exact⟨rfl,i.dead,i.left,i.cap,i.most,i.M⟩
theorem wP{d:aG}{l:List Rec}(h:D.lay (cG p) ⟨false,cR l⟩=(0,d))(q:kg cap most p (cR l) d)(bH:cz p=true)(i:cz (cG p)=true)(an:ja (cr p)=0):(eJ D p l).1=0∧One cap most p (cR l) (eJ D p l).2:=by
 obtain⟨b2,a2⟩:=q.sync i;obtain⟨j,k⟩:=a2.rename bH i;obtain⟨n,o⟩:=k.iv an;unfold eJ jd;simp only[c3,h,if_true,b2,j,n];exact⟨trivial,o⟩
theorem Ds{l:List Rec}(h:(D.lay (cG p) ⟨false,cR l⟩).1≠0):eJ D p l=D.lay (cG p) ⟨false,cR l⟩:=by
 unfold eJ jd c3;rw[if_neg h]
theorem zP{q:aH}{k:Nat}{w:dZ}(hm:aM D.now q=none):D.write q w=({D with fs:=(D.fs++[(⟨[],[],[]⟩:f_)]).set D.fs.length ⟨w.on [] w.d.length,[],[w]⟩,now:=hO D.now q D.fs.length,log:=D.log++[⟨[],q,some D.fs.length⟩]}:aG):=by
 unfold aG.write aG.make;rw[hm];simp only[aG.change,aG.fy,dN.ap,if_true];rw[show b5 (D.fs++[(⟨[],[],[]⟩:f_)]) D.fs.length=⟨[],[],[]⟩by simp[b5]];rfl
theorem One.fresh(h:One cap most p x D)(bH:cz p=true)(o:cz (cG p)=true)(an:ja (cr p)=0)(l:List Rec)(hm:(cR l).length≤most):
 ((eJ D p l).1=12∧cap<x.length+(cR l).length∧One cap most p x (eJ D p l).2)∨((eJ D p l).1=0∧x.length+(cR l).length≤cap∧One cap most p (cR l) (eJ D p l).2):=by
 obtain⟨aw,d⟩:=h.begin;obtain⟨i,aK,C,E⟩:=d.M;have q:aM D.begin.2.now (cG p)=none:=by rw[aK];simp[aM,new_ne]
 have hw:D.begin.2.dp (cG p)=[]:=by unfold aG.dp;rw[q]
 have n:((⟨false,cR l⟩:dZ).on [] (cR l).length)=cR l:=qQ _ _;have j:=qy (D:=D) (p:=cG p) (w:=⟨false,cR l⟩) (by rw[aw]);by_cases r:cap<x.length+(cR l).length
 ·rw[qx o (by rw[hw,d.most];simp only[n];omega) (by rw[hw,d.cap,d.used];simp only[n,List.length_nil];omega)]at j
  have B:(D.lay (cG p) ⟨false,cR l⟩).1≠0:=by rw[j];exact Nat.succ_ne_zero 11
  rw[Ds B,j];exact .inl ⟨rfl,r,d⟩
 ·rw[oT o (by rw[hw,d.most];simp only[n];omega) (by rw[hw,d.cap,d.used];simp only[n,List.length_nil];omega)]at j
  simp only[if_true]at j;refine .inr ?_
  have A:kg cap most p (cR l) (D.begin.2.write (cG p) ⟨false,cR l⟩):=by
   rw[zP (k:=0) q];refine⟨d.dead,d.left,d.cap,d.most,D.begin.2.fs.length,?_,?_,?_,?_⟩
   ·show aM (hO _ _ _) _=_;rw[qG,if_pos rfl]
   ·simp
   ·show(b5 ((_:List f_).set _ _) _).now=_
    rw[qi,if_pos ⟨rfl,by simp⟩];exact n
   ·show dN.ap _ (hO D.begin.2.now _ _)=_
    have t:¬p=cG p:=fun e=>new_ne p e.symm;rw[aK];simp[dN.ap,hO,AK,ea,new_ne,mG,xR,t]
  have:=wP j A bH o an;exact⟨this.1,by omega,this.2⟩
theorem One.start(bH:cz p=true)(d:cz (cG p)=true)(an:ja (cr p)=0)(hm:8≤most)(av:8≤cap):(eV (aG.empty cap most) p).1=0∧(eV (aG.empty cap most) p).2.1=[]∧One cap most p (cR []) (eV (aG.empty cap most) p).2.2:=by
 have n:(aG.empty cap most).fz p=2:=by simp[aG.fz,aG.empty,aG.look,bH,aM]
 have o:cR []=gA:=rfl
 have j:(aG.empty cap most).lay (cG p) ⟨false,cR []⟩=(0,aG.write ⟨cap,most,[],[],[],[],1,0,false⟩ (cG p) ⟨false,cR []⟩):=by
  unfold aG.empty;rw[D8 d (by simp only[qQ];exact hm) (by simp only[qQ];simp[iD,aG.dp,aM];exact av)]
 have i:kg cap most p (cR []) (aG.write ⟨cap,most,[],[],[],[],1,0,false⟩ (cG p) ⟨false,cR []⟩):=by
  rw[zP (k:=0) rfl];refine⟨rfl,rfl,rfl,rfl,0,?_,?_,?_,?_⟩
  ·show aM (hO _ _ _) _=_;rw[qG,if_pos rfl];rfl
  ·simp
  ·simp[b5,qQ]
  ·simp[dN.ap,hO,ea,xR]
 have:=wP j i bH d an;rw[x4 bH d n];exact⟨this.1,rfl,this.2⟩
theorem qX{f:h8}{fs:List h8}{D:aG}(h:(f D).1=0):c3 (f::fs) D=c3 fs (f D).2:=by rw[c3,if_pos h]
theorem yB{f:h8}{fs:List h8}{D:aG}(h:(f D).1≠0):c3 (f::fs) D=f D:=by rw[c3,if_neg h]
theorem One.Ga(h:One cap most p x D)(aA:cz p=true)(n:Nat)(r:Rec)(hm:x.length+13+r.length≤most):
 ((c3 (gW p n r) D).1=12∧(One cap most p x (c3 (gW p n r) D).2∨One cap most p (x++jf n r) (c3 (gW p n r) D).2)∧cap<x.length+13+r.length)∨((c3 (gW p n r) D).1=0∧One cap most p (x++ky n r) (c3 (gW p n r) D).2):=by
 have o:=oU n r;have j:∀b:List UInt8,(⟨true,[67]⟩:dZ).on b 1=b++[67]:=fun b=>by simp[dZ.on]
 unfold gW;rcases h.lay aA ⟨true,jf n r⟩with⟨_,e,_⟩|⟨aK,i,d⟩|⟨aK,i,d⟩
 ·simp only[tc,List.length_append]at e;omega
 ·simp only[tc,List.length_append]at i
  rw[yB (by rw[aK];decide)];exact .inl ⟨aK,.inl d,by omega⟩
 ·simp only[tc,List.length_append]at d i
  obtain⟨f1,f2⟩:=d.sync aA;rw[qX aK,qX f1];rcases f2.lay aA ⟨true,[67]⟩with⟨_,e,_⟩|⟨g1,g2,g3⟩|⟨g1,g2,g3⟩
  ·simp only[List.length_singleton,j,List.length_append]at e;omega
  ·simp only[List.length_singleton,j,List.length_append]at g2
   rw[yB (by rw[g1];decide)];exact .inl ⟨g1,.inr g3,by omega⟩
  ·simp only[List.length_singleton,j]at g3
   obtain⟨k,a8⟩:=g3.sync aA;rw[qX g1,qX k];refine .inr ⟨rfl,?_⟩;unfold ky;rw[←List.append_assoc];exact a8
end
end rI

namespace um
open E Go.RowKit ft gd gr gN gV hi hv hH hU iY iZ mw nj oj pI kh kG lk lN mA nm oq rI
theorem FD{cap most:Nat}{p:aH}{l:List Rec}{r:Rec}{D:aG}(h:One cap most p (cR l) D)(bH:cz p=true)(hm:(cR l).length+13+r.length≤most)(av:(cR l).length+13+r.length≤cap):(e_ D p l.length false r).1=0∧(e_ D p l.length false r).2.1=l.length+1∧(e_ D p l.length false r).2.2.1=false∧One cap most p (cR (l++[r])) (e_ D p l.length false r).2.2.2:=by
 rw[uC (yf rfl)];rcases h.Ga bH l.length r hm with⟨_,_,i⟩|⟨d,U⟩
 ·omega
 ·simp only[d,if_true]
  refine⟨trivial,trivial,trivial,?_⟩;rw[sh];exact U
end um

namespace rB
open E Go.RowKit ft gd gr gN gV hi hv hH hU iY iZ mw nj oj pI kh kG lk lN mA nm oq rI um ev eQ eR fC fD fI fS ga gz gq og uk dz
set_option maxRecDepth 100000 in
theorem qu:c4 Tryz.prog 24 52 66 96:=⟨Tryz.underlying24,_,_,rfl,rfl,rfl,rfl,rfl⟩
def mR:cY:=⟨7::List.replicate 31 0,by simp⟩
def jZ:bF:=⟨[109,97,105,110],bz,mR,[99,111,109,109,105,116]⟩
def fP(s:aN):b1:=⟨false,[],s,[jZ],false,hE,cM,[]⟩
theorem nM(s:aN):eF (fP s)=0∧fw (fP s)=0∧gl (fP s)=0:=⟨by unfold eF;simp[fP],by unfold fw;simp[fP],by unfold gl;simp[fP]⟩
theorem sE(s:aN):eI lI (fP s)=0:=vJ (nM s).1 (nM s).2.1 (by show fx [] [jZ]=0;decide+kernel) (nM s).2.2 (by show ig [] []=0;decide)
theorem D3(s:aN):eI (lI.ap (fP s)) (fP s)=21:=vJ (nM s).1 (nM s).2.1 (by show fx ([jZ].foldl dL []) [jZ]=21;decide+kernel) (nM s).2.2 (by show ig [] []=0;decide)
theorem w9(s:aN):lI.ap (fP s)=⟨[],[([109,97,105,110],mR)],[([109,97,105,110],[⟨bz,mR,[99,111,109,109,105,116]⟩])],hE,[]⟩:=by
 have h:¬mR=bz:=by intro h;have d:=congrArg (fun z:cY=>z.1.getD 0 0) h;simp only[mR,bz,List.getD_cons_zero]at d;revert d;decide
 unfold eA.ap fP;simp[dL,hl,jZ,h,gB,d_,lI,aM,h0]
theorem wc{t:b1}(d:t.bE=false)(U:t.al=false):(fl t).length=5+(t.ml.flatMap iO).length+(t.el.flatMap iM).length:=by
 unfold fl;rw[d,U];simp only[List.length_append,dT,Bool.false_eq_true,if_false,List.length_nil];omega
theorem HP{t:b1}(j:t.bE=false)(U:t.al=false)(d:t.q=hE)(k:t.an=[])(n:t.ml.length≤65535)(o:t.el.length≤65535)(i:∀m∈t.ml,m.y.length≤65535∧m.n.length≤140737488355328)(q:(t.ml.flatMap iO).length+(t.el.flatMap iM).length≤1048571):lh t:=
 ⟨n,o,fun m hm=>(i m hm).1,fun m hm=>(i m hm).2,by rw[k];simp,by rw[d];simp[hE],by rw[d];simp[hE],by rw[wc j U];omega⟩
theorem zb(s:aN):lh (fP s):=HP rfl rfl rfl rfl (Nat.le_of_ble_eq_true rfl) (Nat.le_of_ble_eq_true rfl) (fun m hm=>by rw[List.mem_singleton.1 hm];decide) (by simp only[fP,List.flatMap_cons,List.flatMap_nil,List.append_nil,nT,jZ,List.length_cons,List.length_nil];decide)
theorem Gw{l:List cA}{x:aH×cY}(h:bG l=[x]):l.length=1:=by have:=congrArg List.length h;simpa[bG]using this
theorem El{l:List e8}{n:aH}{k:List cE}(h:cp l=[(n,k)]):∃y:e8,l=[y]∧y.n=n∧y.l=k:=by
 match l,h with
 |[y],h=>
  simp only[cp,List.map_cons,List.map_nil,List.cons.injEq,Prod.mk.injEq,and_true]at h;exact⟨y,rfl,h.1,h.2⟩
theorem zj{F:Nat→Prop}{H:Heap}{s:aN}(h:Rd F H du 66 s.v [jZ]):e2 F H (fP s):=⟨h,Rd.nil _ _ _ _,Rd.nil _ _ _ _,fun y hy=>by cases hy⟩
set_option maxHeartbeats 1600000 in
theorem D4(bk:Int)(w0:World)(I:Heap)
 (aL:dY bk I) (K:bh (fun b=>b=0) I.size):
 aC Tryz.prog w0 11 #[] I (fun r bR=>r= .bool true∧aj I bR):=by
 refine aC.aK [] Tryz.func11 ?_;intro de c1;have d:aj I I:=W.refl _ _;refine G.L (fun b5=>?_);refine o.ak ?_;refine b5 (G.L (fun b6=>?_));refine aW A5 (s6 65536 65536 w0 _ (by decide) (by decide)) (fun dr dt b7=>?_);obtain⟨bv,b8,aO,rfl,i,bI,aQ⟩:=b7;have a0:=az.hk (az.nil) (K.mono d.size) bI;have bu:aZ [] I.size bv:=aZ.L (aZ.refl [] _) bI d.size;replace aL:=aL.M aQ;replace d:=d.L aQ;have dv:=aQ.size;have aP:=i.aB;have bC:=bQ.empty 65536 65536;have a7:=One.start (p:=fg) (cap:=65536) (most:=65536) (by decide) (by decide) (by decide) (by decide) (by decide);refine o.V ?_;refine o.v1 cO ?_;refine o.v1 cO ?_;refine o.aQ 2 ?_;refine b6 (G.t1 (fun b_=>G.L (fun cb=>?_)));refine o.V ?_;refine o.v1 (Y.peq rfl (by kernel_rfl) (by kernel_rfl) rfl rfl) (o.nil (cb ?_));refine dw ?_;refine G.skip (b_ (G.L (fun cc=>?_)));refine o.V ?_;refine aW Bh (FE bk bv b8 aO (aG.empty 65536 65536) _ w0 _ i aL (K.mono (by omega)) (a0) bC (by omega) a7.1 a7.2.1) (fun dy Z cd=>?_);obtain⟨x,B,N,cg,rfl,i,bp,q,bs,cN,A,bG,cS,bA,aR⟩:=cd;have a2:=az.hk (a0) (K.mono d.size) bp;have bw:aZ [] I.size N:=aZ.L (bu) bp d.size;have a3:=ay.app (ay.z) (K.mono d.size) bs;have bx:T 0 I.size (B+1):=T.L (T.refl 0 _) bs d.size;have a4:=ay.app (ay.z) (K.mono d.size) bG;have a8:T 0 I.size (x+1):=T.L (T.refl 0 _) bG d.size;replace aL:=aL.ab aR (a0);replace d:=d.bo aR (ag.ta (bu));have dz:=aR.size;have aP:=i.aB;have df:=q.le;have dh:=A.le;obtain⟨M,cX,c0,bD⟩:∃M,(eV (aG.empty 65536 65536) fg).2.2=M∧One 65536 65536 fg (cR []) M∧bQ _ M:=⟨_,rfl,a7.2.2,AP bC fg⟩;rw[cX]at i;refine o.V ?_;refine o.v1 cO ?_;refine o.v1 cO ?_;refine o.aQ 2 ?_;refine cc (G.t1 (fun cj=>G.L (fun ck=>?_)));refine o.V ?_;refine o.v1 ((cU).fm ((fun h=>h rfl))) ?_;refine o.ax 2 ?_;refine o.ao (Y.peq rfl (by kernel_rfl) (by kernel_rfl) rfl rfl) ?_;refine o.dF ?_;refine o.nil (ck ?_);refine dw ?_;refine G.skip (cj (G.L (fun cm=>?_)));refine o.v1 (Y.build (v:=bq mR) rfl rfl (by intro w;kernel_rfl)) ?_;refine o.v1 (Y.build (v:= .agg (du jZ).toArray) rfl rfl (by intro w;kernel_rfl)) ?_;refine o.aO (cT _ ([jZ]) qu e4 kO (rfl)) fun bt P cn=>?_;obtain⟨C,aa,dC,a5⟩:=cn;have dA:P.size=Z.size+1:=by rw[a5];simp
 have aD:ah (Z.size+1) N:=ah.ho i.aB;have aF:af (B+1) (Z.size+1):=af.new q.le;have aH:af (x+1) (Z.size+1):=af.new A.le;replace aL:=aL.M aa;replace i:=i.M aa;replace q:=q.M aa;replace A:=A.M aa;replace d:=d.L aa;have dF:=aa.size;obtain⟨ac,rfl⟩:∃s:aN,bt=s.v:=⟨cl bt,C.bl.symm⟩;refine o.v1 (Y.build (v:=dG (fP ac)) rfl rfl (by intro w;kernel_rfl)) ?_;refine o.aO (cV nd) ?_;rintro v5 bU ⟨rfl,aB,S,dH,cq⟩;have dD:bU.size=P.size+1:=by rw[cq];simp
 have bX:=(ay.new (K.mono d.size):ay _ (P.size+1));have aI:ah (P.size+1) N:=ah.ho i.aB;have aJ:af (B+1) (P.size+1):=af.new q.le;have aK:af (x+1) (P.size+1):=af.new A.le;have bY:af (Z.size+1) (P.size+1):=af.new C.le;have bZ:T 0 I.size (P.size+1):=T.new d.size;replace aL:=aL.M S;replace i:=i.M S;replace q:=q.M S;replace A:=A.M S;replace C:=C.M S;replace d:=d.L S;have dI:=S.size;refine o.s1 (dM aB (_) (c_ (fP ac)) (lW _) ef (dg _) ((c9 (dg _).symm))) fun X a9=>?_;obtain⟨aB,H⟩:=a9;replace H:=H.bs;replace aL:=aL.ab H (az.J bX);replace i:=i.ab H (ez.cons aI ez.nil);replace q:=q.ab H (ah.J aJ);replace A:=A.ab H (ah.J aK);replace C:=C.ab H (ah.J bY);replace d:=d.bo H (ag.J (aq.q bZ));have dJ:=H.size;refine o.nil (cm (G.t1 (fun cr=>?_)));refine dx (fun F=>W (aE (N++[(B+1),(x+1)])) X F) [] ?_;have j:W (aE (N++[(B+1),(x+1)])) X X:=W.refl _ _;have a_:=aZ.refl N X.size;have ba:=T.refl (B+1) X.size;have bc:=T.refl (x+1) X.size;have a1:=wc (t:=fP ac) rfl rfl;have dW:(fl (fP ac)).length≤100:=by rw[a1];simp[fP,nT,jZ]
 have aA:=FD c0 (l:=[]) (r:=fl (fP ac)) (by decide) (by rw[a1];simp[fP,nT,jZ,cR,e3,gA]) (by rw[a1];simp[fP,nT,jZ,cR,e3,gA]);rw[List.length_nil]at aA;refine O.V 0 rfl j ?_;refine O.t1 1 rfl (fun F L=>Y.nP (aB.ab L (ah.app aI (ah.cons aJ.symm (ah.J aK.symm)))).N rfl fj ef (dg _) rfl) j ?_;refine O.V 3 rfl j ?_;refine O.t1 4 rfl (fun F L=>Y.nP (aB.ab L (ah.app aI (ah.cons aJ.symm (ah.J aK.symm)))).N rfl fj ef (dg _) rfl) j ?_;refine O.aX 2 ?_;refine cf vc (vU bk N cg aO M _ B x 0 false la (fP ac) _ _ w0 _ i aL (K.mono (by omega)) (a2) q (cN) (a3) A (cS) (bA) (a4) (fun _=>uf) (fun b (h:False)=>h.elim) (fun k R b (h:False)=>h.elim) (fun b (h:False)=>h.elim) (fun b (h:False)=>h.elim) (zj C.rd) (bh.of C.le) (az.of (aD)) (ay.of (aF.symm)) (ay.of (aH.symm)) rp (zb ac) bD (by omega) (by omega)) (fun dK V ct=>?_);have b1:=C.le;obtain⟨Q,cu,aS,ce,rfl,i,al,q,cP,A,cW,db,am,c4,c8,da,ai,ae⟩:=ct;have cA:=az.hk (a2) (K.mono d.size) al;have cC:ah (Z.size+1) Q:=ah.hk (aD) b1 al;have bT:aZ [] I.size Q:=aZ.L (bw) al d.size;have be:aZ N X.size Q:=aZ.L (a_) al j.size;replace aL:=aL.ab ae (az.app a2 (az.cons a3 (az.J a4)));replace C:=C.ab ae (ah.app aD (ah.cons aF.symm (ah.J aH.symm)));replace d:=d.bo ae (ag.app (ag.ta (bw)) (ag.cons (aq.q bx) (ag.J (aq.q a8))));replace j:=j.aJ ae (ag.app (ag.cH (a_) (by intro k R;simp[R])) (ag.cons (aq.r ba) (ag.J (aq.r bc))));have dL:=ae.size;have aP:=i.aB;have cD:=c4;have cG:=c8;have bi:=da;have bE:=vT (D:=M) (n:=0) (br:=false) (sE ac) aA.1;rw[zU]at i q ai;rw[bE]at i q ai;rw[aA.2.1,aA.2.2.1]at q;have cZ:=AO bD fg 0 false (fl (fP ac));have bL:eI aS.m (fP ac)=21:=by rw[ai];exact D3 ac
 refine⟨.inr j,O.narrow (SH2:=fun F=>W (aE (Q++[(B+1),(x+1)])) V F) (fun F L=>j.aJ L (ag.app (ag.cH (be) (by intro k R;simp[R])) (ag.cons (aq.r ba) (ag.J (aq.r bc))))) ?_⟩;have j:W (aE (Q++[(B+1),(x+1)])) V V:=W.refl _ _;have bf:=aZ.refl Q V.size;have bg:=T.refl (B+1) V.size;have bj:=T.refl (x+1) V.size;refine O.aX 5 ?_;refine cf vc (vU bk Q cu aO (e_ M fg 0 false (fl (fP ac))).2.2.2 _ B x (0+1) false aS (fP ac) _ _ w0 _ i aL (K.mono (by omega)) (cA) q (cP) (a3) A (cW) (bA) (a4) db (am.mono (by omega)) (cD) (cG) (bi) (zj C.rd) (bh.of C.le) (az.of (cC)) (ay.of (aF.symm)) (ay.of (aH.symm)) (by rw[ai];exact rp.ap (sE ac)) (zb ac) cZ (by omega) (by omega)) (fun dN aT cv=>?_);obtain⟨aU,dU,cw,ci,rfl,i,b0,q,dT,A,dV,dc,b2,ec,ed,ee,bK,aM⟩:=cv;have cH:aZ Q V.size aU:=aZ.L (bf) b0 j.size;replace d:=d.bo aM (ag.app (ag.ta (bT)) (ag.cons (aq.q bx) (ag.J (aq.q a8))));replace j:=j.aJ aM (ag.app (ag.cH (bf) (by intro k R;simp[R])) (ag.cons (aq.r bg) (ag.J (aq.r bj))));have dO:=aM.size;have aP:=i.aB;have bF:=do_1 (D:=(e_ M fg 0 false (fl (fP ac))).2.2.2) (n:=0+1) (br:=false) (t:=fP ac) (m:=aS.m) (by rw[bL];decide);rw[bF]at i q bK;obtain⟨hm,d_⟩:∃hm,hm=bK.trans (ai.trans (w9 ac)):=⟨_,rfl⟩;refine⟨.inr j,O.narrow (SH2:=fun F=>W (aE (aU++[(B+1),(x+1)])) aT F) (fun F L=>j.aJ L (ag.app (ag.cH (cH) (by intro k R;simp[R])) (ag.cons (aq.r bg) (ag.J (aq.r bj))))) ?_⟩;have j:W (aE (aU++[(B+1),(x+1)])) aT aT:=W.refl _ _;refine O.t1 6 rfl (fun F L=>ej) j ?_;refine O.t1 7 rfl (fun F L=>ej) j ?_;refine cx ?_;refine cr (G.L (fun cI=>?_));refine o.V ?_;refine aW Bo (Ho B x cw _ w0 _ A (dc ()) (b2.mono (by omega)) (by rw[hm];exact(w9 ac)▸rp.ap (sE ac))) (fun dP aX cy=>?_);obtain⟨ak,rfl,E,a6,bl⟩:=cy;replace d:=d.L bl;have dQ:=bl.size;replace E:=E.bw;have b3:=E.bY;rw[hm]at a6;have ea:=Gw (congrArg eA.b8 a6);obtain⟨y,bO,eb,c3⟩:=El (congrArg eA.dK a6);have dX:ak.bW.length=1:=by rw[bO];rfl
 have bJ:ak.bW[0].l=[⟨bz,mR,[99,111,109,109,105,116]⟩]:=by simp only[bO];exact c3
 have dZ:ak.bW[0].l.length=1:=by rw[bJ];rfl
 refine o.aO (cV kC) ?_;rintro eg bV ⟨rfl,au,aY,dR,cz⟩;have dE:bV.size=aX.size+1:=by rw[cz];simp
 have cJ:=(ay.new (b3.mono (by omega)):ay _ (aX.size+1));have cK:T 0 I.size (aX.size+1):=T.new d.size;replace E:=E.M aY;replace d:=d.L aY;have dS:=aY.size;refine o.s1 (dM au (_) (bS ak) (jT _) di (b4 _) ((c9 (b4 _).symm))) fun dj cL=>?_;obtain⟨au,ab⟩:=cL;replace ab:=ab.bs;replace E:=E.ab ab (az.J cJ);replace d:=d.bo ab (ag.J (aq.q cK));have dk:=ab.size;refine o.nil (cI (G.L (fun cM=>?_)));refine o.V ?_;refine o.v1 ((b9).gC (by rw[zU,bE])) ?_;refine o.ax 2 ?_;refine o.ao ((b9).gC (by rw[bF];exact bL)) ?_;refine o.ax 2 ?_;refine o.ao (Y.ai au.N rfl ca rfl hb) ?_;refine o.ao (ar (au.N.drop 1) ix) ?_;refine o.ao (bb E.r gK) ?_;refine o.ao ((b9).gC (by omega)) ?_;refine o.ax 2 ?_;refine o.ao (Y.ai au.N rfl ca rfl fW) ?_;refine o.ao (ar (au.N.drop 2) hx) ?_;refine o.ao (bb E.g fG) ?_;refine o.ao ((b9).gC (by omega)) ?_;refine o.ax 2 ?_;refine o.ao (Y.ai au.N rfl ca rfl fW) ?_;refine o.ao (ar (au.N.drop 2) hx) ?_;refine o.e (g:=fun ad=> .pointer (some ad)) (Y.mS E.g (0) rfl fG fp rfl rfl (by first|rfl|omega) (by omega)) bd rfl rfl (fun dm bm=>?_);refine o.ao (Y.ai bm.N rfl fZ rfl gS) ?_;refine o.ao (ar (bm.N.drop 1) h_) ?_;refine o.ao (bb (E.n _ (List.getElem_mem _)) hR) ?_;refine o.ao ((b9).gC (by omega)) ?_;refine o.ax 2 ?_;refine o.ao (Y.ai au.N rfl ca rfl fW) ?_;refine o.ao (ar (au.N.drop 2) hx) ?_;refine o.e (g:=fun ad=> .pointer (some ad)) (Y.mS E.g (0) rfl fG fp rfl rfl (by first|rfl|omega) (by omega)) bd rfl rfl (fun dp bn=>?_);refine o.ao (Y.ai bn.N rfl fZ rfl gS) ?_;refine o.ao (ar (bn.N.drop 1) h_) ?_;refine o.e (g:=fun ad=> .pointer (some ad)) (Y.mS (E.n _ (List.getElem_mem _)) (0) rfl hR j7 rfl rfl (by first|rfl|omega) (by omega)) bd rfl rfl (fun dq bo=>?_);refine o.ao (Y.ai bo.N rfl HR rfl bP) ?_;refine o.ao (ar bo.N.En bN) ?_;refine o.ao ((Y.jz rfl rfl rfl).gC (by simp only[bJ];rfl)) ?_;refine o.aQ 2 ?_;refine cM ?_;refine G.ret (c1 ?_);exact⟨rfl,d⟩
end rB

namespace E
open Go.ChangeShapes Go.WideShapes Go.ChangeAt Go.RowKit Go.Deep
section
variable {H : Type} {enc : TypeId × Value → H} {P : Program} {ch : World} {base : Nat} {sp : Nat → Bool} {held : Bool}
def nn(P:Program)(t:TypeId)(d:DataW H):Prop:=∀n∈d.weights P t,n≤reachBytes
theorem nn.of{i:List TypeId}{ds:List (DataW H)}{j:Nat}{t:TypeId}{d:DataW H}(h:(DataW.weightsEach P i ds).all (·≤reachBytes)=true)(k:i[j]?=some t)(an:ds[j]?=some d):nn P t d:=fun n aA=>by
 have:=List.all_eq_true.1 h _ (DataW.weights_mem_each k an n aA)
 simpa using this
theorem yW{t e:TypeId}{n:Nat}{u:Value}{y:DataW H}{eW:List MemPlace}(he:P.underlying t=some (.slice e))(hy:DataW.trod enc P ch base sp held n t [u]=some (y,eW)):∃s:aN,u=s.v:=by
 rcases open_slice he hy with⟨d,_⟩|⟨a,len,cap,_,_,_,_,d,_⟩
 ·simp only[List.cons.injEq,and_true]at d;exact⟨⟨none,0,0⟩,d⟩
 ·simp only[List.cons.injEq,and_true]at d;exact⟨⟨some a,len,cap⟩,d⟩
theorem F6{n m:Nat}{t e:TypeId}{cs:List Value}{y:DataW H}{eW:List MemPlace}(x:P.underlying t=some (.array n e))(he:P.underlying e=some (.int .u8))(av:P.cellsOf e=1)(C:cs.length=n)(h:DataW.trod enc P ch base sp held m t cs=some (y,eW)):
 ∃l:List UInt8,cs=l.map (fun b=>Value.int .u8 b.toNat)∧l.length=n:=by
 obtain⟨xs,m,_,ex,hlen,B,q⟩:=DataW.trod_array x h
 have:∀i,i<n→∃b:UInt8,cs[i]?=some (.int .u8 b.toNat):=by
  intro i d;have k:=q i d;rw[av,Nat.mul_one,List.getElem?_eq_getElem (by omega)]at k;obtain⟨z,aK,A,hw⟩:=DataW.trod_int he k;obtain⟨b,rfl⟩:=zy hw;refine⟨b,?_⟩;have o:((cs.drop i).take 1)[0]?=some (.int .u8 b.toNat):=by rw[aK];rfl
  simpa using o
 obtain⟨l,j,r⟩:=xe this;refine⟨l,?_,j⟩;apply List.ext_getElem?;intro i;by_cases d:i<n
 ·rw[r i l[i] (by simp[j,d])];simp[j,d]
 ·rw[List.getElem?_eq_none (by omega),List.getElem?_eq_none (by simp;omega)]
end
end E

namespace uj
open E Go.RowKit eM eP e1 e7 ev eQ eR mu pH dz
section
variable {H : Type} {enc : TypeId × Value → H} {P : Program} {ch : World} {base : Nat} {sp : Nat → Bool} {held : Bool}
open Go.ChangeShapes Go.WideShapes Go.ChangeAt Go.RowKit Go.Deep
theorem Dr{fs:Array Field}{l:List (TypeId×Nat)}(i:fs.toList.map (fun f=>(f.type,f.offset))=l){j:Nat}{t:TypeId}{J:Nat}(h:l[j]?=some (t,J)):∃f,fs[j]?=some f∧f.type=t∧f.offset=J:=by
 rw[←i,List.getElem?_map]at h;obtain⟨f,d,U⟩:=Option.map_eq_some_iff.1 h;simp only[Prod.mk.injEq]at U;exact⟨f,by simpa using d,U.1,U.2⟩
theorem u0{d:DataW H}:∀{ds:List (DataW H)},d∈ds→Rows.uptoBulk d≤Rows.uptoBulkAll ds
 |x::ds,h=>by
  simp only[Rows.uptoBulkAll];rcases List.mem_cons.1 h with rfl|h
  ·omega
  ·have:=u0 h;omega
theorem parts{fs:Array Field}{k:List (TypeId×Nat)}{t:TypeId}{n:Nat}{cs:List Value}{y:DataW H}{eW:List MemPlace}(E:P.underlying t=some (.struct fs))(B:fs.toList.map (fun f=>(f.type,f.offset))=k)(h:DataW.trod enc P ch base sp held n t cs=some (y,eW)){j:Nat}{ty:TypeId}{J c:Nat}(C:k[j]?=some (ty,J))(av:P.cellsOf ty=c):
 ∃z q m,DataW.trod enc P ch base sp held m ty ((cs.drop J).take c)=some (z,q)∧Rows.uptoBulk z+1≤Rows.uptoBulk y:=by
 obtain⟨xs,m,_,o,F,hlen,A⟩:=DataW.trod_struct E h;obtain⟨f,x,rfl,rfl⟩:=Dr B C;have i:=A j f x;rw[av]at i;have r:j<xs.length:=by rw[hlen];exact(Array.getElem?_eq_some_iff.1 x).1
 rw[List.getElem?_eq_getElem r]at i;simp only[Prod.mk.injEq]at o;refine⟨xs[j].1,xs[j].2,m,i,?_⟩;rw[o.1];simp only[Rows.uptoBulk];have:=u0 (ds:=xs.map (·.1)) (d:=xs[j].1) (List.mem_map.2 ⟨xs[j],List.getElem_mem r,rfl⟩);omega
theorem iq{cs:List Value}(a n b:Nat)(aw:b=a+n):cs.drop a=(cs.drop a).take n++cs.drop b:=by
 subst aw
 conv=>lhs;rw[←List.take_append_drop n (cs.drop a),List.drop_drop]
theorem pg{cs:List Value}(a n:Nat)(h:cs.length=a+n):cs.drop a=(cs.drop a).take n:=(List.take_of_length_le (by simp;omega)).symm
theorem qT{t:TypeId}{m:Nat}{c:List Value}{z:DataW H}{q:List MemPlace}(u:P.underlying t=some .string)(h:DataW.trod enc P ch base sp held m t c=some (z,q)):∃s:List UInt8,c=[aI s]∧s.length+1≤Rows.uptoBulk z:=by
 obtain⟨s,e,ex,_⟩:=DataW.trod_string u h;simp only[Prod.mk.injEq]at ex;exact⟨s.data.toList,e,by rw[ex.1];simp[Rows.uptoBulk]⟩
theorem nZ{t u8:TypeId}{m:Nat}{c:List Value}{z:DataW H}{q:List MemPlace}(u:P.underlying t=some (.array 32 u8))(hu:P.underlying u8=some (.int .u8))(bm:P.cellsOf u8=1)(j:c.length=32)(h:DataW.trod enc P ch base sp held m t c=some (z,q)):∃i:cY,c=b7 i:=by
 obtain⟨k,e,d⟩:=F6 u hu bm j h;exact⟨⟨k,d⟩,e⟩
theorem tg{α:Type}(f:α→List Value)(sz:Nat)(B:α→Nat)(Φ:α→Prop){t e:TypeId}{m:Nat}{c:List Value}{z:DataW H}{q:List MemPlace}(u:P.underlying t=some (.slice e))(av:P.cellsOf e=sz)(k:∀x,(f x).length=sz)(r:0<sz)
 (elem:∀n d y eW,DataW.trod enc P ch base sp held n e d=some (y,eW)→d.length=sz→∃x,d=f x∧Φ x∧B x≤Rows.uptoBulk y) (o:c.length=1) (h:DataW.trod enc P ch base sp held m t c=some (z,q)):
 ∃(s:aN) (l:List α),c=[s.v]∧bx ch.heap f sz s.v l∧(∀x∈l,Φ x)∧(l.map B).sum+1≤Rows.uptoBulk z:=by
 obtain⟨v,rfl⟩:=List.length_eq_one_iff.1 o;obtain⟨s,rfl⟩:=yW u h;obtain⟨l,i,U,j⟩:=pd f sz B Φ (v:=s.v) rfl u av k r elem ⟨m,h⟩;exact⟨s,l,rfl,i,U,j⟩
end
section
variable {H : Type} {enc : TypeId × Value → H} {ch : World} {base : Nat} {sp : Nat → Bool} {held : Bool}
def qI(m:bF):Nat:=max m.n.length m.y.length
theorem C2(n:Nat)(cs:List Value)(y:DataW H)(eW:List MemPlace)(h:DataW.trod enc Tryz.prog ch base sp held n 52 cs=some (y,eW))(G:cs.length=66):∃x:bF,cs=du x∧True∧qI x≤Rows.uptoBulk y:=by
 have al:Tryz.prog.underlying 52=some (.struct (Tryz.prog.fieldsOf 52)):=by kernel_rfl
 have d:(Tryz.prog.fieldsOf 52).toList.map (fun f=>(f.type,f.offset))=[(9,0),(26,1),(26,33),(9,65)]:=by kernel_rfl
 obtain⟨z0,M,I,q,B⟩:=parts al d h (j:=0) (c:=1) rfl (by kernel_rfl);obtain⟨aO,N,V,r,C⟩:=parts al d h (j:=1) (c:=32) rfl (by kernel_rfl);obtain⟨z2,O,K,t,E⟩:=parts al d h (j:=2) (c:=32) rfl (by kernel_rfl);obtain⟨z3,P,L,A,F⟩:=parts al d h (j:=3) (c:=1) rfl (by kernel_rfl);obtain⟨s,i,w0⟩:=qT Tryz.underlying9 q;obtain⟨J,aK⟩:=nZ Tryz.underlying26 Tryz.underlying5 (by kernel_rfl) (by simp;omega) r;obtain⟨w,k⟩:=nZ Tryz.underlying26 Tryz.underlying5 (by kernel_rfl) (by simp;omega) t;obtain⟨x,o,Q⟩:=qT Tryz.underlying9 A;refine⟨⟨s,J,w,x⟩,?_,trivial,Nat.max_le.2 ⟨by simp only;omega,by simp only;omega⟩⟩;show cs.drop 0=_;rw[iq 0 1 1 rfl,iq 1 32 33 rfl,iq 33 32 65 rfl,pg 65 1 (by omega),i,aK,k,o];rfl
theorem C4(n:Nat)(cs:List Value)(y:DataW H)(eW:List MemPlace)(h:DataW.trod enc Tryz.prog ch base sp held n 129 cs=some (y,eW))(A:cs.length=33):∃x:fE,cs=c2 x∧True∧0≤Rows.uptoBulk y:=by
 have al:Tryz.prog.underlying 129=some (.struct (Tryz.prog.fieldsOf 129)):=by kernel_rfl
 have d:(Tryz.prog.fieldsOf 129).toList.map (fun f=>(f.type,f.offset))=[(3,0),(26,1)]:=by kernel_rfl
 obtain⟨z0,C,B,o,r⟩:=parts al d h (j:=0) (c:=1) rfl (by kernel_rfl);obtain⟨aO,E,V,q,t⟩:=parts al d h (j:=1) (c:=32) rfl (by kernel_rfl);obtain⟨k,i,_,_⟩:=DataW.trod_int Tryz.underlying3 o;obtain⟨J,aK⟩:=nZ Tryz.underlying26 Tryz.underlying5 (by kernel_rfl) (by simp;omega) q;refine⟨⟨k,J⟩,?_,trivial,Nat.zero_le _⟩;show cs.drop 0=_;rw[iq 0 1 1 rfl,pg 1 32 (by omega),i,aK];rfl
theorem C1(n:Nat)(cs:List Value)(y:DataW H)(eW:List MemPlace)(h:DataW.trod enc Tryz.prog ch base sp held n 68 cs=some (y,eW))(B:cs.length=33):∃x:bA,cs=bO x∧bx ch.heap a1 1 x.v.v x.d∧x.d.length≤Rows.uptoBulk y:=by
 have al:Tryz.prog.underlying 68=some (.struct (Tryz.prog.fieldsOf 68)):=by kernel_rfl
 have i:(Tryz.prog.fieldsOf 68).toList.map (fun f=>(f.type,f.offset))=[(26,0),(57,32)]:=by kernel_rfl
 obtain⟨z0,E,C,r,t⟩:=parts al i h (j:=0) (c:=32) rfl (by kernel_rfl);obtain⟨aO,q,V,d,A⟩:=parts al i h (j:=1) (c:=1) rfl (by kernel_rfl);obtain⟨J,k⟩:=nZ Tryz.underlying26 Tryz.underlying5 (by kernel_rfl) (by simp;omega) r;obtain⟨u,aK⟩:=List.length_eq_one_iff.1 (show((cs.drop 32).take 1).length=1 by simp;omega);rw[aK]at d;obtain⟨s,rfl⟩:=yW Tryz.underlying57 d;obtain⟨l,o,U⟩:=F8 rfl Tryz.underlying57 Tryz.underlying5 (by kernel_rfl) (show DataW.Trod enc Tryz.prog ch base sp held 57 s.v aO q from⟨V,d⟩);refine⟨⟨J,s,l⟩,?_,o,by simp only;omega⟩;show cs.drop 0=_;rw[iq 0 32 32 rfl,pg 32 1 (by omega),k,aK];rfl
theorem C3(n:Nat)(cs:List Value)(y:DataW H)(eW:List MemPlace)(h:DataW.trod enc Tryz.prog ch base sp held n 29 cs=some (y,eW))(Y:cs.length=70):∃x:cZ,cs=dX x∧bx ch.heap c2 33 x.cd.v x.a6∧x.br.length≤Rows.uptoBulk y:=by
 have al:Tryz.prog.underlying 29=some (.struct (Tryz.prog.fieldsOf 29)):=by kernel_rfl
 have d:(Tryz.prog.fieldsOf 29).toList.map (fun f=>(f.type,f.offset))=[(3,0),(9,1),(26,2),(26,34),(27,66),(3,67),(3,68),(4,69)]:=by kernel_rfl
 obtain⟨z0,ai,Z,E,O⟩:=parts al d h (j:=0) (c:=1) rfl (by kernel_rfl);obtain⟨aO,ak,V,F,P⟩:=parts al d h (j:=1) (c:=1) rfl (by kernel_rfl);obtain⟨z2,aq,aa,G,Q⟩:=parts al d h (j:=2) (c:=32) rfl (by kernel_rfl);obtain⟨z3,ar,ab,I,R⟩:=parts al d h (j:=3) (c:=32) rfl (by kernel_rfl);obtain⟨z4,au,ae,K,S⟩:=parts al d h (j:=4) (c:=1) rfl (by kernel_rfl);obtain⟨z5,ay,af,L,T⟩:=parts al d h (j:=5) (c:=1) rfl (by kernel_rfl);obtain⟨aB,az,ag,M,W⟩:=parts al d h (j:=6) (c:=1) rfl (by kernel_rfl);obtain⟨aC,aA,ah,N,X⟩:=parts al d h (j:=7) (c:=1) rfl (by kernel_rfl);obtain⟨k,i,_,_⟩:=DataW.trod_int Tryz.underlying3 E;obtain⟨s,aK,ao⟩:=qT Tryz.underlying9 F;obtain⟨bX,o⟩:=nZ Tryz.underlying26 Tryz.underlying5 (by kernel_rfl) (by simp;omega) G;obtain⟨bm,q⟩:=nZ Tryz.underlying26 Tryz.underlying5 (by kernel_rfl) (by simp;omega) I;obtain⟨cd,a6,r,C,_,_⟩:=tg c2 33 (fun _=>0) (fun _=>True) Tryz.underlying27 (by kernel_rfl) hX (by decide) C4 (by simp;omega) K;obtain⟨dn,t,_,_⟩:=DataW.trod_int Tryz.underlying3 L;obtain⟨md,A,_,_⟩:=DataW.trod_int Tryz.underlying3 M;obtain⟨st,B,_⟩:=DataW.trod_bool Tryz.underlying4 N;refine⟨⟨k,s,bX,bm,cd,a6,dn,md,st⟩,?_,C,by simp only;omega⟩;show cs.drop 0=_;rw[iq 0 1 1 rfl,iq 1 1 2 rfl,iq 2 32 34 rfl,iq 34 32 66 rfl,iq 66 1 67 rfl,iq 67 1 68 rfl,iq 68 1 69 rfl,pg 69 1 (by omega),i,aK,o,q,r,t,A,B];rfl
def fQ(x:b1):Nat:=max (max x.an.length x.q.br.length) (max (x.ml.map qI).sum (x.el.map (·.d.length)).sum)
theorem qE{α:Type}{B:α→Nat}:∀{l:List α} {x:α},x∈l→B x≤(l.map B).sum
 |y::l,x,h=>by
  simp only[List.map_cons,List.sum_cons];rcases List.mem_cons.1 h with rfl|h
  ·omega
  ·have:=qE (B:=B) h;omega
theorem zr{x:b1}(h:fQ x≤140737488355328):pJ x:=by
 unfold fQ at h;have d:=Nat.max_le.1 h;have U:=Nat.max_le.1 d.1;have i:=Nat.max_le.1 d.2;refine⟨U.1,U.2,fun m hm=>?_,fun y hy=>?_⟩
 ·have j:=qE (B:=qI) hm
  have k:=Nat.max_le.1 (Nat.le_trans j i.1);exact k
 ·exact Nat.le_trans (qE (B:=fun y:bA=>y.d.length) hy) i.2
theorem vX(n:Nat)(cs:List Value)(y:DataW H)(eW:List MemPlace)(h:DataW.trod enc Tryz.prog ch base sp held n 32 cs=some (y,eW))(S:cs.length=75):∃x:b1,cs=c_ x∧e2 (fun _=>True) ch.heap x∧fQ x≤Rows.uptoBulk y:=by
 have al:Tryz.prog.underlying 32=some (.struct (Tryz.prog.fieldsOf 32)):=by kernel_rfl
 have d:(Tryz.prog.fieldsOf 32).toList.map (fun f=>(f.type,f.offset))=[(4,0),(9,1),(24,2),(4,3),(29,4),(30,74)]:=by kernel_rfl
 obtain⟨z0,aa,T,E,M⟩:=parts al d h (j:=0) (c:=1) rfl (by kernel_rfl);obtain⟨aO,ab,V,F,N⟩:=parts al d h (j:=1) (c:=1) rfl (by kernel_rfl);obtain⟨z2,ae,W,G,O⟩:=parts al d h (j:=2) (c:=1) rfl (by kernel_rfl);obtain⟨z3,af,X,I,P⟩:=parts al d h (j:=3) (c:=1) rfl (by kernel_rfl);obtain⟨z4,ag,Y,K,Q⟩:=parts al d h (j:=4) (c:=70) rfl (by kernel_rfl);obtain⟨z5,ah,Z,L,R⟩:=parts al d h (j:=5) (c:=1) rfl (by kernel_rfl);obtain⟨bE,i,_⟩:=DataW.trod_bool Tryz.underlying4 E;obtain⟨an,aK,ao⟩:=qT Tryz.underlying9 F;obtain⟨ei,ml,k,hm,_,ai⟩:=tg du 66 qI (fun _=>True) Tryz.underlying24 (by kernel_rfl) e4 (by decide) C2 (by simp;omega) G;obtain⟨C,o,_⟩:=DataW.trod_bool Tryz.underlying4 I;obtain⟨q,r,B,ak⟩:=C3 _ _ _ _ K (by simp;omega);obtain⟨ct,el,t,he,A,aq⟩:=tg bO 33 (fun x:bA=>x.d.length) (fun x=>bx ch.heap a1 1 x.v.v x.d) Tryz.underlying30 (by kernel_rfl) c0 (by decide) C1 (by simp;omega) L;refine⟨⟨bE,an,ei,ml,C,q,ct,el⟩,?_,⟨hm,B,he,A⟩,Nat.max_le.2 ⟨Nat.max_le.2 ⟨by simp only;omega,by simp only;omega⟩,Nat.max_le.2 ⟨by simp only;omega,by simp only;omega⟩⟩⟩;show cs.drop 0=_;rw[iq 0 1 1 rfl,iq 1 1 2 rfl,iq 2 1 3 rfl,iq 3 1 4 rfl,iq 4 70 74 rfl,pg 74 1 (by omega),i,aK,k,o,r,t];rfl
theorem F_{v:Value}{d:DataW H}{p:List MemPlace}(j:v.cells= #[v])(h:DataW.Trod enc Tryz.prog ch base sp held 22 v d p):∃l:List b1,bx ch.heap c_ 75 v l∧(∀x∈l,e2 (fun _=>True) ch.heap x)∧∀x∈l,fQ x≤Rows.uptoBulk d:=by
 obtain⟨l,i,U,n⟩:=pd c_ 75 fQ (e2 (fun _=>True) ch.heap) j Tryz.underlying22 (by kernel_rfl) dg (by decide) vX h;exact⟨l,i,U,fun x k=>by have:=qE (B:=fQ) k;omega⟩
open Go.ChangeShapes Go.WideShapes Go.ChangeAt in
theorem F9{r:Reach}{i:Nat}{v:Value}{d:DataW H}{p:List MemPlace}(n:Value.okWide Tryz.prog ch r i 32 v)(h:DataW.Trod enc Tryz.prog ch base sp held 32 v d p):∃x:b1,v=dG x∧e2 (fun _=>True) ch.heap x∧fQ x≤Rows.uptoBulk d:=by
 have al:Tryz.prog.underlying 32=some (.struct (Tryz.prog.fieldsOf 32)):=by kernel_rfl
 obtain⟨cs,rfl,o⟩:=okWide_struct al n;obtain⟨fuel,h⟩:=h;obtain⟨_,_,_,_,k,_,_⟩:=DataW.trod_struct al h;have av:Tryz.prog.cellsOf 32=75:=by kernel_rfl
 obtain⟨x,e,j,U⟩:=vX _ _ _ _ h (k.trans av);refine⟨x,?_,j,U⟩;show Value.agg cs= .agg _;congr 1;exact Array.ext' e
end
end uj

namespace uh
open E Go.RowKit ft ev eQ eR fD fI fS ga gq og rB hG pE oi mu pH rF dz
theorem yw:∀{a b:List cA},bG a=bG b→a=b
 |[],[],_=>rfl
 |x::a,[],h=>by cases h
 |[],y::b,h=>by cases h
 |x::a,y::b,h=>by
  simp only[bG,List.map_cons,List.cons.injEq,Prod.mk.injEq]at h;have e:x=y:=by cases x;cases y;simp only at h;rw[h.1.1,h.1.2]
  rw[e,yw (a:=a) (b:=b) h.2]
theorem q7{a b:cW}(h:a.m=b.m):kf a b:=by
 have i:a.an=b.an:=congrArg eA.an h;have U:bG a.ba=bG b.ba:=congrArg eA.b8 h;have j:cp a.bW=cp b.bW:=congrArg eA.dK h;have d:a.q.p=b.q.p:=congrArg eA.q h;have k:cn a.el=cn b.el:=congrArg eA.gD h;exact⟨i,⟨congrArg (·.k) d,congrArg (·.br) d,congrArg (·.bX) d,congrArg (·.bm) d,congrArg (·.dn) d,congrArg (·.md) d,congrArg (·.st) d,congrArg (·.a6) d⟩,yw U,j,k⟩
end uh

namespace ui
open E Go.RowKit ft ev eQ eR fC fD fI fS ga gq og rB hG pE oi ke pG rD mu rE pH rF uh dz
set_option maxHeartbeats 1600000 in
theorem Gc(bk:Int)(v1 v2:Value)(l:List b1)(on:List Bool)(t:b1)(w0:World)(I:Heap)
 (aL:dY bk I) (bZ:bh (fun b=>b=0) I.size) (V:bx I c_ 75 v1 l) (N:∀t∈l,e2 (fun _=>True) I t) (hw:∀t∈l,pJ t) (P:bx I qa 1 v2 on) (R:e2 (fun _=>True) I t) (dv:pJ t):
 aC Tryz.prog w0 7 #[v1,v2,dG t] I (fun r dI=>r= .bool true∧aj I dI):=by
 refine aC.aK [v1,v2,dG t] Tryz.func7 ?_;intro gv cH;have C:aj I I:=W.refl _ _;replace V:=V.bw;have bT:=V.bY;replace N:=fun t ar=>(N t ar).bw;have cm:bh (fun b=>True∧b<I.size) I.size:=fun b h=>h.2;replace P:=P.bw;have a0:=P.bY;replace R:=R.bw;have b2:=R.bY;have ic:=V.len;refine G.L (fun fL=>?_);refine o.aO cq ?_;rintro v5 cL ⟨rfl,ai,aB,ex,fM⟩;have g_:cL.size=I.size+1:=by rw[fM];simp
 replace aL:=aL.M aB;replace V:=V.M aB;replace N:=fun t ar=>(N t ar).M aB;replace P:=P.M aB;replace R:=R.M aB;replace C:=C.L aB;have h6:=aB.size;replace ai:Var 32 cL I.size (c_ t):=ai;refine o.ak ?_;refine fL (G.t1 (fun fN=>G.L (fun dl=>?_)));refine aW AZ (D4 bk w0 _ aL (bZ.mono (by omega))) (fun h7 K cF=>?_);obtain⟨rfl,a_⟩:=cF;replace aL:=aL.M a_;replace V:=V.M a_;replace N:=fun t ar=>(N t ar).M a_;replace P:=P.M a_;replace R:=R.M a_;replace ai:=ai.M a_;replace C:=C.L a_;have hl:=a_.size;refine o.v1 eL (o.nil (dl ?_));refine dw ?_;refine G.skip (fN (G.L (fun dn=>?_)));refine o.aO (cV kC) ?_;rintro iq B ⟨rfl,k,be,hn,fO⟩;have ha:B.size=K.size+1:=by rw[fO];simp
 have fJ:=(ay.new (bZ.mono C.size):ay _ (K.size+1));have ds:=(ay.new (bT.mono C.size):ay _ (K.size+1));have fP:=(ay.new (cm.mono C.size):ay _ (K.size+1));have dP:=(ay.new (a0.mono C.size):ay _ (K.size+1));have dQ:=(ay.new (b2.mono C.size):ay _ (K.size+1));have dR:af (I.size+1) (K.size+1):=af.new ai.lt;have dS:T 0 I.size (K.size+1):=T.new C.size;replace aL:=aL.M be;replace V:=V.M be;replace N:=fun t ar=>(N t ar).M be;replace P:=P.M be;replace R:=R.M be;replace ai:=ai.M be;replace C:=C.L be;have ho:=be.size;replace k:Var 47 B K.size (bS la):=k;refine o.aO (cV kC) ?_;rintro ir bQ ⟨rfl,n,a6,hp,fQ⟩;have hb:bQ.size=B.size+1:=by rw[fQ];simp
 have ev:=(ay.new (bZ.mono C.size):ay _ (B.size+1));have e4:=(ay.new (bT.mono C.size):ay _ (B.size+1));have e5:=(ay.new (cm.mono C.size):ay _ (B.size+1));have e6:=(ay.new (a0.mono C.size):ay _ (B.size+1));have e7:=(ay.new (b2.mono C.size):ay _ (B.size+1));have ce:af (I.size+1) (B.size+1):=af.new ai.lt;have br:af (K.size+1) (B.size+1):=af.new k.lt;have e8:T 0 I.size (B.size+1):=T.new C.size;replace aL:=aL.M a6;replace V:=V.M a6;replace N:=fun t ar=>(N t ar).M a6;replace P:=P.M a6;replace R:=R.M a6;replace ai:=ai.M a6;replace k:=k.M a6;replace C:=C.L a6;have hs:=a6.size;replace n:Var 47 bQ B.size (bS la):=n;refine o.nil (dn (G.t1 (fun fR=>G.L (fun fS=>?_))));refine o.ak ?_;refine fS (G.aB (fun _ fT _=>?_))
 refine G.bg (fun(bE:(Nat)×(cW)×(cW))=>match bE with|(i,s,x)=>[(0,v1),(1,v2),(5,.pointer (some ⟨I.size,0,none⟩)),(7,.pointer (some ⟨K.size,0,none⟩)),(8,.pointer (some ⟨B.size,0,none⟩)),(9,.int .i64 (i:Int))])
  (fun(i,s,x) (H:Heap)=>(i≤l.length∧i≤12)∧(Var 47 H K.size (bS s))∧(Var 47 H B.size (bS x))∧(∀u:Unit,eS (fun b=>B.size<b∧b<H.size) H s)∧(bh (fun b=>B.size<b∧b<H.size) H.size)∧(ay (fun b=>B.size<b∧b<H.size) (K.size+1))∧(ay (fun b=>B.size<b∧b<H.size) (B.size+1))∧(∀u:Unit,eS (fun b=>B.size<b∧b<H.size) H x)∧(bh (fun b=>B.size<b∧b<H.size) H.size)∧(ay (fun b=>B.size<b∧b<H.size) (K.size+1))∧(ay (fun b=>B.size<b∧b<H.size) (B.size+1))∧(s.m=x.m)∧(s.m.Ok)∧W (aE [(K.size+1),(B.size+1)]) bQ H)
  (fun(i,s,x)=>l.length-i) (0,la,la) ⟨rfl,rfl,rfl,rfl,rfl,rfl,trivial⟩ ?_ ?_
 ·
  exact⟨(by omega),k,n,(fun _=>uf),(fun b e=>e.2),(fun b e h=>by have q:=e.1;omega),(fun b e h=>by have q:=e.1;omega),(fun _=>uf),(fun b e=>e.2),(fun b e h=>by have q:=e.1;omega),(fun b e h=>by have q:=e.1;omega),rfl,rp,W.refl _ _⟩
 rintro⟨i,s,x⟩ ht fU gu dj fq;obtain⟨h9,k,n,al,cj,f1,f2,A,bV,g1,g2,aJ,ok,ac⟩:=fU;replace aL:=aL.ab ac (az.cons fJ (az.J ev));replace V:=V.ab ac (az.cons ds (az.J e4));replace N:=fun t ar=>(N t ar).ab ac (az.cons fP (az.J e5));replace P:=P.ab ac (az.cons dP (az.J e6));replace R:=R.ab ac (az.cons dQ (az.J e7));replace ai:=ai.ab ac (ah.cons dR (ah.J ce));replace C:=C.bo ac (ag.cons (aq.q dS) (ag.J (aq.q e8)));have hv:=ac.size;have dN:=T.refl (K.size+1) bQ.size;have dO:=T.refl (B.size+1) bQ.size;have b_:x.m.Ok:=by rw[←aJ];exact ok
 refine G.t2 (fun fr ft=>G.L (fun e9=>?_));refine o.ax 2 ?_;refine o.v1 (bb V tZ) ?_;refine o.v1 bJ ?_;refine o.V ?_;refine o.join (d:=23) (v:= .bool (decide ((i:Int)<l.length∧(i:Int)<12))) 3 (fun cM=>?_) ?_
 ·
  refine o.bj (d:=20) rfl (fun b3=>?_) (fun b3=>?_)
  ·
   refine o.bU ?_;refine o.ao bJ ?_;refine o.N ?_;exact cM _ (congrArg (fun b=>some (Value.bool b)) (by simp[b3])) (ae (ae (ae (bC (congrArg Value.bool (decide_eq_true b3).symm)))))
  ·
   refine o.ax 3 ?_;exact cM _ (congrArg (fun b=>some (Value.bool b)) (by simp[b3])) (ae (ae (ae (bC (congrArg Value.bool (decide_eq_false b3).symm)))))
 refine o.nil (e9 ?_);refine aU (fun fu=>?_) (fun fu=>?_)
 ·
  refine G.skip (fr (G.t1 (fun c8=>G.aB (fun dU ci _=>G.t2 (fun e_ fe=>G.L (fun ff=>?_))))));refine o.ax 2 ?_;have gf:i<l.length:=by omega
  obtain⟨y,cG⟩:∃q,q=l[i]:=⟨_,rfl⟩;have bA:y∈l:=by rw[cG];exact List.getElem_mem gf
  have cJ:=hw y bA;refine o.bR (Y.bL V (i) rfl tZ ef rfl rfl) fun gK fg=>?_;refine o.v1 (Y.cast (v2:=dG y) (aT fg.N fj ef (dg _)) (by rw[cG])) ?_;refine aW u7 (wC y w0 _ (N y bA).m.any (N y bA).q.any (N y bA).e.any (fun z b8=>((N y bA).d z b8).any) cJ) (fun hx aF fw=>?_);obtain⟨rfl,aN⟩:=fw;replace aL:=aL.M aN;replace V:=V.M aN;replace N:=fun t ar=>(N t ar).M aN;replace P:=P.M aN;replace k:=k.M aN;replace n:=n.M aN;replace al:=fun u=>(al u).M aN;replace A:=fun u=>(A u).M aN;replace ac:=ac.bc aN;have hz:=aN.size;refine o.v1 (Y.hp rfl rfl) (o.nil (ff ?_));refine aU (fun dk=>?_) (fun dk=>?_)
  ·
   refine G.exit (fe (ci ?_));refine c8 (G.region ?_);refine o.V ?_;refine o.v1 bD ?_;refine o.ak ?_;refine aP.sub (dj (i+1,s,x) _ ?_ ?_) ⟨rfl,rfl,rfl,rfl,rfl,(aD (by omega)),trivial⟩
   ·exact⟨(by omega),k,n,(fun _=>(al ()).imp (fun b aw e=>⟨e.1,aw⟩)),(fun b e=>e.2),(fun b e h=>by have q:=e.1;omega),(fun b e h=>by have q:=e.1;omega),(fun _=>(A ()).imp (fun b aw e=>⟨e.1,aw⟩)),(fun b e=>e.2),(fun b e h=>by have q:=e.1;omega),(fun b e h=>by have q:=e.1;omega),aJ,ok,ac⟩
   ·first|omega|(simp only;omega)|(simp;omega)
  ·
   have bP:iw y:=Classical.not_not.1 dk;obtain⟨bH,gl,gm,gn⟩:=id bP;refine G.skip (e_ ?_)
   refine G.cut (fun(bE:(Nat)×(b1)×(Nat→Prop))=>match bE with|(bN,aA,aK)=>[(0,v1),(1,v2),(5,.pointer (some ⟨I.size,0,none⟩)),(7,.pointer (some ⟨K.size,0,none⟩)),(8,.pointer (some ⟨B.size,0,none⟩)),(9,.int .i64 (i:Int)),(10,.pointer (some ⟨bN,0,none⟩))])
    (fun(bN,aA,aK) (H:Heap)=>(Var 32 H bN (c_ aA))∧(∀u:Unit,e2 aK H aA)∧(bh aK H.size)∧(ay aK (K.size+1))∧(ay aK (B.size+1))∧(iw aA)∧(T 0 aF.size ((bN+1)))∧aj aF H) (fun _ da _=>?_) ?_
   ·
    have ab:aj aF aF:=W.refl _ _;refine dx (fun F=>aj aF F) [8] ?_;have Q:=aj.refl aF;refine O.t1 0 rfl (fun F E=>aT (n.N.M E) eC di (b4 _)) Q ?_;refine O.V 1 rfl Q ?_;refine O.V 2 rfl Q ?_;refine O.e (g:=fun ad=> .pointer (some ad)) 3 (by kernel_rfl) rfl (by kernel_rfl) (by kernel_rfl) (by kernel_rfl) (Y.bL V (i) rfl tZ ef rfl rfl) cQ rfl rfl Q (fun gM fh=>?_);refine O.t1 4 rfl (fun F E=>Y.cast (v2:=dG y) (aT (fh.N.M E) fj ef (dg _)) (by rw[cG])) Q ?_;refine O.V 5 rfl Q ?_;refine O.two (i:=6) (j:=7) (by kernel_rfl) ?_ ?_
    ·
     refine cf r1 (s5 x y v2 on _ w0 _ (A ()).r.any (N y bA) (cm.mono (by omega)) P.any (by omega) (by omega) (by omega) cJ.md) (fun fx bw co=>?_);obtain⟨cc,cg,cb,b5,bl,rfl,hu,au,bF,cD,ba⟩:=co;replace ab:=ab.L ba;have hA:=ba.size;have fi:=(fun b e h=>by have ca:=bF b e;omega:ay bl ((K.size+1)));have fk:=(fun b e h=>by have ca:=bF b e;omega:ay bl ((B.size+1)));have a2:=Q.L ba;refine O.cc a2 ?_;have a3:=aj.refl bw;refine O.aX 7 ?_;refine et rfl (cV nd) (fun fy b0 cA=>?_);obtain⟨rfl,L,aI,cs,cv⟩:=cA;have eA:b0.size=bw.size+1:=by rw[cv];simp
     have fl:=(ay.new (au.mono (by omega)):ay _ (bw.size+1));have db:T 0 aF.size (bw.size+1):=T.new ab.size;replace hu:=fun u=>(hu u).M aI;replace ab:=ab.L aI;have hB:=aI.size;have a4:=a3.L aI;refine O.cc a4 ?_;have a5:=aj.refl b0;refine O.aX 8 ?_;refine gL rfl (dM L (_) (c_ {y with ei:=cc,ml:=jj (bG x.ba) on y.ml,q:={y.q with cd:=cg},ct:=cb,el:=b5}) (lW _) ef (dg _) ((c9 (dg _).symm))) (fun bm cw=>?_);obtain⟨L,aH⟩:=cw;replace aH:=aH.bs;replace hu:=fun u=>(hu u).ab aH (az.J fl);replace ab:=ab.bo aH (ag.J (aq.q db));have hC:=aH.size;refine⟨.inl rfl,?_⟩;refine cx ?_;have b7:=a5;refine aP.sub (da (bw.size,{y with ei:=cc,ml:=jj (bG x.ba) on y.ml,q:={y.q with cd:=cg},ct:=cb,el:=b5},bl) _ ?_) ⟨rfl,rfl,rfl,rfl,rfl,(aD (by omega)),rfl,trivial⟩;exact⟨L,hu,(au.mono (by omega)),(fi),(fk),(qh (show kF (o5 (bG x.ba) on y) _ from⟨rfl,rfl,rfl,rfl,rfl,cD.symm⟩) (sn _ on bP)),db,ab⟩
    ·
     refine et rfl (cV nd) (fun fy b0 cA=>?_);obtain⟨rfl,L,aI,cs,cv⟩:=cA;have eA:b0.size=aF.size+1:=by rw[cv];simp
     have cR:T 0 aF.size (aF.size+1):=T.new ab.size;replace N:=fun t ar=>(N t ar).M aI;replace P:=P.M aI;replace A:=fun u=>(A u).M aI;replace ab:=ab.L aI;have gN:=aI.size;have a4:=Q.L aI;refine O.cc a4 ?_;have a5:=aj.refl b0;refine O.aX 6 ?_;refine cf r1 (s5 x y v2 on _ w0 _ (A ()).r.any (N y bA) (cm.mono (by omega)) P.any (by omega) (by omega) (by omega) cJ.md) (fun fx bw co=>?_);obtain⟨cc,cg,cb,b5,bl,rfl,hu,au,bF,cD,ba⟩:=co;replace L:=L.M ba;replace ab:=ab.L ba;have gO:=ba.size;have dr:=(fun b e h=>by have ca:=bF b e;omega:ay bl ((K.size+1)));have fm:=(fun b e h=>by have ca:=bF b e;omega:ay bl ((B.size+1)));have fo:=(fun b e h=>by have ca:=bF b e;omega:ay bl ((aF.size+1)));have a2:=a5.L ba;refine O.cc a2 ?_;have a3:=aj.refl bw;refine O.aX 8 ?_;refine gL rfl (dM L (_) (c_ {y with ei:=cc,ml:=jj (bG x.ba) on y.ml,q:={y.q with cd:=cg},ct:=cb,el:=b5}) (lW _) ef (dg _) ((c9 (dg _).symm))) (fun bm cw=>?_);obtain⟨L,aH⟩:=cw;replace aH:=aH.bs;replace hu:=fun u=>(hu u).ab aH (az.J fo);replace ab:=ab.bo aH (ag.J (aq.q cR));have gQ:=aH.size;refine⟨.inl rfl,?_⟩;refine cx ?_;have b7:=a3;refine aP.sub (da (aF.size,{y with ei:=cc,ml:=jj (bG x.ba) on y.ml,q:={y.q with cd:=cg},ct:=cb,el:=b5},bl) _ ?_) ⟨rfl,rfl,rfl,rfl,rfl,(aD (by omega)),rfl,trivial⟩;exact⟨L,hu,(au.mono (by omega)),(dr),(fm),(qh (show kF (o5 (bG x.ba) on y) _ from⟨rfl,rfl,rfl,rfl,rfl,cD.symm⟩) (sn _ on bP)),cR,ab⟩
   ·
    rintro⟨bN,aA,aK⟩ cN ew;obtain⟨L,hu,au,g5,g6,bn,ez,bt⟩:=ew;have fp:af (K.size+1) ((bN+1)):=af.app (af.z) k.lt ez;replace aL:=aL.M bt;replace k:=k.M bt;replace n:=n.M bt;replace al:=fun u=>(al u).M bt;replace A:=fun u=>(A u).M bt;replace ac:=ac.bc bt;have gR:=bt.size;have gJ:=L.le;refine G.t1 (fun eD=>?_);refine dx (fun F=>aj cN F) [] ?_;have Q:=aj.refl cN;refine O.t1 0 rfl (fun F E=>aT (k.N.M E) eC di (b4 _)) Q ?_;refine O.t1 1 rfl (fun F E=>aT (L.N.M E) fj ef (dg _)) Q ?_;refine O.aX 2 ?_;refine cf vg (zp aA aK w0 _ (hu ()) (au.mono (by omega)) (by have:=bn.2.1;omega) (by have:=bn.2.2.2;omega) (by have:=bn.2.2.1;omega) (fun z b8=>by have ca:=xP b8;have gq:=bn.1;unfold mW at gq;omega)) (fun hD e1 fB=>?_);obtain⟨dA,dD,dy,dm,gk,fC,rfl,cK,h_,eE,ey,gS,h8,gb,aO⟩:=fB;replace aL:=aL.M aO;replace k:=k.M aO;replace n:=n.M aO;replace al:=fun u=>(al u).M aO;replace A:=fun u=>(A u).M aO;replace L:=L.M aO;replace hu:=fun u=>(hu u).M aO;replace ac:=ac.bc aO;have gT:=aO.size;have gA:=cK.le;have cS:kF {aA with ei:=dA,q:={aA.q with cd:=dD},ct:=dy,el:=dm} aA:=⟨rfl,rfl,rfl,rfl,rfl,gb⟩;have dT:=Q.L aO;refine O.cc dT ?_;have dV:=aj.refl e1;refine O.aX 3 ?_;refine cf r6 (ny s {aA with ei:=dA,q:={aA.q with cd:=dD},ct:=dy,el:=dm} _ (fun b=>fC b∨b+1=gk) bk w0 _ aL (bZ.mono (by omega)) (al ()) (cj.mono (by omega)) (((eE ()).imp (fun b _ e=>Or.inl e)).HK (cK.rd.imp (fun b _ e=>Or.inr e))) (bh.eG (ey.mono (by omega)) cK.le) ok (lp (qh (kF.symm cS) bn))) (fun hF eB fD=>?_);obtain⟨rfl,aX⟩:=fD;replace k:=k.M aX;replace n:=n.M aX;replace al:=fun u=>(al u).M aX;replace A:=fun u=>(A u).M aX;replace L:=L.M aX;replace hu:=fun u=>(hu u).M aX;replace ac:=ac.bc aX;have gU:=aX.size;have dX:=dV.L aX;refine O.cc dX ?_;have c3:=aj.refl eB;refine O.t1 4 rfl (fun F E=>ej) c3 ?_;refine cx ?_;have b7:=c3;refine eD (G.L (fun eF=>?_));refine o.v1 (aT n.N eC di (b4 _)) ?_;refine o.v1 (aT L.N fj ef (dg _)) ?_;refine aW r2 (tp x aA _ aK w0 _ (A ()) (bV.mono (by omega)) (hu ()) (au.mono (by omega)) b_ (lp bn)) (fun hG bz fE=>?_);obtain⟨rfl,bc⟩:=fE;replace k:=k.M bc;replace n:=n.M bc;replace al:=fun u=>(al u).M bc;replace A:=fun u=>(A u).M bc;replace L:=L.M bc;replace hu:=fun u=>(hu u).M bc;replace ac:=ac.bc bc;have gV:=bc.size;refine o.ak ?_;refine eF (G.t1 (fun eG=>G.L (fun eH=>?_)));refine o.ax 2 ?_;refine o.v1 ((cU).fm (by rw[Cv cS,aJ];simp)) (o.nil (eH ?_));refine dw ?_;refine G.skip (eG ?_)
    refine G.cut (fun(bE:(cW)×(cW))=>match bE with|(s2,bo)=>[(0,v1),(1,v2),(5,.pointer (some ⟨I.size,0,none⟩)),(7,.pointer (some ⟨K.size,0,none⟩)),(8,.pointer (some ⟨B.size,0,none⟩)),(9,.int .i64 (i:Int))])
     (fun(s2,bo) (H:Heap)=>(Var 47 H K.size (bS s2))∧(Var 47 H B.size (bS bo))∧(∀u:Unit,eS (fun b=>B.size<b∧b<H.size) H s2)∧(bh (fun b=>B.size<b∧b<H.size) H.size)∧(ay (fun b=>B.size<b∧b<H.size) (K.size+1))∧(ay (fun b=>B.size<b∧b<H.size) (B.size+1))∧(∀u:Unit,eS (fun b=>B.size<b∧b<H.size) H bo)∧(bh (fun b=>B.size<b∧b<H.size) H.size)∧(ay (fun b=>B.size<b∧b<H.size) (K.size+1))∧(ay (fun b=>B.size<b∧b<H.size) (B.size+1))∧(s2.m=bo.m)∧(s2.m.Ok)∧W (aE [(K.size+1),(B.size+1)]) bz H) (fun _ cT _=>?_) ?_
    ·
     have aM:W (aE [(K.size+1),(B.size+1)]) bz bz:=W.refl _ _;have dK:=T.refl (K.size+1) bz.size;have dL:=T.refl (B.size+1) bz.size;refine G.L (fun eJ=>?_);refine o.V ?_;refine o.v1 b9 (o.nil (eJ ?_));refine aU (fun cn=>?_) (fun cn=>?_)
     ·
      refine G.L (fun eK=>?_);refine o.v1 (aT k.N eC di (b4 _)) ?_;refine o.v1 (aT L.N fj ef (dg _)) ?_;refine aW r7 (rP s aA _ aK w0 _ (al ()) (cj.mono (by omega)) (hu ()) (au.mono (by omega)) ok (by rw[aJ];exact cn) (lp bn)) (fun hH dc fF=>?_);obtain⟨de,rfl,a8,du,bp⟩:=fF;replace k:=k.M bp;replace n:=n.M bp;replace A:=fun u=>(A u).M bp;replace L:=L.M bp;replace hu:=fun u=>(hu u).M bp;replace aM:=aM.bc bp;have gW:=bp.size;replace a8:=a8.bw;have eM:ay (fun b=>bz.size≤b∧b<dc.size) (K.size+1):=ay.iy (fun b h=>h.1) (by first|exact ia|exact ie|omega);have eN:ay (fun b=>bz.size≤b∧b<dc.size) (B.size+1):=ay.iy (fun b h=>h.1) (by first|exact ib|exact ig|omega);refine o.s1 (S.var k (_) (bS de) rfl rfl rfl rfl (jT _) di (b4 _) (by rw[b4];exact Nat.le_refl _) ((c9 ((b4 _).trans (b4 _).symm)))) fun dE dZ=>?_;obtain⟨k,a7⟩:=dZ;replace a7:=a7.bs;replace n:=n.ab a7 (ah.J br.symm);replace A:=fun u=>(A u).ab a7 (az.J g1);replace L:=L.ab a7 (ah.J fp.symm);replace hu:=fun u=>(hu u).ab a7 (az.J g5);replace a8:=a8.ab a7 (az.J eM);replace aM:=aM.aJ a7 (ag.J (aq.r dK));have gX:=a7.size;refine o.nil (eK (G.region ?_));refine o.v1 (aT n.N eC di (b4 _)) ?_;refine o.v1 (aT L.N fj ef (dg _)) ?_;refine aW vq (yl x aA _ aK w0 _ (A ()) (bV.mono (by omega)) (hu ()) (au.mono (by omega)) b_ cn (lp bn)) (fun hI hJ fG=>?_);obtain⟨dF,hK,rfl,cC,gx,cX,gg,bU⟩:=fG;replace k:=k.M bU;replace n:=n.M bU;replace a8:=a8.M bU;replace aM:=aM.bc bU;have gY:=bU.size;have eO:=(ay.jy cX (g2) (by omega));refine o.s1 (S.var n (_) (bS dF) rfl rfl rfl rfl (jT _) di (b4 _) (by rw[b4];exact Nat.le_refl _) ((c9 ((b4 _).trans (b4 _).symm)))) fun gB d_=>?_;obtain⟨n,bu⟩:=d_;replace bu:=bu.bs;replace k:=k.ab bu (ah.J br);replace a8:=a8.ab bu (az.J eN);replace cC:=fun u=>(cC u).ab bu (az.J eO);replace aM:=aM.aJ bu (ag.J (aq.r dL));have d0:=bu.size;refine o.nil ?_;refine aP.sub (cT (de,dF) _ ?_) ⟨rfl,rfl,rfl,rfl,rfl,(aD (by omega)),trivial⟩;exact⟨k,n,(fun _=>a8.imp (fun b aw e=>⟨by omega,aw⟩)),(fun b e=>e.2),(fun b e h=>by have q:=e.1;omega),(fun b e h=>by have q:=e.1;omega),(fun _=>(cC ()).imp (fun b aw e=>⟨by rcases cX b e with q|q;exact q.1;omega,aw⟩)),(fun b e=>e.2),(fun b e h=>by have q:=e.1;omega),(fun b e h=>by have q:=e.1;omega),(by rw[du,gg,aJ]),(by rw[du];exact ok.ap (by rw[aJ];exact cn)),aM⟩
     ·
      refine G.skip ?_;refine aP.sub (cT (s,x) _ ?_) ⟨rfl,rfl,rfl,rfl,rfl,(aD (by omega)),trivial⟩;exact⟨k,n,(fun _=>(al ()).imp (fun b aw e=>⟨e.1,aw⟩)),(fun b e=>e.2),(fun b e h=>by have q:=e.1;omega),(fun b e h=>by have q:=e.1;omega),(fun _=>(A ()).imp (fun b aw e=>⟨e.1,aw⟩)),(fun b e=>e.2),(fun b e h=>by have q:=e.1;omega),(fun b e h=>by have q:=e.1;omega),aJ,ok,aM⟩
    ·
     rintro⟨s2,bo⟩ gy dJ;obtain⟨k,n,Z,gE,ij,ik,aa,gG,il,im,cI,gp,cP⟩:=dJ;replace ac:=ac.aJ cP (ag.cons (aq.r dN) (ag.J (aq.r dO)));have d1:=cP.size;refine G.L (fun eP=>?_);refine o.v1 (aT k.N eC di (b4 _)) ?_;refine o.v1 (aT n.N eC di (b4 _)) ?_;refine aW r3 (se s2 bo w0 _ (Z ()).r.any (Z ()).g.any (fun y hy=>((Z ()).n y hy).any) (Z ()).q.any (Z ()).e.any (fun y hy=>((Z ()).d y hy).any) (aa ()).r.any (aa ()).g.any (fun y hy=>((aa ()).n y hy).any) (aa ()).q.any (aa ()).e.any (fun y hy=>((aa ()).d y hy).any)) (fun hL hM d2=>?_);obtain⟨rfl,bI⟩:=d2;replace k:=k.M bI;replace n:=n.M bI;replace Z:=fun u=>(Z u).M bI;replace aa:=fun u=>(aa u).M bI;replace ac:=ac.bc bI;have d3:=bI.size;refine o.v1 (Y.hp rfl rfl) ?_;refine o.V ?_;refine o.bj (d:=61) rfl (fun df=>?_) (fun df=>?_)
     ·
      exact absurd (q7 cI) df
     ·
      refine o.ao (aT k.N eC di (b4 _)) ?_;refine o.ao (aT n.N eC di (b4 _)) ?_;refine o.call rfl BJ rfl bd rfl rfl (FZ s2 bo w0 _ (Z ()).r.any (Z ()).g.any (fun y hy=>((Z ()).n y hy).any) (Z ()).q.any (Z ()).e.any (fun y hy=>((Z ()).d y hy).any) (aa ()).r.any (aa ()).g.any (fun y hy=>((aa ()).n y hy).any) (aa ()).q.any (aa ()).e.any (fun y hy=>((aa ()).d y hy).any)) (fun hO hP d4=>?_);obtain⟨rfl,bK⟩:=d4;replace k:=k.M bK;replace n:=n.M bK;replace Z:=fun u=>(Z u).M bK;replace aa:=fun u=>(aa u).M bK;replace ac:=ac.bc bK;have d5:=bK.size;refine o.ao (Y.hp rfl rfl) ?_;refine o.dF ?_;refine o.nil (eP ?_);refine aU (fun dh=>?_) (fun dh=>?_)
      ·
       exact absurd (q7 cI) dh
      ·
       refine G.skip (dU (c8 (G.region ?_)));refine o.V ?_;refine o.v1 bD ?_;refine o.ak ?_;refine aP.sub (dj (i+1,s2,bo) _ ?_ ?_) ⟨rfl,rfl,rfl,rfl,rfl,(aD (by omega)),trivial⟩
       ·exact⟨(by omega),k,n,(fun _=>(Z ()).imp (fun b aw e=>⟨e.1,aw⟩)),(fun b e=>e.2),(fun b e h=>by have q:=e.1;omega),(fun b e h=>by have q:=e.1;omega),(fun _=>(aa ()).imp (fun b aw e=>⟨e.1,aw⟩)),(fun b e=>e.2),(fun b e h=>by have q:=e.1;omega),(fun b e h=>by have q:=e.1;omega),cI,gp,ac⟩
       ·first|omega|(simp only;omega)|(simp;omega)
 ·
  refine G.exit (ft (fq (fT ?_)));refine fR (G.t2 (fun eQ eR=>G.L (fun eT=>?_)));refine o.v1 (aT ai.N fj ef (dg _)) ?_;refine aW u7 (wC t w0 _ R.m.any R.q.any R.e.any (fun z b8=>(R.d z b8).any) dv) (fun hR bY d6=>?_);obtain⟨rfl,aQ⟩:=d6;replace aL:=aL.M aQ;replace P:=P.M aQ;replace R:=R.M aQ;replace ai:=ai.M aQ;replace k:=k.M aQ;replace n:=n.M aQ;replace al:=fun u=>(al u).M aQ;replace A:=fun u=>(A u).M aQ;replace C:=C.L aQ;have d7:=aQ.size;refine o.v1 (Y.hp rfl rfl) (o.nil (eT ?_));refine aU (fun cy=>?_) (fun cy=>?_)
  ·
   refine G.L (fun eW=>?_);refine o.ak ?_;refine eW ?_;refine G.ret (eR (cH ?_));exact⟨rfl,C⟩
  ·
   have bP:iw t:=Classical.not_not.1 cy;obtain⟨bH,gl,gm,gn⟩:=id bP;refine G.skip (eQ ?_)
   refine G.cut (fun(bE:(Nat)×(b1)×(Nat→Prop))=>match bE with|(bv,cd,aS)=>[(7,.pointer (some ⟨K.size,0,none⟩)),(8,.pointer (some ⟨B.size,0,none⟩)),(13,.pointer (some ⟨bv,0,none⟩))])
    (fun(bv,cd,aS) (H:Heap)=>(Var 32 H bv (c_ cd))∧(∀u:Unit,e2 aS H cd)∧(bh aS H.size)∧(iw cd)∧(T 0 bY.size ((bv+1)))∧aj bY H) (fun _ eX _=>?_) ?_
   ·
    have am:aj bY bY:=W.refl _ _;refine G.region ?_;refine o.v1 (aT n.N eC di (b4 _)) ?_;refine o.v1 (aT ai.N fj ef (dg _)) ?_;refine o.V ?_;refine aW r1 (s5 x t v2 on _ w0 _ (A ()).r.any R (b2.mono (by omega)) P.any (by omega) (by omega) (by omega) dv.md) (fun hT cr d8=>?_);obtain⟨dC,hQ,dz,dp,d9,rfl,X,bj,gZ,gd,cZ⟩:=d8;replace am:=am.L cZ;have hV:=cZ.size;refine o.aO (cV nd) fun hU fV fW=>?_;obtain⟨rfl,ak,cz,hW,eY⟩:=fW;have gC:fV.size=cr.size+1:=by rw[eY];simp
    have ea:=(ay.new (bj.mono (by omega)):ay _ (cr.size+1));have bi:T 0 bY.size (cr.size+1):=T.new am.size;replace X:=fun u=>(X u).M cz;replace am:=am.L cz;have hX:=cz.size;refine o.s1 (dM ak (_) (c_ {t with ei:=dC,ml:=jj (bG x.ba) on t.ml,q:={t.q with cd:=hQ},ct:=dz,el:=dp}) (lW _) ef (dg _) ((c9 (dg _).symm))) fun gD eb=>?_;obtain⟨ak,bX⟩:=eb;replace bX:=bX.bs;replace X:=fun u=>(X u).ab bX (az.J ea);replace am:=am.bo bX (ag.J (aq.q bi));have hY:=bX.size;refine o.nil ?_;refine aP.sub (eX (cr.size,{t with ei:=dC,ml:=jj (bG x.ba) on t.ml,q:={t.q with cd:=hQ},ct:=dz,el:=dp},d9) _ ?_) ⟨rfl,rfl,rfl,trivial⟩;exact⟨ak,X,(bj.mono (by omega)),(qh (show kF (o5 (bG x.ba) on t) _ from⟨rfl,rfl,rfl,rfl,rfl,gd.symm⟩) (sn _ on bP)),bi,am⟩
   ·
    rintro⟨bv,cd,aS⟩ cO a9;obtain⟨ak,X,bj,b6,gH,bs⟩:=a9;replace aL:=aL.M bs;replace k:=k.M bs;replace n:=n.M bs;replace al:=fun u=>(al u).M bs;replace A:=fun u=>(A u).M bs;replace C:=C.L bs;have hZ:=bs.size;have gI:=ak.le;refine G.t1 (fun eZ=>G.t1 (fun e0=>?_));refine dx (fun F=>aj cO F) [] ?_;have Q:=aj.refl cO;refine O.t1 0 rfl (fun F E=>aT (k.N.M E) eC di (b4 _)) Q ?_;refine O.t1 1 rfl (fun F E=>aT (ak.N.M E) fj ef (dg _)) Q ?_;refine O.t1 3 rfl (fun F E=>aT (n.N.M E) eC di (b4 _)) Q ?_;refine O.t1 4 rfl (fun F E=>aT (ak.N.M E) fj ef (dg _)) Q ?_;refine O.aX 2 ?_;refine cf r6 (ny s cd _ aS bk w0 _ aL (bZ.mono (by omega)) (al ()) (cj.mono (by omega)) (X ()) (bj.mono (by omega)) ok (lp b6)) (fun hc e3 fX=>?_);obtain⟨rfl,aY⟩:=fX;replace k:=k.M aY;replace n:=n.M aY;replace al:=fun u=>(al u).M aY;replace A:=fun u=>(A u).M aY;replace ak:=ak.M aY;replace X:=fun u=>(X u).M aY;replace C:=C.L aY;have h2:=aY.size;have ec:=Q.L aY;refine O.cc ec ?_;have ed:=aj.refl e3;refine O.aX 5 ?_;refine cf r2 (tp x cd _ aS w0 _ (A ()) (bV.mono (by omega)) (X ()) (bj.mono (by omega)) b_ (lp b6)) (fun hd cu fY=>?_);obtain⟨rfl,aZ⟩:=fY;replace k:=k.M aZ;replace n:=n.M aZ;replace al:=fun u=>(al u).M aZ;replace A:=fun u=>(A u).M aZ;replace ak:=ak.M aZ;replace X:=fun u=>(X u).M aZ;replace C:=C.L aZ;have h3:=aZ.size;have ee:=ed.L aZ;refine O.cc ee ?_;have c4:=aj.refl cu;refine O.t1 6 rfl (fun F E=>(cU).fm (by rw[aJ];simp)) c4 ?_;refine cx ?_;have b7:=c4;refine e0 ?_;refine dw ?_;refine G.skip (eZ (G.t1 (fun c0=>?_)));refine dx (fun F=>aj cu F) [] ?_;have Q:=aj.refl cu;refine O.t1 0 rfl (fun F E=>aT (n.N.M E) eC di (b4 _)) Q ?_;refine O.t1 1 rfl (fun F E=>aT (ak.N.M E) fj ef (dg _)) Q ?_;refine O.aX 2 ?_;refine cf r2 (tp x cd _ aS w0 _ (A ()) (bV.mono (by omega)) (X ()) (bj.mono (by omega)) b_ (lp b6)) (fun hf fH em=>?_);obtain⟨rfl,a1⟩:=em;replace k:=k.M a1;replace n:=n.M a1;replace al:=fun u=>(al u).M a1;replace A:=fun u=>(A u).M a1;replace ak:=ak.M a1;replace X:=fun u=>(X u).M a1;replace C:=C.L a1;have gP:=a1.size;have eg:=Q.L a1;refine O.cc eg ?_;have M:=aj.refl fH;refine O.t1 3 rfl (fun F E=>cU) M ?_;refine O.V 4 rfl M ?_;refine O.bj (d:=85) rfl (fun bf=>?_) (fun bf=>?_)
    ·
     refine O.g1 5 rfl rfl rfl rfl M ?_;refine O.g1 6 rfl rfl rfl rfl M ?_;refine O.g1 7 rfl rfl rfl rfl M ?_;refine O.g1 8 rfl rfl rfl rfl M ?_;refine O.g1 9 rfl rfl rfl rfl M ?_;refine O.g1 10 rfl rfl rfl rfl M ?_;refine O.g1 11 rfl rfl rfl rfl M ?_;refine O.g1 12 rfl rfl rfl rfl M ?_;refine O.iI 13 rfl rfl rfl rfl M ?_;refine O.iI 14 rfl rfl rfl rfl M ?_;refine O.iI 15 rfl rfl rfl rfl M ?_;refine O.g1 16 rfl rfl rfl rfl M ?_;refine O.t1 17 rfl (fun F E=>eh) M ?_;refine O.t1 18 rfl (fun F E=>ej) M ?_;refine cx ?_;have b7:=M;refine c0 ?_;refine G.ret (cH ?_);exact⟨rfl,C⟩
    ·
     have dt:eI x.m cd=0:=Classical.not_not.1 bf;refine O.bI 5 rfl (fun F E=>aT (k.N.M E) eC di (b4 _)) bd M ?_;refine O.bI 6 rfl (fun F E=>aT (ak.N.M E) fj ef (dg _)) bd M ?_;refine O.bI 8 rfl (fun F E=>aT (n.N.M E) eC di (b4 _)) bd M ?_;refine O.bI 9 rfl (fun F E=>aT (ak.N.M E) fj ef (dg _)) bd M ?_;refine O.aX 7 ?_;refine dq.call rfl rfl r7 rfl bd rfl rfl (rP s cd _ aS w0 _ (al ()) (cj.mono (by omega)) (X ()) (bj.mono (by omega)) ok (by rw[aJ];exact dt) (lp b6)) (fun hg dW fZ=>?_);obtain⟨bR,rfl,aR,gh,bg⟩:=fZ;replace k:=k.M bg;replace n:=n.M bg;replace al:=fun u=>(al u).M bg;replace A:=fun u=>(A u).M bg;replace X:=fun u=>(X u).M bg;replace C:=C.L bg;have h4:=bg.size;replace aR:=aR.bw;have ek:=M.L bg;refine O.cc ek ?_;have en:=aj.refl dW;refine O.aX 10 ?_;refine dq.call rfl rfl vq rfl bd rfl rfl (yl x cd _ aS w0 _ (A ()) (bV.mono (by omega)) (X ()) (bj.mono (by omega)) b_ dt (lp b6)) (fun hh dd es=>?_);obtain⟨gr,hi,rfl,bO,gz,h5,gj,bq⟩:=es;replace k:=k.M bq;replace n:=n.M bq;replace al:=fun u=>(al u).M bq;replace A:=fun u=>(A u).M bq;replace aR:=aR.M bq;replace C:=C.L bq;have eo:=en.L bq;refine O.cc eo ?_;have ep:=aj.refl dd;refine O.aX 11 ?_;refine dq.call rfl rfl r3 rfl bd rfl rfl (se bR gr w0 _ aR.r.any aR.g.any (fun y hy=>(aR.n y hy).any) aR.q.any aR.e.any (fun y hy=>(aR.d y hy).any) (bO ()).r.any (bO ()).g.any (fun y hy=>((bO ()).n y hy).any) (bO ()).q.any (bO ()).e.any (fun y hy=>((bO ()).d y hy).any)) (fun hj fI f_=>?_);obtain⟨rfl,bL⟩:=f_;replace k:=k.M bL;replace n:=n.M bL;replace al:=fun u=>(al u).M bL;replace A:=fun u=>(A u).M bL;replace C:=C.L bL;have er:=ep.L bL;refine O.cc er ?_;have ck:=aj.refl fI;refine O.bI 12 rfl (fun F E=>fc) bd ck ?_;refine O.bj (d:=93) rfl (fun gi=>?_) (fun gi=>?_)
     ·
      refine O.bI 13 rfl (fun F E=>aT (k.N.M E) eC di (b4 _)) bd ck ?_;refine O.bI 14 rfl (fun F E=>aT (n.N.M E) eC di (b4 _)) bd ck ?_;refine O.aX 15 ?_;refine dq.call rfl rfl r3 rfl bd rfl rfl (se s x w0 _ (al ()).r.any (al ()).g.any (fun y hy=>((al ()).n y hy).any) (al ()).q.any (al ()).e.any (fun y hy=>((al ()).d y hy).any) (A ()).r.any (A ()).g.any (fun y hy=>((A ()).n y hy).any) (A ()).q.any (A ()).e.any (fun y hy=>((A ()).d y hy).any)) (fun hk fK ga=>?_);obtain⟨rfl,c1⟩:=ga;replace C:=C.L c1;have eu:=ck.L c1;refine O.cc eu ?_;have cl:=aj.refl fK;refine O.bI 16 rfl (fun F E=>eh) bd cl ?_;refine O.t1 17 rfl (fun F E=>dH) cl ?_;refine O.t1 18 rfl (fun F E=>ej) cl ?_;refine cx ?_;have b7:=cl;refine c0 ?_;refine G.ret (cH ?_);exact⟨by rw[decide_eq_true (q7 aJ)],C⟩
     ·
      exact absurd (q7 (by rw[gh,gj,aJ])) gi
end ui
end Go.Proofs.YtfjmpninmdjcaaaGreatDoor
