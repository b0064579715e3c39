/-
  Contracts of functions of the program, and plain laws: put together of several texts.
-/
import Derived.WalkKit
import Derived.StillTail
import Derived.OrdersHeld
import Derived.Deep.RegionHeld3
import Derived.MapKept
import Derived.Lib.ConvBytes
import Derived.Lib.AppendStr
import Derived.Laws.Pointers
import Derived.Laws.Cover3
import Derived.Test.YtfjmpninmdjcaaaGreatDoorRows
import Derived.Lib.BytesEntry
import Derived.ProofKit
import Derived.OpenShut
import Derived.ShutString
import Derived.ChangeOld
import Derived.Below
import Derived.JoinedCond
import Derived.Deep.Slices
import Derived.ChangeSame
set_option linter.unusedVariables false
set_option linter.unusedSimpArgs false
set_option linter.unusedSectionVars false
set_option linter.defProp false
set_option maxHeartbeats 8000000
set_option maxRecDepth 100000
namespace Go.Proofs.YtfjmpninmdjcaaaGreatDoor
namespace E
def aA:= @if_neg
def aI:= @congrArg
def aM:= @if_pos
def bT:= @List.length_append
def cL:= @decide_eq_false
def cN:= @List.mem_map
def cT:= @decide_eq_true
def cU:= @List.getElem_mem
def dg:= @List.length_map
def dk:= @List.map_cons
def dz:= @Nat.le_refl
def dA:= @List.append_assoc
def dU:= @List.mem_cons
def eD:= @List.take_length
def eJ:= @List.length_take
def eP:= @List.take_succ_eq_append_getElem
def eU:= @List.mem_singleton
def eY:= @List.take_of_length_le
def fg:= @Nat.le_trans
def fx:= @List.length_cons
def gg:= @List.map_append
def gw:= @List.mem_cons_self
def gG:= @List.mem_append
def gX:= @List.foldl_cons
def hi:= @List.append_nil
def hj:= @List.mem_cons_of_mem
def hq:= @List.nil_append
def hr:= @Subtype.ext
def hH:= @Nat.add_mul
def hI:= @Prod.mk.injEq
def hY:= @List.take_append_drop
def ia:= @List.length_drop
def ib:= @List.sum_cons
def iS:= @Nat.le_of_ble_eq_true
def iT:= @Nat.zero_le
def iU:= @List.length_singleton
def je:= @List.length_nil
def jf:= @List.pairwise_cons
def jq:= @List.flatMap_append
def jC:= @List.cons.injEq
def jL:= @Nat.zero_add
def jZ:= @List.mem_filter
def kh:= @Option.some.injEq
def ki:= @of_decide_eq_true
def kj:= @Ne.symm
def kk:= @List.length_set
def kl:= @Nat.min_eq_left
def km:= @decide_eq_true_eq
def kN:= @Nat.mul_le_mul_right
def kO:= @List.cons_append
def kP:= @List.take_left'
def kQ:= @List.mem_of_mem_take
def k9:= @Decidable.byContradiction
def k_:= @List.foldl_nil
def lD:= @List.flatMap_cons
def lE:= @Nat.mul_one
def lF:= @Bool.false_eq_true
def lG:= @List.map_nil
def l6:= @Option.some.inj
def l7:= @Nat.lt_of_lt_of_le
def l8:= @Array.length_toList
def l9:= @List.map_map
def l_:= @UInt64.toNat_ofNat'
def ma:= @List.drop_left'
def mb:= @Classical.byContradiction
def mH:= @List.eq_nil_of_length_eq_zero
def mI:= @Nat.add_zero
def mJ:= @List.set_append_right
def mK:= @List.map_congr_left
def mL:= @List.filter_cons_of_neg
def mM:= @List.filter_cons_of_pos
def mN:= @List.drop_drop
def nf:= @List.not_mem_nil
def ng:= @List.nodup_cons
def nh:= @List.drop_zero
def ni:= @List.take_zero
def nj:= @Decidable.not_not
def nU:= @List.size_toArray
def nV:= @List.length_replicate
def nW:= @Bool.and_eq_true
def nX:= @List.getElem_cons_zero
def nY:= @List.nodup_append
def oR:= @Nat.eq_of_beq_eq_true
def oS:= @List.drop_eq_getElem_cons
def oT:= @Nat.mod_eq_of_lt
def oU:= @List.foldl_append
def oV:= @List.getElem_map
def oW:= @List.any_eq_true
def pE:= @UInt8.toNat.inj
def pF:= @Nat.le_succ
def pG:= @List.take_succ_cons
def pH:= @Classical.not_not
def pI:= @Nat.max_le
def qC:= @List.map_toArray
def qD:= @List.take_left
def qE:= @Nat.eq_zero_or_pos
def qF:= @Nat.mul_comm
def qG:= @List.pairwise_map
def qH:= @UInt8.toNat_ofNat'
def qI:= @Nat.shiftLeft_eq
def qA:= @Option.map_some
def qB:= @List.nodup_nil
def rU:= @Nat.le_succ_of_le
def rV:= @Nat.add_assoc
def rW:= @Nat.lt_or_ge
def rX:= @List.all_eq_true
def rY:= @Nat.not_lt_zero
def rZ:= @List.flatMap_def
def r0:= @Int.toNat_natCast
def r1:= @List.take_append_of_le_length
def r2:= @List.take_take
def r3:= @List.sum_append
def r4:= @UInt8.lt_iff_toNat_lt
def r5:= @List.Pairwise.filter
def r6:= @List.filter_eq_nil_iff
def r7:= @List.ext_getElem
def r8:= @List.filter_filter
def r9:= @List.length_filter_le
def td:= @Nat.sub_zero
def te:= @Nat.zero_mul
def tf:= @List.mem_flatMap
def tg:= @List.nodup_iff_pairwise_ne
def th:= @List.drop_of_length_le
def ti:= @UInt64.toNat_inj
def tj:= @List.set_eq_of_length_le
def tk:= @List.map_take
def tl:= @Option.isSome_iff_exists
def tm:= @List.filter_eq_self
def tn:= @Bool.not_true
def tp:= @Bool.not_eq_true'
def tq:= @List.reverse_reverse
def tr:= @Int.emod_nonneg
def vu:= @Array.getD_eq_getD_getElem?
def vv:= @Bool.or_eq_true
def vw:= @Nat.add_comm
def vx:= @List.set_cons_zero
def vy:= @List.flatMap_nil
def vz:= @List.drop_append_of_le_length
def vA:= @List.take_append
def vB:= @Bool.false_and
def vC:= @UInt8.toNat_inj
def vD:= @List.map_set
def vE:= @Nat.sub_self
def vF:= @List.sum_nil
def vG:= @List.length_pos_iff
def vH:= @List.map_drop
def vI:= @Bool.true_and
def vJ:= @List.pairwise_singleton
def vK:= @Bool.and_eq_false_iff
def vL:= @List.dropWhile_suffix
def vM:= @List.length_reverse
def vN:= @List.getD_cons_zero
def vO:= @Bool.eq_iff_iff
def vP:= @List.filter_congr
def vQ:= @Bool.or_true
def vR:= @Nat.lt_succ_iff_lt_or_eq
def vS:= @List.filter_append
def yD:= @ByteArray.ext
def yE:= @List.drop_take
def yF:= @List.set_append_left
def yG:= @List.set_cons_succ
def yH:= @Array.toList_setIfInBounds
def yI:= @Array.toList_append
def yJ:= @List.mem_of_getElem?
def yK:= @List.ext_getElem?
def yL:= @BitVec.toNat_ofInt
def yM:= @Nat.div_le_self
def yN:= @UInt64.toNat_sub
def yO:= @List.replicate_succ
def yP:= @List.mem_iff_getElem
def yQ:= @Option.not_isSome_iff_eq_none
def yR:= @Bool.false_or
def yS:= @Bool.or_eq_false_iff
def yT:= @Nat.lt_succ_of_lt
def yU:= @Array.size_push
def yV:= @Int.lt_tmod_of_pos
def yW:= @Int.emod_lt_of_pos
def yX:= @Int.toNat_of_nonneg
def yY:= @List.mem_append_left
def yZ:= @Nat.mul_le_mul_left
def y0:= @List.mem_map_of_mem
def y1:= @Nat.min_le_left
def y2:= @List.mem_of_mem_drop
def y3:= @Nat.zero_lt_succ
def y4:= @Nat.succ_lt_succ
def Dw:= @Int.tmod_eq_emod_of_nonneg
def Dx:= @List.zipIdx_eq_zip_range'
def Dy:= @Int.fdiv_eq_ediv_of_nonneg
def Dz:= @Std.Legacy.Range.forIn_eq_forIn_range'
def DA:= @Nat.shiftLeft_or_distrib
def DB:= @List.length_erase_of_mem
def DC:= @List.length_eq_zero_iff
def DD:= @List.pairwise_iff_getElem
def DE:= @List.mem_take_iff_getElem
theorem o{α:Sort _}{a:α}:a=a:=rfl
theorem J{p:Prop}(h:p:=by omega):p:=h
theorem bc{p:Prop}(h:p:=by decide):p:=h
theorem bl{p:Prop}(h:p:=by simp):p:=h
theorem bD{p:Prop}(h:p:=by kernel_rfl):p:=h
theorem b2{p:Prop}(h:p:=by simp;omega):p:=h
theorem cY{p:Prop}(h:p:=by assumption):p:=h
theorem fy{p:Prop}(h:p:=by intro w;kernel_rfl):p:=h
theorem gP{p:Prop}(h:p:=by first|rfl|omega):p:=h
theorem h0{p:Prop}(h:p:=by first|omega|(simp;omega)):p:=h
theorem h1{p:Prop}(h:p:=by simp_all):p:=h
theorem ic{p:Prop}(h:p:=by first|omega|(simp;omega)|(simp;done)):p:=h
end E
open E Go.RowKit
namespace E
abbrev Heap:=Array Obj
abbrev cm:=List (Nat×Value)
def c6:cm→Nat→Option Value
 |[],_=>none
 |(s,v)::l,t=>match Nat.beq s t with
  |true=>some v
  |false=>c6 l t
structure Fr (n:Nat) (l:cm) (a:Act):Prop where
 defers:a.defers=[]
 size:a.tmps.size=n
 get:∀t v,c6 l t=some v→a.tmps[t]?=some v
def aK(l:cm):Operand→Option Value
 | .tmp t=>c6 l t
 | .const v=>some v
 | .global g=>some (.pointer (some ⟨g,0,none⟩))
 | .func f=>some (.func (.func f) #[] #[])
def iA(l:cm):List Operand→Option (List Value)
 |[]=>some []
 |x::r=>match aK l x,iA l r with
  |some v,some d=>some (v::d)
  |_,_=>none
theorem Fr.eval{n:Nat}{l:cm}{a:Act}(h:Fr n l a){x:Operand}{v:Value}(e:aK l x=some v):a.eval x=v:=by
 cases x with
 |tmp t=>have:=h.get t v e;simp[Act.eval,vu,this]
 |const c=>simpa[aK,Act.eval]using e
 |global g=>simpa[aK,Act.eval]using e
 |func f=>simpa[aK,Act.eval]using e
theorem Fr.mC{n:Nat}{l:cm}{a:Act}(h:Fr n l a):∀{xs:List Operand} {j:List Value},iA l xs=some j→xs.map a.eval=j
 |[],j,e=>by simpa[iA]using e
 |x::r,j,e=>by
  simp only[iA]at e
  cases d:aK l x with
  |none=>simp[d]at e
  |some v=>
   cases q:iA l r with
   |none=>simp[d,q]at e
   |some A=>
    simp only[d,q,kh]at e;subst e;simp[h.eval d,h.mC q]
theorem Fr.put{n:Nat}{l:cm}{a:Act}(h:Fr n l a){d:Nat}(ah:Nat.blt d n=true)(v:Value):Fr n ((d,v)::l) (a.put (some d) v):=by
 have q:d<n:=by simpa[Nat.blt_eq]using ah
 refine⟨h.defers,by simp[Act.put,h.size],fun t u e=>?_⟩;simp only[Act.put,Array.getElem?_setIfInBounds];simp only[c6]at e;by_cases j:d=t
 ·subst j
  have:Nat.beq d d=true:=by simp
  simp only[this]at e;simp[h.size,q,←l6 e]
 ·have:Nat.beq d t=false:=by
   cases ao:Nat.beq d t with
   |true=>exact absurd (oR ao) j
   |false=>rfl
  simp only[this]at e;simp[j,h.get t u e]
def Sub:cm→cm→Prop
 |[],_=>True
 |(t,v)::r,l=>c6 l t=some v∧Sub r l
theorem Sub.c6{l:cm}:∀{l':cm},Sub l' l→∀t v,c6 l' t=some v→c6 l t=some v
 |[],_,t,v,e=>by simp[E.c6]at e
 |(s,u)::r,⟨d,ab⟩,t,v,e=>by
  simp only[E.c6]at e
  cases ao:Nat.beq s t with
  |true=>
   simp only[ao,kh]at e;have:=oR ao
   subst this;subst e;exact d
  |false=>simp only[ao]at e;exact Sub.c6 ab t v e
theorem Fr.sub{n:Nat}{l l':cm}{a:Act}(h:Fr n l a)(ag:Sub l' l):Fr n l' a:=
 ⟨h.defers,h.size,fun t v e=>h.get t v (ag.c6 t v e)⟩
structure At (w0:World) (H:Heap) (w:World):Prop where
 heap:w.heap=H
 os:w.os=w0.os
 tape:w.tape=w0.tape
 output:w.output=w0.output
 hg:w0.drawn≤w.drawn
theorem At.drew{w0 w:World}{H:Heap}(h:At w0 H w):At w0 H {w with drawn:=w.drawn+1}:=⟨h.heap,h.os,h.tape,h.output,rU h.hg⟩
theorem At.set{w0 w:World}{H V:Heap}(h:At w0 H w):At w0 V {w with heap:=V}:=⟨rfl,h.os,h.tape,h.output,h.hg⟩
def Y(P:Program)(w0:World)(n:Nat)(l:cm)(H:Heap)(T:Oper)(v:Value):Prop:=
 ∀a w,Fr n l a→At w0 H w→(execOp a.eval T).run P w= .ok (.value v) w
def lX(m:Bool)(P:Program)(ops:Array Oper)(Q:Exit→Act→World→Prop)(rest:List Oper)(a:Act)(w:World):Prop:=match m with
 |true=>wpStill P ops w (fun d=>Q .normal d w) rest a
 |false=>wpList P ops Q rest a w
def G(m:Bool)(P:Program)(w0:World)(ops:Array Oper)(Q:Exit→Act→World→Prop)(n:Nat)(l:cm)(rest:List Oper)(H:Heap):Prop:=
 ∀a w,Fr n l a→At w0 H w→lX m P ops Q rest a w
def aT(w0:World)(Q:Exit→Act→World→Prop)(n:Nat)(l:cm)(H:Heap):Prop:=∀a w,Fr n l a→At w0 H w→Q .normal a w
def hD(w0:World)(Q:Exit→Act→World→Prop)(e:Exit)(n:Nat)(l:cm)(H:Heap):Prop:=∀a w,Fr n l a→At w0 H w→Q e a w
def I(P:Program)(w0:World)(Q:Exit→Act→World→Prop)(n:Nat)(l:cm)(c:Code)(H:Heap):Prop:=
 ∀a w,Fr n l a→At w0 H w→c.wp P Q a w
section
variable {P : Program} {w0 : World} {Q : Exit → Act → World → Prop} {n : Nat} {l : cm} {H : Heap} {ops : Array Oper} {rest : List Oper} {T : Oper} {m : Bool}
theorem G.nil(h:aT w0 Q n l H):G m P w0 ops Q n l [] H:=by
 intro a w j d;cases m
 ·exact h a w j d
 ·exact h a w j d
theorem OK{a:Act}{w:World}{v:Value}(x:Fr n l a)(r:At w0 H w)(hw:Region.wanted T (yielded ops a.tmps)=true)(q:(execOp a.eval T).run P w= .ok (.value v) w)
 {d:Nat}(ah:T.dst=some d)(aB:Nat.blt d n=true)(h:G m P w0 ops Q n ((d,v)::l) rest H):lX m P ops Q (T::rest) a w:=by
 have j:=x.put aB v;rw[←ah]at j;have bz:=h _ w j r;cases m
 ·simp only[lX]at bz⊢
  unfold wpList;rw[aM hw];exact .inl (by unfold Oper.wp;rw[q];exact bz)
 ·simp only[lX]at bz⊢
  unfold wpStill;rw[aM hw];unfold Oper.still;rw[q];exact⟨o,bz⟩
def dr(ops:Array Oper)(l:cm)(T:Oper):Prop:=∀n a,Fr n l a→Region.wanted T (yielded ops a.tmps)=true
theorem Ay{a:Act}(r:Fr n l a){j d:Nat}{b:Bool}(x:(ops[j]?).bind (·.dst)=some d)(aq:c6 l d=some (.bool b)):yielded ops a.tmps j=some b:=by
 have q:=r.get d _ aq;have:(ops[j]?).bind (fun T=>T.dst)=some d:=x;unfold yielded;rw[this];simp[q]
theorem dr.u(d:T.guard=none):dr ops l T:=fun _ _ _=>by simp[Region.wanted,d]
theorem cS (d : T.guard=none := by exact rfl) : dr ops l T := dr.u d
theorem dr.g{j e:Nat}{b:Bool}(n:T.guard=some (j,b))(q:(ops[j]?).bind (·.dst)=some e)(aq:c6 l e=some (.bool b)):dr ops l T:=
 fun _ _ d=>by simp[Region.wanted,n,Ay d q aq]
theorem bR {j e : Nat} {b : Bool} (d : T.guard=some (j,b) := by exact rfl) (n : (ops[j]?).bind (·.dst)=some e := by exact rfl) (aq : c6 l e=some (.bool b) := by exact rfl) : dr ops l T := dr.g d n aq
theorem G.v{v:Value}{d:Nat}(hy:Y P w0 n l H T v)(hw:dr ops l T)(ah:T.dst=some d)(aB:Nat.blt d n=true)(h:G m P w0 ops Q n ((d,v)::l) rest H):G m P w0 ops Q n l (T::rest) H:=
 fun a w j q=>OK j q (hw n a j) (hy a w j q) ah aB h
theorem G.e{α:Type}{g:α→Value}{φ:α→Prop}{d:Nat}(hy:∃x,(∀V,Y P w0 n l V T (g x))∧φ x)(hw:dr ops l T)(ah:T.dst=some d)(aB:Nat.blt d n=true)(h:∀x,φ x→G m P w0 ops Q n ((d,g x)::l) rest H):G m P w0 ops Q n l (T::rest) H:=
 let⟨x,j,ab⟩:=hy
 G.v (j H) hw ah aB (h x ab)
theorem G.gs{d j e:Nat}{b c:Bool}(A:T.guard=some (j,b))(B:(ops[j]?).bind (·.dst)=some e)(aq:c6 l e=some (.bool c))(C:(c==b)=false)
 (ah:T.dst=some d)(aB:Nat.blt d n=true)(h:G m P w0 ops Q n ((d,undef)::l) rest H):G m P w0 ops Q n l (T::rest) H:=by
 intro a w q x
 have hw:Region.wanted T (yielded ops a.tmps)=false:=by
  have E:c≠b:=by intro e;subst e;simp at C
  simp[Region.wanted,A,Ay q B aq,E]
 have r:=q.put aB undef;rw[←ah]at r;have bz:=h _ w r x;cases m
 ·simp only[lX]at bz⊢
  unfold wpList;rw[aA (by simp[hw])];exact bz
 ·simp only[lX]at bz⊢
  unfold wpStill;rw[aA (by simp[hw])];exact bz
theorem Fr.same{a:Act}(j:Fr n l a){d:Nat}{v:Value}(aq:c6 l d=some v):Fr n ((d,v)::l) a:=by
 refine⟨j.defers,j.size,fun t u e=>?_⟩;simp only[c6]at e
 cases ao:Nat.beq d t with
 |true=>
  have:=oR ao;subst this;simp only[ao]at e
  exact j.get d u (by rw[aq];exact e)
 |false=>simp only[ao]at e;exact j.get t u e
theorem G.bL{d:Nat}{p:Prop}[Decidable p](aq:c6 l d=some (.bool (decide p)))(x:p→G m P w0 ops Q n ((d,.bool true)::l) rest H)(he:¬p→G m P w0 ops Q n ((d,.bool false)::l) rest H):G m P w0 ops Q n l rest H:=by
 intro a w r q;by_cases j:p
 ·rw[cT j]at aq;exact x j a w (r.same aq) q
 ·rw[cL j]at aq;exact he j a w (r.same aq) q
theorem G.split{d:Nat}{b:Bool}(aq:c6 l d=some (.bool b))(r:b=true→G m P w0 ops Q n ((d,.bool true)::l) rest H)(he:b=false→G m P w0 ops Q n ((d,.bool false)::l) rest H):G m P w0 ops Q n l rest H:=by
 intro a w q j;cases b
 ·exact he o a w (q.same aq) j
 ·exact r o a w (q.same aq) j
theorem aT.sub{l':cm}(h:aT w0 Q n l' H)(ag:Sub l' l):aT w0 Q n l H:=fun a w j d=>h a w (j.sub ag) d
theorem I.region{id:Nat}{d:List Oper}(h:G false P w0 d.toArray Q n l d H):I P w0 Q n l (.region id d.toArray false) H:=
 fun a w q j=>wp_region_lit (h a w q j)
theorem I.Ns{id:Nat}{d:List Oper}(hm:P.follows .mixedOrders=true)(j:Region.lexB .any d.toArray=true)(h:G true P w0 d.toArray Q n l d H):I P w0 Q n l (.region id d.toArray true) H:=
 fun a w r q=>wp_region_still_lit hm j (h a _ r q.drew)
theorem jk {id : Nat} {d : List Oper} (h : G true P w0 d.toArray Q n l d H) (hm : P.follows .mixedOrders=true := by exact rfl) (j : Region.lexB .any d.toArray=true := by kernel_rfl) : I P w0 Q n l (.region id d.toArray true) H := I.Ns hm j h
theorem I.Nt{id:Nat}{d:List Oper}(k:Nat)(hm:P.follows .mixedOrders=true)(r:Region.lexTailB .any d.toArray k=true)
 (h:∀K:Exit→Act→World→Prop,(∀l',G false P w0 d.toArray Q n l' (d.drop k) H→aT w0 K n l' H)→G true P w0 d.toArray K n l (d.take k) H):I P w0 Q n l (.region id d.toArray true) H:=
 fun a w B x=>wp_region_still_tail k hm r (h (fun _ j q=>wpList P d.toArray Q (d.drop k) j q) (fun l' E j q C A=>E j q C A) a _ B x.drew)
theorem ka {id : Nat} {d : List Oper} (k : Nat) (h : ∀K:Exit→Act→World→Prop,(∀l',G false P w0 d.toArray Q n l' (d.drop k) H→aT w0 K n l' H)→G true P w0 d.toArray K n l (d.take k) H) (hm : P.follows .mixedOrders=true := by exact rfl) (j : Region.lexTailB .any d.toArray k=true := by kernel_rfl) : I P w0 Q n l (.region id d.toArray true) H := I.Nt k hm j h
theorem I.seq{x y:Code}(h:∀K:Exit→Act→World→Prop,(∀l' V,I P w0 Q n l' y V→aT w0 K n l' V)→(∀e,e≠ .normal→∀l' V,hD w0 Q e n l' V→hD w0 K e n l' V)→I P w0 K n l x H):I P w0 Q n l (.seq x y) H:=by
 intro a w C B;refine wp_seq (h (Exit.then (y.wp P Q) Q) (fun l' V hy d A q j=>hy d A q j) ?_ a w C B);intro e he l' V r d A q j;have r:=r d A q j;cases e<;>first|exact absurd o he|exact r
theorem I.skip(h:aT w0 Q n l H):I P w0 Q n l .skip H:=fun a w j d=>wp_skip (h a w j d)
theorem I.label{k:Nat}(h:aT w0 Q n l H):I P w0 Q n l (.label k) H:=fun a w j d=>wp_label (h a w j d)
theorem I.exit{id:Nat}(h:hD w0 Q (.exit id) n l H):I P w0 Q n l (.exit id) H:=fun a w j d=>wp_exit (h a w j d)
theorem I.ret(h:hD w0 Q .ret n l H):I P w0 Q n l .ret H:=fun a w j d=>wp_ret (h a w j d)
theorem I.cond{c:Operand}{x y:Code}{b:Bool}(aq:aK l c=some (.bool b))(q:b=true→I P w0 Q n l x H)(he:b=false→I P w0 Q n l y H):I P w0 Q n l (.cond c x y) H:=
 fun a w d j=>wp_cond_split (d.eval aq) (fun h=>q h a w d j) (fun h=>he h a w d j)
theorem dm {c : Operand} {x y : Code} {b : Bool} (d : b=true→I P w0 Q n l x H) (he : b=false→I P w0 Q n l y H) (aq : aK l c=some (.bool b) := by exact rfl) : I P w0 Q n l (.cond c x y) H := I.cond aq d he
theorem I.Jr{c:Operand}{x y:Code}{p:Prop}[Decidable p](aq:aK l c=some (.bool (decide p)))(d:p→I P w0 Q n l x H)(he:¬p→I P w0 Q n l y H):I P w0 Q n l (.cond c x y) H:=
 I.cond aq (fun h=>d (ki h)) (fun h=>he (of_decide_eq_false h))
theorem a8 {c : Operand} {x y : Code} {p : Prop} [Decidable p] (d : p→I P w0 Q n l x H) (he : ¬p→I P w0 Q n l y H) (aq : aK l c=some (.bool (decide p)) := by exact rfl) : I P w0 Q n l (.cond c x y) H := I.Jr aq d he
theorem I.kc{c:Operand}{x y:Code}(aq:aK l c=some (.bool true))(d:I P w0 Q n l x H):I P w0 Q n l (.cond c x y) H:=
 I.cond aq (fun _=>d) (fun h=>by cases h)
theorem I.Jq{c:Operand}{x y:Code}(aq:aK l c=some (.bool false))(he:I P w0 Q n l y H):I P w0 Q n l (.cond c x y) H:=
 I.cond aq (fun h=>by cases h) (fun _=>he)
theorem dZ {c : Operand} {x y : Code} (he : I P w0 Q n l y H) (aq : aK l c=some (.bool false) := by exact rfl) : I P w0 Q n l (.cond c x y) H := I.Jq aq he
theorem I.block{id:Nat}{c:Code}(h:∀K:Exit→Act→World→Prop,(∀l' V,aT w0 Q n l' V→aT w0 K n l' V)→(∀l' V,aT w0 Q n l' V→hD w0 K (.exit id) n l' V)→(∀e,e≠ .normal→e≠ .exit id→∀l' V,hD w0 Q e n l' V→hD w0 K e n l' V)→I P w0 K n l c H):I P w0 Q n l (.block id c) H:=by
 intro a w B A;refine wp_block (h (Exit.inBlock id Q) (fun l' V hy d j r q=>hy d j r q) (fun l' V hy d j r q=>?_) ?_ a w B A)
 ·show(if id=id then Q .normal d j else Q (.exit id) d j);rw[aM rfl];exact hy d j r q
 ·intro e he C l' V x d j r q
  cases e with
  |normal=>exact absurd o he
  |exit k=>
   show(if k=id then Q .normal d j else Q (.exit k) d j)
   rw[aA (fun e=>C (by rw[e]))];exact x d j r q
  |goto k=>exact x d j r q
  |ret=>exact x d j r q
  |panic k=>exact x d j r q
  |outgrown=>exact x d j r q
theorem I.scope{c:Code}(h:∀K:Exit→Act→World→Prop,(∀l' V,aT w0 Q n l' V→aT w0 K n l' V)→(∀e,e≠ .normal→(∀k,e≠ .goto k)→∀l' V,hD w0 Q e n l' V→hD w0 K e n l' V)→I P w0 K n l c H):I P w0 Q n l (.scope c) H:=by
 intro a w B A;refine wp_scope_straight (h (Exit.noGoto Q) (fun l' V hy d x q j=>hy d x q j) ?_ a w B A);intro e he C l' V r d x q j;have r:=r d x q j;cases e<;>first|exact absurd o he|exact absurd o (C _)|exact r
theorem I.loop{σ:Type}{c:Code}(a6:σ→cm)(B:σ→Heap→Prop)(μ:σ→Nat)(L:σ)(X:Sub (a6 L) l)(M:B L H)
 (round:∀s H,B s H→∀K:Exit→Act→World→Prop,(∀j V,B j V→μ j<μ s→aT w0 K n (a6 j) V)→(∀e,e≠ .normal→∀l' V,hD w0 Q e n l' V→hD w0 K e n l' V)→I P w0 K n (a6 s) c H):I P w0 Q n l (.loop c) H:=by
 intro a w U R b k cs
 have key:∀cp s H a w,μ s=cp→B s H→Fr n (a6 s) a→At w0 H w→
  ∃e q r,Q e q r∧Arrives P (lone (b.at a (.code c:: .inLoop c::k)) cs w) b k cs e q r:=by
  intro cp
  induction cp using Nat.strongRecOn with
  |_ cp ih=>
   intro s H a w O N W S
   have Y:=round s H N (Exit.then (fun q r=>∃j V,Fr n (a6 j) q∧At w0 V r∧B j V∧μ j<μ s) Q)
    (fun j V F G q r E C=>⟨j,V,E,C,F,G⟩) (fun e he l' V d q r E C=>by have d:=d q r E C;cases e<;>first|exact absurd o he|exact d) a w W S
   obtain⟨e,a₁,w₁,d,A⟩:=Y b (.inLoop c::k) cs
   cases e with
   |normal=>
    obtain⟨j,V,E,C,F,G⟩:=d;obtain⟨e₂,a₂,w₂,hq₂,harr₂⟩:=ih (μ j) (O▸G) j V a₁ w₁ o F E C
    exact⟨e₂,a₂,w₂,hq₂,.of_steps (Steps.trans A (.one step_inLoop)) harr₂⟩
   |exit id=>exact⟨_,a₁,w₁,d,.pass (x:= .inLoop c) o (fun _ _=> .inl bl) A⟩
   |goto l=>exact⟨_,a₁,w₁,d,.pass (x:= .inLoop c) o (fun _ _=> .inl bl) A⟩
   |ret=>exact⟨_,a₁,w₁,d,.pass (x:= .inLoop c) o (fun _ _=> .inl bl) A⟩
   |panic eF=>exact⟨_,a₁,w₁,d,.pass (x:= .inLoop c) o (fun _ _=> .inl bl) A⟩
   |outgrown=>exact⟨_,a₁,w₁,d,.pass (x:= .inLoop c) o (fun _ _=> .inl bl) A⟩
 obtain⟨e,q,r,d,A⟩:=key _ L H a w o M (U.sub X) R;exact⟨e,q,r,d,.of_steps (.one step_loop) A⟩
theorem I.cut{σ:Type}{x y:Code}(a6:σ→cm)(B:σ→Heap→Prop)
 (h:∀K:Exit→Act→World→Prop,(∀s V,B s V→aT w0 K n (a6 s) V)→(∀e,e≠ .normal→∀l' V,hD w0 Q e n l' V→hD w0 K e n l' V)→I P w0 K n l x H)
 (hy:∀s V,B s V→I P w0 Q n (a6 s) y V):I P w0 Q n l (.seq x y) H:=by
 intro a w F E;refine wp_seq (h (Exit.then (y.wp P Q) Q) (fun s V C d A q j=>hy s V C d A q j) ?_ a w F E);intro e he l' V r d A q j;have r:=r d A q j;cases e<;>first|exact absurd o he|exact r
end
def aE(P:Program)(w0:World)(f:FuncId)(args:Array Value)(H:Heap)(d:Value→Heap→Prop):Prop:=
 ∀w,At w0 H w→Calls P f args w (fun e j=>∃r V,e= .returned r∧At w0 V j∧d r V)
def GJ(w0:World)(d:Value→Heap→Prop):Ending→World→Prop:=fun e j=>∃r V,e= .returned r∧At w0 V j∧d r V
def nF(args:List Value)(k:Nat):cm:=match args with
 |[]=>[]
 |v::r=>(k,v)::nF r (k+1)
theorem xQ:∀(args:List Value) (k t:Nat) (v:Value),c6 (nF args k) t=some v→k≤t∧args[t-k]?=some v
 |[],_,_,_,e=>by simp[nF,c6]at e
 |x::r,k,t,v,e=>by
  simp only[nF,c6]at e
  cases ao:Nat.beq k t with
  |true=>
   have:=oR ao;subst this;simp only[ao,kh]at e
   simp[e]
  |false=>
   simp only[ao]at e;obtain⟨d,ab⟩:=xQ r (k+1) t v e;refine⟨by omega,?_⟩;have:t-k=(t-(k+1))+1:=by omega
   rw[this];simpa using ab
theorem aE.enter{P:Program}{w0:World}{f:FuncId}{fn:Func}{c:Code}{args:List Value}{H:Heap}{d:Value→Heap→Prop}{n:Nat}
 (A:P.funcs[f]?=some fn)(ao:fn.body=some c)(aB:fn.ntmps=n)(B:Nat.ble args.length n=true)
 (h:∀Q:Exit→Act→World→Prop,(∀e,(e= .normal∨e= .ret)→∀l V v,(∀a w,Fr n l a→At w0 V w→(results fn a.tmps).run P w= .ok v w)→d v V→hD w0 Q e n l V)→I P w0 Q n (nF args 0) c H):
 aE P w0 f args.toArray H d:=by
 intro w x;have G:args.length≤n:=iS B;refine calls_of_wp A ao (h (bodyPost P fn (GJ w0 d)) ?_ _ w ⟨o,?_,?_⟩ x)
 ·intro e he l V v E r a F q j
  rcases he with rfl|rfl<;>exact⟨q.defers,v,E a F q j,v,V,o,j,r⟩
 ·simp[aB];omega
 ·intro t v e
  obtain⟨_,ab⟩:=xQ args 0 t v e;simp only[td]at ab;simp only;have C:=(List.getElem?_eq_some_iff.1 ab).1;rw[Array.getElem?_append_left (by simpa using C)]
  simpa using ab
theorem wF{P:Program}{w0:World}{H:Heap}{fn:Func}{n t:Nat}{l:cm}{v:Value}(h:fn.results= #[.tmp t])(e:c6 l t=some v):∀a w,Fr n l a→At w0 H w→(results fn a.tmps).run P w= .ok v w:=by
 intro a w d _;rw[results_tmp h];simp[vu,d.get t v e]
theorem Nz{P:Program}{w0:World}{H:Heap}{fn:Func}{n t u:Nat}{l:cm}{v x:Value}(h:fn.results= #[.tmp t,.tmp u])(e:c6 l t=some v)(j:c6 l u=some x):∀a w,Fr n l a→At w0 H w→(results fn a.tmps).run P w= .ok (.tuple #[v,x]) w:=by
 intro a w d _;rw[results_tmp2 h];simp[vu,d.get t v e,d.get u x j]
theorem NA{P:Program}{w0:World}{H:Heap}{fn:Func}{n t u s:Nat}{l:cm}{v x y:Value}(h:fn.results= #[.tmp t,.tmp u,.tmp s])(e:c6 l t=some v)(j:c6 l u=some x)(q:c6 l s=some y):∀a w,Fr n l a→At w0 H w→(results fn a.tmps).run P w= .ok (.tuple #[v,x,y]) w:=by
 intro a w d _;rw[results_tmp3 h];simp[vu,d.get t v e,d.get u x j,d.get s y q]
theorem jt{P:Program}{w0:World}{H:Heap}{fn:Func}{n:Nat}{l:cm}(h:fn.results= #[]):∀a w,Fr n l a→At w0 H w→(results fn a.tmps).run P w= .ok (.tuple #[]) w:=by
 intro a w _ _;exact results_none h _ _ _
section
variable {P : Program} {w0 : World} {Q : Exit → Act → World → Prop} {n : Nat} {l : cm} {H : Heap} {ops : Array Oper} {rest : List Oper} {T : Oper} {m : Bool}
def Z(P:Program)(w0:World)(n:Nat)(l:cm)(H:Heap)(T:Oper)(j:Value→Heap→Prop):Prop:=
 ∀a w,Fr n l a→At w0 H w→∃v V d,(execOp a.eval T).run P w= .ok (.value v) d∧At w0 V d∧j v V
theorem G.z{R:Value→Heap→Prop}{d:Nat}(C:Z P w0 n l H T R)(hw:dr ops l T)(ah:T.dst=some d)(aB:Nat.blt d n=true)
 (h:∀v V,R v V→G false P w0 ops Q n ((d,v)::l) rest V):G false P w0 ops Q n l (T::rest) H:=by
 intro a w j x;obtain⟨v,V,E,B,A,r⟩:=C a w j x;have q:=j.put aB v;rw[←ah]at q;have bz:=h v V r _ E q A;simp only[lX]at bz⊢;unfold wpList;rw[aM (hw n a j)];exact .inl (by unfold Oper.wp;rw[B];exact bz)
def S(P:Program)(w0:World)(n:Nat)(l:cm)(H:Heap)(T:Oper)(j:Heap→Prop):Prop:=
 ∀a w,Fr n l a→At w0 H w→∃V d,(execOp a.eval T).run P w= .ok .skip d∧At w0 V d∧j V
theorem G.s{j:Heap→Prop}(C:S P w0 n l H T j)(hw:dr ops l T)(ah:T.dst=none)
 (h:∀V,j V→G false P w0 ops Q n l rest V):G false P w0 ops Q n l (T::rest) H:=by
 intro a w d x;obtain⟨V,q,B,A,r⟩:=C a w d x;have bz:=h V r a q d A;simp only[lX]at bz⊢;unfold wpList;rw[aM (hw n a d)];refine .inl ?_;unfold Oper.wp;rw[B];show wpList P ops Q rest (a.put T.dst undef) q;rw[ah];exact bz
theorem Fl{ρ:Operand→Value}{f:FuncId}{args:Array Operand}{j:Array TypeId}{w:World}(q:T.op= .call {callee:= .value (.func f),args:=args,argTypes:=j})(hρ:ρ (.func f)= .func (.func f) #[] #[])
 (n:∀(d:Array Value) (w:World),(callFunc f d).run P w= .ok (.enter f d) w):(execOp ρ T).run P w= .ok (.enter f (args.map ρ)) w:=by
 simp[execOp,q,resolve,Deferred.ofValue,hρ,invoke,n]
theorem G.call{x:Value→Heap→Prop}{f d:Nat}{args:List Operand}{C:Array TypeId}{j:List Value}(L:T.op= .call {callee:= .value (.func f),args:=args.toArray,argTypes:=C})
 (K:∀(j:Array Value) (w:World),(callFunc f j).run P w= .ok (.enter f j) w) (M:iA l args=some j) (hw:dr ops l T) (ah:T.dst=some d) (aB:Nat.blt d n=true) (aq:aE P w0 f j.toArray H x)
 (h:∀v V,x v V→G false P w0 ops Q n ((d,v)::l) rest V):G false P w0 ops Q n l (T::rest) H:=by
 intro a w q F;simp only[lX];have B:=Fl (P:=P) (ρ:=a.eval) (w:=w) L o K;rw[qC,q.mC M]at B;unfold wpList;rw[aM (hw n a q)];refine .inl ?_;unfold Oper.wp;rw[B];show Calls P f j.toArray w _;refine(aq w F).mono ?_;rintro e N ⟨r,V,rfl,I,E⟩;have A:=q.put aB r;rw[←ah]at A;exact h r V E _ N A I
theorem aW {q : Value→Heap→Prop} {f d : Nat} {args : List Operand} {r : Array TypeId} {j : List Value} (x : ∀(j:Array Value) (w:World),(callFunc f j).run P w= .ok (.enter f j) w) (aq : aE P w0 f j.toArray H q) (h : ∀v V,q v V→G false P w0 ops Q n ((d,v)::l) rest V) (A : T.op= .call {callee:= .value (.func f),args:=args.toArray,argTypes:=r} := by exact rfl) (B : iA l args=some j := by exact rfl) (hw : dr ops l T := by exact dr.u o) (ah : T.dst=some d := by exact rfl) (aB : Nat.blt d n=true := by exact rfl) : G false P w0 ops Q n l (T::rest) H := G.call A x B hw ah aB aq h
end
theorem aE.mono{P:Program}{w0:World}{f:FuncId}{args:Array Value}{H:Heap}{d j:Value→Heap→Prop}(h:aE P w0 f args H d)(A:∀v V,d v V→j v V):aE P w0 f args H j:=
 fun w q=>(h w q).mono fun _ _ ⟨r,V,he,x,n⟩=>⟨r,V,he,x,A r V n⟩
end E
namespace E
def aN(l:List UInt8):Value:= .string ⟨l.toArray⟩
def cell(H:Heap)(a:Addr):Option Value:=match H[a.block]? with
 |some (.cells c _ _)=>if a.spot.isSome then none else c[a.off]?
 |_=>none
theorem At.cell{w0 w:World}{H:Heap}(h:At w0 H w)(a:Addr):w.cell? a=E.cell H a:=by
 unfold World.cell? E.cell;rw[h.heap];rfl
structure cz (H:Heap) (ad:Addr) (cs:List Value):Prop where
 spot:ad.spot=none
 cells:∀j c,cs[j]?=some c→cell H ⟨ad.block,ad.off+j,none⟩=some c
theorem add_eq{ad:Addr}(h:ad.spot=none)(j:Nat):ad.add j=⟨ad.block,ad.off+j,none⟩:=by
 obtain⟨b,T,s⟩:=ad;simp only at h;subst h;unfold Addr.add;split
 ·subst_vars;rfl
 ·rfl
theorem cz.drop{H:Heap}{ad:Addr}{cs:List Value}(h:cz H ad cs)(k:Nat):cz H (ad.add k) (cs.drop k):=by
 rw[add_eq h.spot];refine⟨o,fun j c e=>?_⟩;rw[List.getElem?_drop]at e;have:=h.cells (k+j) c e
 simpa[rV]using this
theorem cz.take{H:Heap}{ad:Addr}{cs:List Value}(h:cz H ad cs)(k:Nat):cz H ad (cs.take k):=by
 refine⟨h.spot,fun j c e=>h.cells j c ?_⟩;rw[List.getElem?_take]at e;split at e
 ·exact e
 ·cases e
structure Rd {α:Type} (F:Nat→Prop) (H:Heap) (f:α→List Value) (sz:Nat) (v:Value) (l:List α):Prop where
 ex:∃a cap,v= .slice a l.length cap∧l.length≤cap∧cap≤maxLen∧(l≠[]→∃ad:Addr,a=some ad∧ad.spot=none∧F ad.block∧ad.block<H.size∧∀i x,l[i]?=some x→cz H ⟨ad.block,ad.off+i*sz,none⟩ (f x))
structure aa (S:Nat→Prop) (H V:Heap):Prop where
 size:H.size≤V.size
 same:∀b,b<H.size→¬S b→V[b]?=H[b]?
theorem aa.refl(S:Nat→Prop)(H:Heap):aa S H H:=⟨dz _,fun _ _ _=>rfl⟩
theorem aa.trans{S j gb:Nat→Prop}{H H1 d:Heap}(h:aa S H H1)(k:aa j H1 d)(ag:∀b,b<H.size→S b→gb b)(n:∀b,b<H.size→j b→gb b):aa gb H d:=
 ⟨fg h.size k.size,fun b ao hu=>(k.same b (l7 ao h.size) (fun e=>hu (n b ao e))).trans (h.same b ao (fun e=>hu (ag b ao e)))⟩
theorem aa.weaken{S gb:Nat→Prop}{H H1:Heap}(h:aa S H H1)(ag:∀b,b<H.size→S b→gb b):aa gb H H1:=⟨h.size,fun b ao hu=>h.same b ao (fun e=>hu (ag b ao e))⟩
theorem aa.push(S:Nat→Prop)(H:Heap)(T:Obj):aa S H (H.push T):=⟨by simp,fun b ao _=>by rw[Array.getElem?_push,aA J]⟩
abbrev al(H V:Heap):Prop:=aa (fun _=>False) H V
theorem al.refl(H:Heap):al H H:=aa.refl _ H
theorem al.O{H H1 d:Heap}(h:al H H1)(k:al H1 d):al H d:=aa.trans h k (fun _ _ e=>e) (fun _ _ e=>e)
theorem al.pu(H:Heap)(T:Obj):al H (H.push T):=aa.push _ H T
theorem I9{H V:Heap}{a:Addr}(h:V[a.block]?=H[a.block]?):cell V a=cell H a:=by unfold cell;rw[h]
theorem I8{H:Heap}{a:Addr}{v:Value}(h:cell H a=some v):a.block<H.size:=by
 unfold cell at h
 cases ao:H[a.block]? with
 |none=>simp[ao]at h
 |some T=>exact(Array.getElem?_eq_some_iff.1 ao).1
theorem cz.up{S:Nat→Prop}{H V:Heap}{ad:Addr}{cs:List Value}(h:cz H ad cs)(s:aa S H V)(d:¬S ad.block):cz V ad cs:=
 ⟨h.spot,fun j c e=>by
  have aq:=h.cells j c e;have n:ad.block<H.size:=I8 (a:=⟨ad.block,ad.off+j,none⟩) aq;exact(I9 (a:=⟨ad.block,ad.off+j,none⟩) (s.same ad.block n d)).trans aq⟩
theorem cz.aR{H V:Heap}{ad:Addr}{cs:List Value}(h:cz H ad cs)(s:al H V):cz V ad cs:=h.up s (fun e=>e)
section
variable {α : Type} {F : Nat → Prop} {H V : Heap} {f : α → List Value} {sz : Nat} {v : Value} {l : List α}
theorem Rd.up{S:Nat→Prop}(h:Rd F H f sz v l)(s:aa S H V)(B:∀b,b<H.size→F b→¬S b):Rd F V f sz v l:=by
 obtain⟨a,cap,E,r,ab,A⟩:=h.ex;refine⟨a,cap,E,r,ab,fun C=>?_⟩;obtain⟨ad,aP,n,d,j,q⟩:=A C;exact⟨ad,aP,n,d,l7 j s.size,fun i x G=>(q i x G).up s (B _ j d)⟩
theorem Rd.aR(h:Rd F H f sz v l)(s:al H V):Rd F V f sz v l:=h.up s (fun _ _ _ e=>e)
theorem Rd.imp{d:Nat→Prop}(h:Rd F H f sz v l)(B:∀b,b<H.size→F b→d b):Rd d H f sz v l:=by
 obtain⟨a,cap,E,x,ab,A⟩:=h.ex;refine⟨a,cap,E,x,ab,fun C=>?_⟩;obtain⟨ad,aP,n,q,j,r⟩:=A C;exact⟨ad,aP,n,B _ j q,j,r⟩
theorem Rd.len(h:Rd F H f sz v l):l.length≤9223372036854775807:=by
 obtain⟨a,cap,n,d,ab,j⟩:=h.ex;unfold maxLen at ab;omega
theorem Rd.nil(F:Nat→Prop)(H:Heap)(f:α→List Value)(sz:Nat):Rd F H f sz (.slice none 0 0) []:=⟨none,0,o,dz _,iT _,fun h=>absurd o h⟩
end
section
variable {P : Program} {w0 : World} {n : Nat} {l : cm} {H : Heap} {T : Oper}
theorem Y.move{x:Operand}{v:Value}(j:T.op= .move x)(q:aK l x=some v):Y P w0 n l H T v:=by
 intro a w d r;simp[execOp,j,d.eval q]
theorem gj {x : Operand} {v : Value} (d : T.op= .move x := by exact rfl) (j : aK l x=some v := by exact rfl) : Y P w0 n l H T v := Y.move d j
theorem Y.assign{x:Operand}{v:Value}(j:T.op= .assign x)(q:aK l x=some v):Y P w0 n l H T v:=by
 intro a w d r;simp[execOp,j,d.eval q]
theorem gp {x : Operand} {v : Value} (d : T.op= .assign x := by exact rfl) (j : aK l x=some v := by exact rfl) : Y P w0 n l H T v := Y.assign d j
theorem Y.zK{c x y:Operand}{v:Value}(j:T.op= .pick c x y)(aq:aK l c=some (.bool true))(q:aK l x=some v):Y P w0 n l H T v:=by
 intro a w d r;simp[execOp,j,d.eval q,d.eval aq,asBool]
theorem ga {c x y : Operand} {v : Value} (d : T.op= .pick c x y := by exact rfl) (aq : aK l c=some (.bool true) := by exact rfl) (j : aK l x=some v := by exact rfl) : Y P w0 n l H T v := Y.zK d aq j
theorem Y.zJ{c x y:Operand}{v:Value}(j:T.op= .pick c x y)(aq:aK l c=some (.bool false))(q:aK l y=some v):Y P w0 n l H T v:=by
 intro a w d r;simp[execOp,j,d.eval q,d.eval aq,asBool]
theorem fT {c x y : Operand} {v : Value} (d : T.op= .pick c x y := by exact rfl) (aq : aK l c=some (.bool false) := by exact rfl) (j : aK l y=some v := by exact rfl) : Y P w0 n l H T v := Y.zJ d aq j
theorem Y.extract{x:Operand}{k:Nat}{d:Array Value}{v:Value}(q:T.op= .extract x k)(A:aK l x=some (.tuple d))(r:d[k]?=some v):Y P w0 n l H T v:=by
 intro a w j B;simp[execOp,q,j.eval A,Instr.extract,r]
theorem c3 {x : Operand} {k : Nat} {d : Array Value} {v : Value} (j : T.op= .extract x k := by exact rfl) (r : aK l x=some (.tuple d) := by exact rfl) (q : d[k]?=some v := by exact rfl) : Y P w0 n l H T v := Y.extract j r q
theorem Y.nilCheck{x:Operand}{ad:Addr}(j:T.op= .nilCheck x)(q:aK l x=some (.pointer (some ad))):Y P w0 n l H T (.pointer (some ad)):=by
 intro a w d r;simp[execOp,j,d.eval q]
theorem kX {x : Operand} {ad : Addr} (d : T.op= .nilCheck x := by exact rfl) (j : aK l x=some (.pointer (some ad)) := by exact rfl) : Y P w0 n l H T (.pointer (some ad)) := Y.nilCheck d j
theorem Y.gW{p:Prop}[Decidable p](h:Y P w0 n l H T (.bool (decide p)))(d:p):Y P w0 n l H T (.bool true):=by rwa[cT d]at h
theorem Y.gE{p:Prop}[Decidable p](h:Y P w0 n l H T (.bool (decide p)))(d:¬p):Y P w0 n l H T (.bool false):=by rwa[cL d]at h
theorem Y.add{x y:Operand}{t u:TypeId}{k:IntKind}{a b:Int}(j:T.op= .binOp .add t x y u)(q:aK l x=some (.int k a))(hy:aK l y=some (.int k b)):Y P w0 n l H T (.int k (k.wrap (a+b))):=by
 intro a w d r;simp[execOp,j,d.eval q,d.eval hy,binOp,Op.intArith,eqGuard]
theorem Y.sub{x y:Operand}{t u:TypeId}{k:IntKind}{a b:Int}(j:T.op= .binOp .sub t x y u)(q:aK l x=some (.int k a))(hy:aK l y=some (.int k b)):Y P w0 n l H T (.int k (k.wrap (a-b))):=by
 intro a w d r;simp[execOp,j,d.eval q,d.eval hy,binOp,Op.intArith,eqGuard]
theorem Y.mul{x y:Operand}{t u:TypeId}{k:IntKind}{a b:Int}(j:T.op= .binOp .mul t x y u)(q:aK l x=some (.int k a))(hy:aK l y=some (.int k b)):Y P w0 n l H T (.int k (k.wrap (a*b))):=by
 intro a w d r;simp[execOp,j,d.eval q,d.eval hy,binOp,Op.intArith,eqGuard]
theorem Y.xI{x y:Operand}{t u:TypeId}{k:IntKind}{a b c:Int}(d:T.op= .binOp .add t x y u)(j:aK l x=some (.int k a))(hy:aK l y=some (.int k b))(aq:k.wrap (a+b)=c):Y P w0 n l H T (.int k c):=by
 subst aq;exact Y.add d j hy
theorem Y.OP{x y:Operand}{t u:TypeId}{k:IntKind}{a b c:Int}(d:T.op= .binOp .sub t x y u)(j:aK l x=some (.int k a))(hy:aK l y=some (.int k b))(aq:k.wrap (a-b)=c):Y P w0 n l H T (.int k c):=by
 subst aq;exact Y.sub d j hy
theorem Y.LP{x y:Operand}{t u:TypeId}{k:IntKind}{a b c:Int}(d:T.op= .binOp .mul t x y u)(j:aK l x=some (.int k a))(hy:aK l y=some (.int k b))(aq:k.wrap (a*b)=c):Y P w0 n l H T (.int k c):=by
 subst aq;exact Y.mul d j hy
theorem Y.xH{x y:Operand}{t u:TypeId}{a b:Int}(d:T.op= .binOp .add t x y u)(j:aK l x=some (.int .i64 a))(hy:aK l y=some (.int .i64 b))(ao: -9223372036854775808≤a+b∧a+b≤9223372036854775807):Y P w0 n l H T (.int .i64 (a+b)):=by
 have h:=Y.add (P:=P) (w0:=w0) (n:=n) (H:=H) d j hy;rwa[IntWalk.i64_in _ ao]at h
theorem bN {x y : Operand} {t u : TypeId} {a b : Int} (d : T.op= .binOp .add t x y u := by exact rfl) (j : aK l x=some (.int .i64 a) := by exact rfl) (hy : aK l y=some (.int .i64 b) := by exact rfl) (ao : -9223372036854775808≤a+b∧a+b≤9223372036854775807 := by omega) : Y P w0 n l H T (.int .i64 (a+b)) := Y.xH d j hy ao
theorem Y.wY{x y:Operand}{t u:TypeId}{a b:Int}(d:T.op= .binOp .sub t x y u)(j:aK l x=some (.int .i64 a))(hy:aK l y=some (.int .i64 b))(ao: -9223372036854775808≤a-b∧a-b≤9223372036854775807):Y P w0 n l H T (.int .i64 (a-b)):=by
 have h:=Y.sub (P:=P) (w0:=w0) (n:=n) (H:=H) d j hy;rwa[IntWalk.i64_in _ ao]at h
theorem gq {x y : Operand} {t u : TypeId} {a b : Int} (d : T.op= .binOp .sub t x y u := by exact rfl) (j : aK l x=some (.int .i64 a) := by exact rfl) (hy : aK l y=some (.int .i64 b) := by exact rfl) (ao : -9223372036854775808≤a-b∧a-b≤9223372036854775807 := by omega) : Y P w0 n l H T (.int .i64 (a-b)) := Y.wY d j hy ao
theorem Y.lJ{x y:Operand}{t u:TypeId}{a b:Int}(d:T.op= .binOp .mul t x y u)(j:aK l x=some (.int .i64 a))(hy:aK l y=some (.int .i64 b))(ao: -9223372036854775808≤a*b∧a*b≤9223372036854775807):Y P w0 n l H T (.int .i64 (a*b)):=by
 have h:=Y.mul (P:=P) (w0:=w0) (n:=n) (H:=H) d j hy;rwa[IntWalk.i64_in _ ao]at h
theorem Y.rem{x y:Operand}{t u:TypeId}{k:IntKind}{a b:Int}(j:T.op= .binOp .rem t x y u)(q:aK l x=some (.int k a))(hy:aK l y=some (.int k b))(ao:b≠0):Y P w0 n l H T (.int k (a.tmod b)):=by
 intro a w d r;simp[execOp,j,d.eval q,d.eval hy,binOp,Op.intDiv,eqGuard,ao]
theorem Y.Nv{x y:Operand}{t u:TypeId}{k:IntKind}{a b:Int}(d:T.op= .binOp .rem t x y u)(j:aK l x=some (.int k a))(hy:aK l y=some (.int k b))(ao:0≤a∧1≤b):Y P w0 n l H T (.int k (a%b)):=by
 have h:=Y.rem (P:=P) (w0:=w0) (n:=n) (H:=H) d j hy J;rwa[Dw ao.1]at h
theorem Y.bits{x y:Operand}{t u:TypeId}{k:IntKind}{a b:Int}(op:BinOp)(r:Int)(j:T.op= .binOp op t x y u)(B:aK l x=some (.int k a))(hy:aK l y=some (.int k b))(q:op= .and∨op= .or∨op= .xor∨op= .andNot)
 (A:∀w,(Op.intBits op k a b).run P w= .ok (.int k r) w):Y P w0 n l H T (.int k r):=by
 intro a w d C;rcases q with rfl|rfl|rfl|rfl<;>simp[execOp,j,d.eval B,d.eval hy,binOp,A,eqGuard]
theorem Y.shl{x y:Operand}{t u:TypeId}{k a_:IntKind}{a b:Int}(j:T.op= .binOp .shl t x y u)(q:aK l x=some (.int k a))(hy:aK l y=some (.int a_ b))(ao:0≤b):Y P w0 n l H T (.int k (k.wrap (a*2^min b.toNat k.bits))):=by
 intro a w d r;simp[execOp,j,d.eval q,d.eval hy,binOp,Op.shift,eqGuard,show ¬b<0 by omega]
theorem Y.shr{x y:Operand}{t u:TypeId}{k a_:IntKind}{a b:Int}(j:T.op= .binOp .shr t x y u)(q:aK l x=some (.int k a))(hy:aK l y=some (.int a_ b))(ao:0≤b):Y P w0 n l H T (.int k (a.fdiv (2^min b.toNat k.bits))):=by
 intro a w d r;simp[execOp,j,d.eval q,d.eval hy,binOp,Op.shift,eqGuard,show ¬b<0 by omega]
theorem Y.lss{x y:Operand}{t u:TypeId}{k:IntKind}{a b:Int}(j:T.op= .binOp .lss t x y u)(q:aK l x=some (.int k a))(hy:aK l y=some (.int k b)):Y P w0 n l H T (.bool (decide (a<b))):=by
 intro a w d r;simp[execOp,j,d.eval q,d.eval hy,binOp,Op.intCmp,eqGuard]
theorem bZ {x y : Operand} {t u : TypeId} {k : IntKind} {a b : Int} (d : T.op= .binOp .lss t x y u := by exact rfl) (j : aK l x=some (.int k a) := by exact rfl) (hy : aK l y=some (.int k b) := by exact rfl) : Y P w0 n l H T (.bool (decide (a<b))) := Y.lss d j hy
theorem Y.leq{x y:Operand}{t u:TypeId}{k:IntKind}{a b:Int}(j:T.op= .binOp .leq t x y u)(q:aK l x=some (.int k a))(hy:aK l y=some (.int k b)):Y P w0 n l H T (.bool (decide (a≤b))):=by
 intro a w d r;simp[execOp,j,d.eval q,d.eval hy,binOp,Op.intCmp,eqGuard]
theorem fK {x y : Operand} {t u : TypeId} {k : IntKind} {a b : Int} (d : T.op= .binOp .leq t x y u := by exact rfl) (j : aK l x=some (.int k a) := by exact rfl) (hy : aK l y=some (.int k b) := by exact rfl) : Y P w0 n l H T (.bool (decide (a≤b))) := Y.leq d j hy
theorem Y.gtr{x y:Operand}{t u:TypeId}{k:IntKind}{a b:Int}(j:T.op= .binOp .gtr t x y u)(q:aK l x=some (.int k a))(hy:aK l y=some (.int k b)):Y P w0 n l H T (.bool (decide (b<a))):=by
 intro a w d r;simp[execOp,j,d.eval q,d.eval hy,binOp,Op.intCmp,eqGuard]
theorem fA {x y : Operand} {t u : TypeId} {k : IntKind} {a b : Int} (d : T.op= .binOp .gtr t x y u := by exact rfl) (j : aK l x=some (.int k a) := by exact rfl) (hy : aK l y=some (.int k b) := by exact rfl) : Y P w0 n l H T (.bool (decide (b<a))) := Y.gtr d j hy
theorem Y.geq{x y:Operand}{t u:TypeId}{k:IntKind}{a b:Int}(j:T.op= .binOp .geq t x y u)(q:aK l x=some (.int k a))(hy:aK l y=some (.int k b)):Y P w0 n l H T (.bool (decide (b≤a))):=by
 intro a w d r;simp[execOp,j,d.eval q,d.eval hy,binOp,Op.intCmp,eqGuard]
theorem eT {x y : Operand} {t u : TypeId} {k : IntKind} {a b : Int} (d : T.op= .binOp .geq t x y u := by exact rfl) (j : aK l x=some (.int k a) := by exact rfl) (hy : aK l y=some (.int k b) := by exact rfl) : Y P w0 n l H T (.bool (decide (b≤a))) := Y.geq d j hy
theorem Hn(a b:Int):(a==b)=decide (a=b):=by by_cases h:a=b<;>simp[h]
theorem Hv(a b:Int):(a !=b)=decide (a≠b):=by by_cases h:a=b<;>simp[h]
theorem Y.eql{x y:Operand}{t u:TypeId}{k:IntKind}{a b:Int}(j:T.op= .binOp .eql t x y u)(q:aK l x=some (.int k a))(hy:aK l y=some (.int k b)):Y P w0 n l H T (.bool (decide (a=b))):=by
 intro ac w d r;rw[←Hn];simp[execOp,j,d.eval q,d.eval hy,binOp,Op.intCmp,eqGuard]
theorem cC {x y : Operand} {t u : TypeId} {k : IntKind} {a b : Int} (d : T.op= .binOp .eql t x y u := by exact rfl) (j : aK l x=some (.int k a) := by exact rfl) (hy : aK l y=some (.int k b) := by exact rfl) : Y P w0 n l H T (.bool (decide (a=b))) := Y.eql d j hy
theorem Y.neq{x y:Operand}{t u:TypeId}{k:IntKind}{a b:Int}(j:T.op= .binOp .neq t x y u)(q:aK l x=some (.int k a))(hy:aK l y=some (.int k b)):Y P w0 n l H T (.bool (decide (a≠b))):=by
 intro ac w d r;rw[←Hv];simp[execOp,j,d.eval q,d.eval hy,binOp,Op.intCmp,eqGuard]
theorem dX {x y : Operand} {t u : TypeId} {k : IntKind} {a b : Int} (d : T.op= .binOp .neq t x y u := by exact rfl) (j : aK l x=some (.int k a) := by exact rfl) (hy : aK l y=some (.int k b) := by exact rfl) : Y P w0 n l H T (.bool (decide (a≠b))) := Y.neq d j hy
theorem Y.not{x:Operand}{t:TypeId}{b:Bool}(j:T.op= .unOp .not t x)(q:aK l x=some (.bool b)):Y P w0 n l H T (.bool (!b)):=by
 intro ac w d r;simp[execOp,j,d.eval q,Op.unary]
theorem fB {x : Operand} {t : TypeId} {b : Bool} (d : T.op= .unOp .not t x := by exact rfl) (j : aK l x=some (.bool b) := by exact rfl) : Y P w0 n l H T (.bool (!b)) := Y.not d j
theorem Y.kp{x:Operand}{t:TypeId}{p:Prop}[Decidable p](j:T.op= .unOp .not t x)(q:aK l x=some (.bool (decide p))):Y P w0 n l H T (.bool (decide (¬p))):=by
 intro ac w d r;simp[execOp,j,d.eval q,Op.unary]
theorem Y.conv{x:Operand}{s d:TypeId}{k j:IntKind}{a:Int}{ds:TypeDesc}(r:T.op= .convert s d x)(ag:∀w,(underlying s).run P w= .ok ds w)(ah:∀w,(underlying d).run P w= .ok (.int j) w)(A:aK l x=some (.int k a)):Y P w0 n l H T (.int j (j.wrap a)):=by
 intro ac w q B;simp[execOp,r,q.eval A,convert,ag,ah,Conv.intToInt]
theorem Y.qs{x:Operand}{s d:TypeId}{k j:IntKind}{a:Int}{ds:TypeDesc}(q:T.op= .convert s d x)(ag:∀w,(underlying s).run P w= .ok ds w)(ah:∀w,(underlying d).run P w= .ok (.int j) w)(r:aK l x=some (.int k a))(hw:j.wrap a=a):Y P w0 n l H T (.int j a):=by
 have h:=Y.conv (P:=P) (w0:=w0) (n:=n) (H:=H) q ag ah r
 rwa[hw]at h
theorem Y.tA{x y:Operand}{di:Array TypeId}{k:IntKind}{a b:Int}(j:T.op= .call {callee:= .builtin .max,args:= #[x,y],argTypes:=di})(q:aK l x=some (.int k a))(hy:aK l y=some (.int k b)):Y P w0 n l H T (.int k (Max.max a b)):=by
 intro ac w d r
 have:(if b>a then b else a)=Max.max a b:=by
  by_cases h:b>a
  ·rw[aM h];omega
  ·rw[aA h];omega
 simp[execOp,j,d.eval q,d.eval hy,resolve,invoke,builtin,Builtin.max_,Builtin.max2,←this]
theorem Y.zi{x y:Operand}{di:Array TypeId}{k:IntKind}{a b:Int}(j:T.op= .call {callee:= .builtin .min,args:= #[x,y],argTypes:=di})(q:aK l x=some (.int k a))(hy:aK l y=some (.int k b)):Y P w0 n l H T (.int k (Min.min a b)):=by
 intro ac w d r
 have:(if b<a then b else a)=Min.min a b:=by
  by_cases h:b<a
  ·rw[aM h];omega
  ·rw[aA h];omega
 simp[execOp,j,d.eval q,d.eval hy,resolve,invoke,builtin,Builtin.min_,Builtin.min2,←this]
theorem aF{k:IntKind}{a b:Int}(h:a=b):some (Value.int k a)=some (.int k b):=by rw[h]
theorem eI{k:IntKind}{a b:Int}(h:a=b):Value.int k a= .int k b:=by rw[h]
theorem dY{p q:Prop}[Decidable p][Decidable q](h:p↔q):Value.bool (decide p)=Value.bool (decide q):=by
 congr 1;exact decide_eq_decide.2 h
theorem Y.neg{x:Operand}{t:TypeId}{k:IntKind}{a:Int}(j:T.op= .unOp .neg t x)(q:aK l x=some (.int k a)):Y P w0 n l H T (.int k (k.wrap (0-a))):=by
 intro ac w d r;simp[execOp,j,d.eval q,Op.unary,Op.intArith]
theorem Y.mA{x y:Operand}{t u:TypeId}{xs ys:Array Value}{p:Prop}[Decidable p](q:T.op= .binOp .eql t x y u)(hm:P.eqGuardType P.depth t=false)(j:∀w,(Op.equalIn 10000 t (.agg xs) (.agg ys)).run P w= .ok (decide p) w)
 (r:aK l x=some (.agg xs))(hy:aK l y=some (.agg ys)):Y P w0 n l H T (.bool (decide p)):=by
 intro ac w d A;simp[execOp,q,d.eval r,d.eval hy,run_eqGuard_agg _ _ _ _ _ _ _ hm,run_eql_struct,j]
theorem Y.oE{x y:Operand}{t u:TypeId}{xs ys:Array Value}{p:Prop}[Decidable p](q:T.op= .binOp .neq t x y u)(hm:P.eqGuardType P.depth t=false)(j:∀w,(Op.equalIn 10000 t (.agg xs) (.agg ys)).run P w= .ok (decide p) w)
 (r:aK l x=some (.agg xs))(hy:aK l y=some (.agg ys)):Y P w0 n l H T (.bool (decide (¬p))):=by
 intro ac w d A;simp[execOp,q,d.eval r,d.eval hy,run_eqGuard_agg _ _ _ _ _ _ _ hm,run_neq_struct,j]
theorem Y.oc{x y:Operand}{t u:TypeId}{a b:List UInt8}(j:T.op= .binOp .eql t x y u)(q:aK l x=some (aN a))(hy:aK l y=some (aN b)):Y P w0 n l H T (.bool (decide (a=b))):=by
 intro ac w d r;have h:(a==b)=decide (a=b):=by by_cases h:a=b<;>simp[h]
 simp[execOp,j,d.eval q,d.eval hy,binOp,Op.stringOp,eqGuard,aN,h]
theorem Y.lO{x y:Operand}{t u:TypeId}{a b:List UInt8}(j:T.op= .binOp .neq t x y u)(q:aK l x=some (aN a))(hy:aK l y=some (aN b)):Y P w0 n l H T (.bool (decide (a≠b))):=by
 intro ac w d r;have h:(a==b)=decide (a=b):=by by_cases h:a=b<;>simp[h]
 simp[execOp,j,d.eval q,d.eval hy,binOp,Op.stringOp,eqGuard,aN,h]
theorem Y.Og{x y:Operand}{t u:TypeId}{a b:List UInt8}(q:T.op= .binOp .lss t x y u)(r:aK l x=some (aN a))(hy:aK l y=some (aN b)):Y P w0 n l H T (.bool (Op.bytesLess a b)):=by
 intro ac w j A;have aP:=ByteArray.toList_eq (ByteArray.mk a.toArray);have d:=ByteArray.toList_eq (ByteArray.mk b.toArray);simp only at aP d;simp[execOp,q,j.eval r,j.eval hy,binOp,Op.stringOp,eqGuard,aN,aP,d]
theorem q4(a:List UInt8):(ByteArray.mk a.toArray).size=a.length:=by simp[ByteArray.size]
theorem Y.wI{x y:Operand}{t u:TypeId}{a b:List UInt8}(q:T.op= .binOp .add t x y u)(r:aK l x=some (aN a))(hy:aK l y=some (aN b))(ao:a.length+b.length≤9223372036854775807):Y P w0 n l H T (aN (a++b)):=by
 intro ac w d A;have j:IntKind.i64.max=9223372036854775807:=by decide
 have:¬(((ByteArray.mk a.toArray).size+(ByteArray.mk b.toArray).size:Nat):Int)>IntKind.i64.max:=by
  rw[q4,q4,j];omega
 have e:(ByteArray.mk a.toArray)++(ByteArray.mk b.toArray)=ByteArray.mk (a++b).toArray:=by
  apply yD;simp[ByteArray.data_append]
 simp only[execOp,q,d.eval r,d.eval hy,binOp,Op.stringOp,eqGuard,aN];rw[aA this,e];rfl
theorem Y.oe{x:Operand}{t:TypeId}{s:List UInt8}(j:T.op= .call {callee:= .builtin .len,args:= #[x],argTypes:= #[t]})(r:∀w,(underlying t).run P w= .ok .string w)(A:aK l x=some (aN s)):Y P w0 n l H T (.int .i64 s.length):=by
 have q:=q4 s;intro ac w d B;simp[execOp,j,d.eval A,resolve,invoke,builtin,Builtin.len_,r,goInt,aN,q]
theorem hb {x : Operand} {t : TypeId} {s : List UInt8} (j : ∀w,(underlying t).run P w= .ok .string w) (d : T.op= .call {callee:= .builtin .len,args:= #[x],argTypes:= #[t]} := by exact rfl) (q : aK l x=some (aN s) := by exact rfl) : Y P w0 n l H T (.int .i64 s.length) := Y.oe d j q
theorem Y.Oe{x i:Operand}{t:TypeId}{s:List UInt8}{k:IntKind}{aF:Int}(j:Nat)(B:T.op= .index t x i)(C:∀w,(underlying t).run P w= .ok .string w)(E:aK l x=some (aN s))(r:aK l i=some (.int k aF))(A:aF=j)(d:j<s.length):Y P w0 n l H T (.int .u8 (s[j]'d).toNat):=by
 intro ac w q F;subst A
 have ag:(ByteArray.mk s.toArray)[j]?=some (s[j]'d):=by
  have bz:j<(ByteArray.mk s.toArray).size:=by rw[q4];exact d
  rw[getElem?_pos _ j bz];simp[ByteArray.getElem_eq_getElem_data]
 simp[execOp,B,q.eval E,q.eval r,Instr.index,asIntOf,C,ag,aN]
theorem lS {x i : Operand} {t : TypeId} {s : List UInt8} {k : IntKind} {aF : Int} (j : Nat) (B : ∀w,(underlying t).run P w= .ok .string w) (A : T.op= .index t x i := by exact rfl) (C : aK l x=some (aN s) := by exact rfl) (q : aK l i=some (.int k aF) := by exact rfl) (r : aF=j := by first|rfl|omega) (d : j<s.length := by omega) : Y P w0 n l H T (.int .u8 (s[j]'d).toNat) := Y.Oe j A B C q r d
theorem Y.FO{x:Operand}{q d:Option Operand}{t:TypeId}{s:List UInt8}(i j:Nat)(C:T.op= .slice t x q d none)(F:∀w,(underlying t).run P w= .ok .string w)(G:aK l x=some (aN s))
 (B:q=none∧i=0∨∃p k aF,q=some p∧aK l p=some (.int k aF)∧aF=(i:Int))(A:d=none∧j=s.length∨∃p k aF,d=some p∧aK l p=some (.int k aF)∧aF=(j:Int))(M:i≤j)(N:j≤s.length):Y P w0 n l H T (aN ((s.take j).drop i)):=by
 intro ac w r L
 have aP:∀w,(Instr.sliceBounds false s.length s.length (q.map ac.eval) (d.map ac.eval) none).run P w= .ok (i,j,s.length) w:=by
  intro w
  rcases B with⟨rfl,rfl⟩|⟨p,k,aF,rfl,I,rfl⟩<;>rcases A with⟨rfl,rfl⟩|⟨eR,a_,O,rfl,K,rfl⟩<;>
   simp[Instr.sliceBounds,Instr.sliceBound,asIntOf,r.eval, *]
 have hu:∀w,(underlying t).run P w= .ok .string w:=F;have E:(ByteArray.mk s.toArray).size=s.length:=q4 s
 have hex:(ByteArray.mk s.toArray).extract i j=ByteArray.mk ((s.take j).drop i).toArray:=by
  apply yD;simp[ByteArray.data_extract,List.extract_toArray,List.extract_eq_take_drop,yE]
 simp[execOp,C,r.eval G,Instr.sliceAt,Instr.slice,hu,aN,E,aP,hex]
section
variable {α : Type} {F : Nat → Prop} {f : α → List Value} {sz : Nat} {v : Value} {xs : List α}
theorem Y.len{x:Operand}{t e:TypeId}(h:Rd F H f sz v xs)(j:T.op= .call {callee:= .builtin .len,args:= #[x],argTypes:= #[t]})(q:∀w,(underlying t).run P w= .ok (.slice e) w)(r:aK l x=some v):Y P w0 n l H T (.int .i64 xs.length):=by
 obtain⟨a,cap,rfl,_⟩:=h.ex;intro ac w d A;simp[execOp,j,d.eval r,resolve,invoke,builtin,Builtin.len_,q,goInt]
theorem bu {x : Operand} {t e : TypeId} (h : Rd F H f sz v xs) (j : ∀w,(underlying t).run P w= .ok (.slice e) w) (d : T.op= .call {callee:= .builtin .len,args:= #[x],argTypes:= #[t]} := by exact rfl) (q : aK l x=some v := by exact rfl) : Y P w0 n l H T (.int .i64 xs.length) := Y.len h d j q
theorem Y.indexAddr{x i:Operand}{t e:TypeId}{k:IntKind}{aF:Int}(h:Rd F H f sz v xs)(j:Nat)(G:T.op= .indexAddr t x i)(I:∀w,(underlying t).run P w= .ok (.slice e) w)(ag:∀w,(sizeOf e).run P w= .ok sz w)
 (K:aK l x=some v)(C:aK l i=some (.int k aF))(E:aF=j)(d:j<xs.length):∃ad,(∀V,Y P w0 n l V T (.pointer (some ad)))∧cz H ad (f xs[j]):=by
 obtain⟨a,cap,rfl,N,ab,B⟩:=h.ex;obtain⟨ad,rfl,r,L,M,A⟩:=B (by intro e;subst e;simp at d);subst E;refine⟨_,?_,A j xs[j] (by simp[d])⟩;intro V ac w q O;simp[execOp,G,q.eval K,q.eval C,Instr.indexAt,asIntOf,I,ag,d,add_eq r]
theorem Y.gO{x:Operand}{t:TypeId}{ad:Addr}{c:Value}{cs:List Value}(h:cz H ad (c::cs))(q:T.op= .load t x)(r:∀w,(isAgg t).run P w= .ok false w)(A:aK l x=some (.pointer (some ad))):Y P w0 n l H T c:=by
 intro ac w j d;have aq:=h.cells 0 c bl;have:({block:=ad.block,off:=ad.off+0,spot:=none}:Addr)=ad:=by have:=h.spot;obtain⟨b,off,s⟩:=ad;simp_all
 rw[this,←d.cell]at aq;simp[execOp,q,j.eval A,Instr.loadAt,Instr.sureAddr,loadVar,r,load,Sem.run,aq]
theorem bf {x : Operand} {t : TypeId} {ad : Addr} {c : Value} {cs : List Value} (h : cz H ad (c::cs)) (j : ∀w,(isAgg t).run P w= .ok false w) (d : T.op= .load t x := by exact rfl) (q : aK l x=some (.pointer (some ad)) := by exact rfl) : Y P w0 n l H T c := Y.gO h d j q
theorem run_loadCellsFrom{P:Program}{w:World}{ad:Addr}(ag:ad.spot=none):∀(k i:Nat) (cs:List Value) (acc:Array Value),cs.length=k→(∀j c,cs[j]?=some c→w.cell? ⟨ad.block,ad.off+(i+j),none⟩=some c)→
 (loadCellsFrom ad i k acc).run P w= .ok (acc++cs.toArray) w
 |0,i,cs,acc,d,_=>by
  have:cs=[]:=mH d
  subst this;simp[loadCellsFrom]
 |k+1,i,cs,acc,d,h=>by
  match cs,d with
  |c::cs,d=>
   have n:=h 0 c bl;have:=run_loadCellsFrom (P:=P) (w:=w) ag k (i+1) cs (acc.push c) (by simpa using d) (fun j q e=>by have:=h (j+1) q (by simpa using e);rwa[show i+(j+1)=i+1+j by omega]at this);simp only[mI]at n;simp[loadCellsFrom,load,Sem.run,add_eq ag,n,this]
theorem Y.qJ{x:Operand}{t:TypeId}{ad:Addr}{cs:List Value}{k:Nat}(h:cz H ad cs)(A:T.op= .load t x)(B:∀w,(isAgg t).run P w= .ok true w)(ag:∀w,(sizeOf t).run P w= .ok k w)(r:cs.length=k)(C:aK l x=some (.pointer (some ad))):Y P w0 n l H T (.agg cs.toArray):=by
 intro ac w q d;have:=run_loadCellsFrom (P:=P) (w:=w) h.spot k 0 cs #[] r (fun j c e=>by rw[d.cell];simpa using h.cells j c e);simp[execOp,A,q.eval C,Instr.loadAt,Instr.sureAddr,loadVar,B,ag,loadCells,this]
theorem ba {x : Operand} {t : TypeId} {ad : Addr} {cs : List Value} {k : Nat} (h : cz H ad cs) (q : ∀w,(isAgg t).run P w= .ok true w) (ag : ∀w,(sizeOf t).run P w= .ok k w) (d : cs.length=k) (j : T.op= .load t x := by exact rfl) (r : aK l x=some (.pointer (some ad)) := by exact rfl) : Y P w0 n l H T (.agg cs.toArray) := Y.qJ h j q ag d r
theorem Y.fieldAddr{x:Operand}{s:TypeId}{k off d:Nat}{ad:Addr}{cs:List Value}{fs:Array Field}{fd:Field}(h:cz H ad cs)(r:T.op= .fieldAddr s x k)(hu:∀w,(underlying s).run P w= .ok (.struct fs) w)(q:fs[k]?=some fd)(A:fd.offset=off)
 (B:∀w,(sizeOf fd.type).run P w= .ok d w)(E:d≠0)(C:aK l x=some (.pointer (some ad))):Y P w0 n l H T (.pointer (some (ad.add off))):=by
 intro ac w j G;have F:=h;simp[execOp,r,j.eval C,Instr.fieldAt,Instr.sureAddr,fieldPlace,hu,q,A,B,E]
theorem Y.slice{x:Operand}{A r:Option Operand}{t e:TypeId}(h:Rd F H f sz v xs)(i j:Nat)(R:T.op= .slice t x A r none)(S:∀w,(underlying t).run P w= .ok (.slice e) w)(ag:∀w,(sizeOf e).run P w= .ok sz w)(U:aK l x=some v)
 (O:A=none∧i=0∨∃p k aF,A=some p∧aK l p=some (.int k aF)∧aF=(i:Int))(M:r=none∧j=xs.length∨∃p k aF,r=some p∧aK l p=some (.int k aF)∧aF=(j:Int))(Z:i≤j)(N:j≤xs.length):
 ∃E,(∀V,Y P w0 n l V T E)∧Rd F H f sz E ((xs.take j).drop i):=by
 obtain⟨a,cap,rfl,L,ab,B⟩:=h.ex;refine⟨.slice (if cap=i then a else a.map (·.add (i*sz))) (j-i) (cap-i),?_,?_⟩
 ·intro V ac w C X
  have aP:∀w,(Instr.sliceBounds true xs.length cap (A.map ac.eval) (r.map ac.eval) none).run P w= .ok (i,j,cap) w:=by
   intro w;have W:j≤cap:=by omega
   rcases O with⟨rfl,rfl⟩|⟨p,k,aF,rfl,L,rfl⟩<;>rcases M with⟨rfl,rfl⟩|⟨eR,a_,ae,rfl,B,rfl⟩<;>
    simp[Instr.sliceBounds,Instr.sliceBound,asIntOf,C.eval, *]
  have hu:∀w,(underlying t).run P w= .ok (.slice e) w:=S;simp[execOp,R,C.eval U,Instr.sliceAt,Instr.slice,hu,ag,aP]
 ·have hlen:((xs.take j).drop i).length=j-i:=by simp;omega
  refine⟨_,_,by rw[hlen],by rw[hlen];omega,by omega,fun Q=>?_⟩
  have aa:i<j:=by
   apply k9;intro aq;exact Q (mH (by rw[hlen];omega))
  obtain⟨ad,rfl,d,G,I,K⟩:=B (by intro e;subst e;simp at N;omega);rw[aA J];refine⟨ad.add (i*sz),o,by rw[add_eq d],by rw[add_eq d];exact G,by rw[add_eq d];exact I,fun q y hy=>?_⟩;rw[add_eq d];rw[List.getElem?_drop,List.getElem?_take]at hy;split at hy
  ·have:=K (i+q) y hy
   simpa[hH,rV]using this
  ·cases hy
end
end
end E
namespace E
section
variable {P : Program} {ops : Array Oper} {md : Region.Mode} {Q : Exit → Act → World → Prop} {S : World → Prop} {X : List Nat}
def lR(P:Program)(md:Region.Mode)(ops:Array Oper)(Q:Exit→Act→World→Prop)(S:World→Prop)(X:List Nat):Nat→Array Bool→Act→World→Prop
 |0,listed,a,w=>Region.ready md ops listed=[]∧Q .normal a w
 |fuel+1,listed,a,w=>
  (Region.ready md ops listed=[]→Q .normal a w)∧
  ∀i∈Region.ready md ops listed,wpOp P ops Q i (fun j d=>(X.contains i=true∨S d)∧lR P md ops Q S X fuel (listed.setIfInBounds i true) j d) a w
theorem Gz:∀(fuel:Nat) (listed:Array Bool) (a:Act) (w:World),lR P md ops Q S X fuel listed a w→wpAny P md ops Q fuel listed a w
 |0,_,_,_,h=>h
 |fuel+1,_,_,_,h=>⟨h.1,fun i n=>wpOp_mono (fun d q j=>Gz fuel _ d q j.2) (h.2 i n)⟩
theorem PE{i:Nat}{x:Oper}{v:Value}(G:ops[i]?=some x)(R:∀(j:Nat) (T:Oper) cs b,ops[j]?=some T→T.op≠ .select cs b)
 (Y:∀c a w,Q (.panic c) (a.put x.dst v) w→Q (.panic c) a w)(Z:∀j,X.contains j=true→j=i∨Region.waitsFor md ops j i=true):
 ∀(fuel:Nat) (listed:Array Bool) (a:Act) (w:World),
  (∀j n,ops[j]?=some n→j≠i→listed.getD j true=false→(∀e∈n.after,Region.binds md e=true→e.on≠i)→x.apart ops n=true)→
  i∈Region.ready md ops listed→YieldsIf P ops S x v a→S w→
  lR P md ops Q S X fuel (listed.setIfInBounds i true) (a.put x.dst v) w→lR P md ops Q S X (fuel+1) listed a w:=by
 intro fuel
 induction fuel with
 |zero=>
  intro listed a w _ r hy A H;refine⟨fun h=>(by rw[h]at r;cases r),fun j B=>?_⟩;by_cases d:j=i
  ·subst d;exact hy.wpOp G A ⟨.inr A,H⟩
  ·have:=ready_mono B d
   rw[H.1]at this
   cases this
 |succ fuel ih=>
  intro listed a w L r hy A H;refine⟨fun h=>(by rw[h]at r;cases r),fun j B=>?_⟩;by_cases d:j=i
  ·subst d;exact hy.wpOp G A ⟨.inr A,H⟩
  ·have q:=H.2 j (ready_mono B d)
   obtain⟨N,n,C,aa⟩:=mem_ready.1 B
   have O:∀e∈n.after,Region.binds md e=true→e.on≠i:=fun e he ao heq=>by
    have q:=aa e he ao;have I:=(mem_ready.1 r).1;rw[heq]at q;rcases rW i listed.size with E|E
    ·simp[E]at I q;rw[I]at q;cases q
    ·simp[Array.getElem?_eq_none E]at q
   have af:¬X.contains j=true:=fun aq=>by
    rcases Z j aq with h|h
    ·exact d h
    ·obtain⟨av,an,e,he,ao,ar⟩:=Region.waitsFor_spec h
     have:av=n:=l6 (an.symm.trans C);subst this;exact O e he ao ar
   have ab:=wpOp_putIf C (L j n C d N O) (fun cs b=>R i x cs b G) (fun cs b=>R j n cs b C) Y hy q
   have ae:∀k ok,ops[k]?=some ok→k≠i→(listed.setIfInBounds j true).getD k true=false→
    (∀e∈ok.after,Region.binds md e=true→e.on≠i)→x.apart ops ok=true:=fun k ok ag ai U ak=>by
    refine L k ok ag ai ?_ ak;by_cases M:j=k
    ·subst M;exact N
    ·rw[getD_set_ne true M]at U;exact U
   refine wpOp_mono (fun W V F=>?_) ab;have K:S V:=F.2.1.resolve_left af;refine⟨.inr K,ih (listed.setIfInBounds j true) W V ae (ready_mono r (kj d)) F.1 K ?_⟩;rw[Array.setIfInBounds_comm _ _ d];exact F.2.2
theorem Ax{i:Nat}{d:Oper}{v:Value}{fuel:Nat}{listed:Array Bool}{a:Act}{w:World}(x:X.all (fun j=>Nat.beq j i||Region.waitsFor md ops j i)=true)(n:ops[i]?=some d)
 (ag:Region.noSelect ops=true)(A:Region.free md ops listed i=true)(C:(Region.ready md ops listed).contains i=true)
 (q:∀c a w,Q (.panic c) (a.put d.dst v) w→Q (.panic c) a w)(hy:YieldsIf P ops S d v a)(r:S w)
 (h:lR P md ops Q S X fuel (listed.setIfInBounds i true) (a.put d.dst v) w):lR P md ops Q S X (fuel+1) listed a w:=
 PE n (Region.noSelect_spec ag) q (fun j B=>by
  have:=rX.1 x j (by simpa using B);rw[vv]at this;exact this.imp oR id) fuel listed a w (Region.free_spec n A) (by simpa using C) hy r h
theorem Gx{rs:List Nat}{fuel:Nat}{listed:Array Bool}{a:Act}{w:World}(d:Region.ready md ops listed=rs)(r:rs≠[])
 (h:∀i∈rs,wpOp P ops Q i (fun n j=>(X.contains i=true∨S j)∧lR P md ops Q S X fuel (listed.setIfInBounds i true) n j) a w):lR P md ops Q S X (fuel+1) listed a w:=
 ⟨fun q=>absurd (d▸q) r,d▸h⟩
theorem PD{listed:Array Bool}{a:Act}{w:World}(d:Region.ready md ops listed=[])(h:Q .normal a w):∀fuel,lR P md ops Q S X fuel listed a w
 |0=>⟨d,h⟩
 |_+1=>⟨fun _=>h,by rw[d];simp⟩
end
def ev(n:Nat)(dn:List Nat):Array Bool:=dn.foldr (fun i a=>a.setIfInBounds i true) (Array.replicate n false)
def U(P:Program)(w0:World)(ops:Array Oper)(Q:Exit→Act→World→Prop)(ca:Heap→Prop)(X:List Nat)(n k:Nat)(dn:List Nat)(l:cm)(H:Heap):Prop:=
 ∀a w,Fr n l a→At w0 H w→lR P .any ops (NoPanic Q) (fun d=>∃V,At w0 V d∧ca V) X k (ev ops.size dn) a w
def e_(P:Program)(w0:World)(ops:Array Oper)(Q:Exit→Act→World→Prop)(ca:Heap→Prop)(X:List Nat)(n k i:Nat)(dn:List Nat)(l:cm)(H:Heap):Prop:=
 ∀a w,Fr n l a→At w0 H w→wpOp P ops (NoPanic Q) i (fun j d=>(X.contains i=true∨∃V,At w0 V d∧ca V)∧lR P .any ops (NoPanic Q) (fun d=>∃V,At w0 V d∧ca V) X k (ev ops.size (i::dn)) j d) a w
section
variable {P : Program} {w0 : World} {Q : Exit → Act → World → Prop} {n k i : Nat} {dn : List Nat} {l : cm} {H : Heap} {ops : Array Oper} {T : Oper} {ca : Heap → Prop} {X : List Nat}
theorem I.Nr{id:Nat}{d:List Oper}(ca:Heap→Prop)(X:List Nat)(hm:P.follows .mixedOrders=true)(h:U P w0 d.toArray Q ca X n d.length [] l H):I P w0 Q n l (.region id d.toArray true) H:=by
 intro a w q j;refine wp_region_noPanic (wp_region_any hm (Gz (S:=fun r=>∃V,At w0 V r∧ca V) (X:=X) _ _ _ _ ?_));have:=h a _ q j.drew
 simpa[ev]using this
theorem eA {id : Nat} {d : List Oper} (ca : Heap→Prop) (X : List Nat) (h : U P w0 d.toArray Q ca X n d.length [] l H) (hm : P.follows .mixedOrders=true := by exact rfl) : I P w0 Q n l (.region id d.toArray true) H := I.Nr ca X hm h
theorem U.take{v:Value}{d:Nat}(i:Nat)(C:X.all (fun j=>Nat.beq j i||Region.waitsFor .any ops j i)=true)(G:ops[i]?=some T)(ag:Region.noSelect ops=true)(F:Region.free .any ops (ev ops.size dn) i=true)(I:(Region.ready .any ops (ev ops.size dn)).contains i=true)
 (hy:∀V,ca V→Y P w0 n l V T v)(hw:dr ops l T)(ah:T.dst=some d)(aB:Nat.blt d n=true)(A:ca H)(h:U P w0 ops Q ca X n k (i::dn) ((d,v)::l) H):U P w0 ops Q ca X n (k+1) dn l H:=by
 intro a w q r;have x:=q.put aB v;rw[←ah]at x;exact Ax C G ag F I (fun _ _ _ h=>h) (.inl ⟨hw n a q,fun K ⟨V,E,B⟩=>hy V B a K q E⟩) ⟨H,r,A⟩ (h _ w x r)
theorem U.e{α:Type}{g:α→Value}{φ:α→Prop}{d:Nat}(i:Nat)(A:X.all (fun j=>Nat.beq j i||Region.waitsFor .any ops j i)=true)(C:ops[i]?=some T)(ag:Region.noSelect ops=true)(B:Region.free .any ops (ev ops.size dn) i=true)(E:(Region.ready .any ops (ev ops.size dn)).contains i=true)
 (hy:∃x,(∀V,Y P w0 n l V T (g x))∧φ x)(hw:dr ops l T)(ah:T.dst=some d)(aB:Nat.blt d n=true)(r:ca H)(h:∀x,φ x→U P w0 ops Q ca X n k (i::dn) ((d,g x)::l) H):U P w0 ops Q ca X n (k+1) dn l H:=
 let⟨x,q,ab⟩:=hy
 U.take i A C ag B E (fun V _=>q V) hw ah aB r (h x ab)
theorem U.gs{d j e:Nat}{b c:Bool}(i:Nat)(B:X.all (fun j=>Nat.beq j i||Region.waitsFor .any ops j i)=true)(F:ops[i]?=some T)(ag:Region.noSelect ops=true)(C:Region.free .any ops (ev ops.size dn) i=true)(L:(Region.ready .any ops (ev ops.size dn)).contains i=true)
 (E:T.guard=some (j,b))(G:(ops[j]?).bind (·.dst)=some e)(aq:c6 l e=some (.bool c))(I:(c==b)=false)(ah:T.dst=some d)(aB:Nat.blt d n=true)(A:ca H)(h:U P w0 ops Q ca X n k (i::dn) ((d,undef)::l) H):U P w0 ops Q ca X n (k+1) dn l H:=by
 intro a w r q
 have hw:Region.wanted T (yielded ops a.tmps)=false:=by
  have K:c≠b:=by intro e;subst e;simp at I
  simp[Region.wanted,E,Ay r G aq,K]
 have x:=r.put aB undef;rw[←ah]at x;exact Ax B F ag C L (fun _ _ _ h=>h) (.inr ⟨hw,o⟩) ⟨H,q,A⟩ (h _ w x q)
theorem U.yz{d j e:Nat}{b:Bool}(i:Nat)(E:X.all (fun j=>Nat.beq j i||Region.waitsFor .any ops j i)=true)(I:ops[i]?=some T)(ag:Region.noSelect ops=true)(F:Region.free .any ops (ev ops.size dn) i=true)(L:(Region.ready .any ops (ev ops.size dn)).contains i=true)
 (G:T.guard=some (j,b))(K:(ops[j]?).bind (·.dst)=some e)(aq:c6 l e=some undef)(ah:T.dst=some d)(aB:Nat.blt d n=true)(C:ca H)(h:U P w0 ops Q ca X n k (i::dn) ((d,undef)::l) H):U P w0 ops Q ca X n (k+1) dn l H:=by
 intro a w r q
 have hw:Region.wanted T (yielded ops a.tmps)=false:=by
  have A:=r.get e _ aq;have ab:(ops[j]?).bind (fun T=>T.dst)=some e:=K
  have B:yielded ops a.tmps j=none:=by
   unfold yielded;rw[ab];simp[A,undef]
  simp[Region.wanted,G,B]
 have x:=r.put aB undef;rw[←ah]at x;exact Ax E I ag F L (fun _ _ _ h=>h) (.inr ⟨hw,o⟩) ⟨H,q,C⟩ (h _ w x q)
theorem U.bL{d:Nat}{p:Prop}[Decidable p](aq:c6 l d=some (.bool (decide p)))(x:p→U P w0 ops Q ca X n k dn ((d,.bool true)::l) H)(he:¬p→U P w0 ops Q ca X n k dn ((d,.bool false)::l) H):U P w0 ops Q ca X n k dn l H:=by
 intro a w r q;by_cases j:p
 ·rw[cT j]at aq;exact x j a w (r.same aq) q
 ·rw[cL j]at aq;exact he j a w (r.same aq) q
theorem U.split{d:Nat}{b:Bool}(aq:c6 l d=some (.bool b))(r:b=true→U P w0 ops Q ca X n k dn ((d,.bool true)::l) H)(he:b=false→U P w0 ops Q ca X n k dn ((d,.bool false)::l) H):U P w0 ops Q ca X n k dn l H:=by
 intro a w q j;cases b
 ·exact he o a w (q.same aq) j
 ·exact r o a w (q.same aq) j
theorem Gy{md:Region.Mode}{Q:Exit→Act→World→Prop}{S d:World→Prop}(n:∀w,d w→S w):∀(fuel:Nat) (listed:Array Bool) (a:Act) (w:World),lR P md ops Q d X fuel listed a w→lR P md ops Q S X fuel listed a w
 |0,_,_,_,h=>h
 |fuel+1,_,_,_,h=>⟨h.1,fun i x=>wpOp_mono (fun r q j=>⟨j.1.imp id (n q),Gy n fuel _ r q j.2⟩) (h.2 i x)⟩
theorem U.narrow{SH2:Heap→Prop}(j:∀V,SH2 V→ca V)(h:U P w0 ops Q SH2 X n k dn l H):U P w0 ops Q ca X n k dn l H:=
 fun a w r q=>Gy (fun _ ⟨V,d,ab⟩=>⟨V,d,j V ab⟩) _ _ _ _ (h a w r q)
theorem U.done(q:Region.ready .any ops (ev ops.size dn)=[])(h:aT w0 Q n l H):U P w0 ops Q ca X n k dn l H:=
 fun a w j d=>PD (Q:=NoPanic Q) q (NoPanic.normal (h a w j d)) _
theorem dB (h : aT w0 Q n l H) (d : Region.ready .any ops (ev ops.size dn)=[] := by kernel_rfl) : U P w0 ops Q ca X n k dn l H := U.done d h
theorem U.one{i:Nat}(x:Region.ready .any ops (ev ops.size dn)=[i])(h:e_ P w0 ops Q ca X n k i dn l H):U P w0 ops Q ca X n (k+1) dn l H:=
 fun a w r q=>Gx x bl (fun j d=>by
  simp only[eU]at d;subst d;exact h a w r q)
theorem U.two{i j:Nat}(A:Region.ready .any ops (ev ops.size dn)=[i,j])(h:e_ P w0 ops Q ca X n k i dn l H)(ab:e_ P w0 ops Q ca X n k j dn l H):U P w0 ops Q ca X n (k+1) dn l H:=
 fun a w r d=>Gx A bl (fun q x=>by
  simp only[dU,nf,or_false]at x;rcases x with rfl|rfl
  ·exact h a w r d
  ·exact ab a w r d)
theorem e_.z{R:Value→Heap→Prop}{d:Nat}(C:ops[i]?=some T)(F:Z P w0 n l H T R)(hw:dr ops l T)(ah:T.dst=some d)(aB:Nat.blt d n=true)
 (h:∀v V,R v V→(X.contains i=true∨ca V)∧U P w0 ops Q ca X n k (i::dn) ((d,v)::l) V):e_ P w0 ops Q ca X n k i dn l H:=by
 intro a w q B;obtain⟨v,V,G,E,r,A⟩:=F a w q B;obtain⟨j,ab⟩:=h v V A;have x:=q.put aB v;rw[←ah]at x;unfold wpOp;simp only[C];rw[aM (hw n a q)];refine .inl ?_;unfold Oper.wp;rw[E];exact⟨j.imp id (fun j=>⟨V,r,j⟩),ab _ G x r⟩
theorem fC {j : Value→Heap→Prop} {d : Nat} (q : ops[i]?=some T) (r : Z P w0 n l H T j) (h : ∀v V,j v V→(X.contains i=true∨ca V)∧U P w0 ops Q ca X n k (i::dn) ((d,v)::l) V) (hw : dr ops l T := by exact dr.u o) (ah : T.dst=some d := by exact rfl) (aB : Nat.blt d n=true := by exact rfl) : e_ P w0 ops Q ca X n k i dn l H := e_.z q r hw ah aB h
theorem e_.v{v:Value}{d:Nat}(A:ops[i]?=some T)(hy:Y P w0 n l H T v)(hw:dr ops l T)(ah:T.dst=some d)(aB:Nat.blt d n=true)(r:X.contains i=true∨ca H)
 (h:U P w0 ops Q ca X n k (i::dn) ((d,v)::l) H):e_ P w0 ops Q ca X n k i dn l H:=
 e_.z (R:=fun u V=>u=v∧V=H) A (fun a w x j=>⟨v,H,w,hy a w x j,j,o,o⟩) hw ah aB (fun u V ⟨aP,q⟩=>by subst aP;subst q;exact⟨r,h⟩)
theorem iJ {v : Value} {d : Nat} (q : ops[i]?=some T) (hy : Y P w0 n l H T v) (j : X.contains i=true∨ca H) (h : U P w0 ops Q ca X n k (i::dn) ((d,v)::l) H) (hw : dr ops l T := by exact dr.u o) (ah : T.dst=some d := by exact rfl) (aB : Nat.blt d n=true := by exact rfl) : e_ P w0 ops Q ca X n k i dn l H := e_.v q hy hw ah aB j h
theorem e_.s{r:Heap→Prop}(E:ops[i]?=some T)(G:S P w0 n l H T r)(hw:dr ops l T)(ah:T.dst=none)
 (h:∀V,r V→(X.contains i=true∨ca V)∧U P w0 ops Q ca X n k (i::dn) l V):e_ P w0 ops Q ca X n k i dn l H:=by
 intro a w q C;obtain⟨V,d,F,x,B⟩:=G a w q C;obtain⟨j,ab⟩:=h V B;unfold wpOp;simp only[E];rw[aM (hw n a q)];refine .inl ?_;unfold Oper.wp;rw[F];show(fun A d=>(X.contains i=true∨∃V,At w0 V d∧ca V)∧lR P .any ops (NoPanic Q) (fun d=>∃V,At w0 V d∧ca V) X k (ev ops.size (i::dn)) A d) (a.put T.dst undef) d;rw[ah];exact⟨j.imp id (fun j=>⟨V,x,j⟩),ab a d q x⟩
theorem iK {d : Heap→Prop} (j : ops[i]?=some T) (q : S P w0 n l H T d) (h : ∀V,d V→(X.contains i=true∨ca V)∧U P w0 ops Q ca X n k (i::dn) l V) (hw : dr ops l T := by exact dr.u o) (ah : T.dst=none := by exact rfl) : e_ P w0 ops Q ca X n k i dn l H := e_.s j q hw ah h
theorem e_.call{A:Value→Heap→Prop}{f d:Nat}{args:List Operand}{F:Array TypeId}{j:List Value}(L:ops[i]?=some T)(M:T.op= .call {callee:= .value (.func f),args:=args.toArray,argTypes:=F})
 (K:∀(j:Array Value) (w:World),(callFunc f j).run P w= .ok (.enter f j) w) (N:iA l args=some j) (hw:dr ops l T) (ah:T.dst=some d) (aB:Nat.blt d n=true) (aq:aE P w0 f j.toArray H A)
 (h:∀v V,A v V→(X.contains i=true∨ca V)∧U P w0 ops Q ca X n k (i::dn) ((d,v)::l) V):e_ P w0 ops Q ca X n k i dn l H:=by
 intro a w x I;have E:=Fl (P:=P) (ρ:=a.eval) (w:=w) M o K;rw[qC,x.mC N]at E;unfold wpOp;simp only[L];rw[aM (hw n a x)];refine .inl ?_;unfold Oper.wp;rw[E];show Calls P f j.toArray w _;refine(aq w I).mono ?_;rintro e O ⟨r,V,rfl,B,G⟩;obtain⟨q,ab⟩:=h r V G;have C:=x.put aB r;rw[←ah]at C;exact⟨q.imp id (fun q=>⟨V,B,q⟩),ab _ O C B⟩
theorem cP {q : Value→Heap→Prop} {f d : Nat} {args : List Operand} {r : Array TypeId} {j : List Value} (x : ∀(j:Array Value) (w:World),(callFunc f j).run P w= .ok (.enter f j) w) (aq : aE P w0 f j.toArray H q) (h : ∀v V,q v V→(X.contains i=true∨ca V)∧U P w0 ops Q ca X n k (i::dn) ((d,v)::l) V) (A : ops[i]?=some T := by exact rfl) (B : T.op= .call {callee:= .value (.func f),args:=args.toArray,argTypes:=r} := by exact rfl) (C : iA l args=some j := by exact rfl) (hw : dr ops l T := by exact dr.u o) (ah : T.dst=some d := by exact rfl) (aB : Nat.blt d n=true := by exact rfl) : e_ P w0 ops Q ca X n k i dn l H := e_.call A B x C hw ah aB aq h
end
end E
namespace E
abbrev b7{α:Type}(H:Heap)(f:α→List Value)(sz:Nat)(v:Value)(l:List α):Prop:=Rd (fun _=>True) H f sz v l
theorem Rd.any{α:Type}{F:Nat→Prop}{H:Heap}{f:α→List Value}{sz:Nat}{v:Value}{l:List α}(h:Rd F H f sz v l):b7 H f sz v l:=h.imp (fun _ _ _=>trivial)
theorem Rd.lt{α:Type}{F:Nat→Prop}{H:Heap}{f:α→List Value}{sz:Nat}{v:Value}{l:List α}(h:Rd F H f sz v l):Rd (fun b=>b<H.size) H f sz v l:=h.imp (fun _ ao _=>ao)
def qe(d:Nat×Nat)(n:Nat):Prop:=d.1≤d.2∧∀i,i<n→¬(d.1≤i∧i<d.2)
theorem qe.zero(n:Nat):qe (0,0) n:=⟨dz _,fun _ _ h=>absurd h.2 (rY _)⟩
def Row(H:Heap)(g:Nat)(cur:Array Value)(e:TypeId):Prop:=∃d,H[g]?=some (.cells cur e d)∧qe d cur.size
theorem Row.lt{H:Heap}{g:Nat}{cur:Array Value}{e:TypeId}(h:Row H g cur e):g<H.size:=let⟨_,h,_⟩:=h;(Array.getElem?_eq_some_iff.1 h).1
theorem Row.up{H V:Heap}{g:Nat}{cur:Array Value}{e:TypeId}(h:Row H g cur e)(ag:V[g]?=H[g]?):Row V g cur e:=let⟨d,j,ab⟩:=h;⟨d,by rw[ag];exact j,ab⟩
theorem Row.cell{H:Heap}{g:Nat}{cur:Array Value}{e:TypeId}(h:Row H g cur e)(i:Nat):E.cell H ⟨g,i,none⟩=cur[i]?:=by
 obtain⟨j,d,_⟩:=h;simp[E.cell,d]
theorem Row.of{H:Heap}{g:Nat}{cur:Array Value}{e:TypeId}(h:H[g]?=some (.cells cur e (0,0))):Row H g cur e:=⟨_,h,qe.zero _⟩
structure Own {α:Type} (aQ:Nat→Prop) (e:TypeId) (H:Heap) (f:α→List Value) (sz:Nat) (v:Value) (l:List α):Prop where
 cells:∀x,(f x).length=sz
 one:∀x,∀u∈f x,u.oneCell'=true
 ex:(v= .slice none 0 0∧l=[])∨∃g cap cur,v= .slice (some ⟨g,0,none⟩) l.length cap∧aQ g∧Row H g cur e∧l.length≤cap∧cap≤maxLen∧cur.size=cap*sz∧cur.toList.take (l.length*sz)=l.flatMap f
abbrev ft(s:List UInt8):List Value:=[aN s]
abbrev pw(x:Int):List Value:=[.int .i64 x]
abbrev bd(b:UInt8):List Value:=[.int .u8 b.toNat]
structure aO where
 a:Option Addr
 len:Nat
 cap:Nat
abbrev aO.v(s:aO):Value:= .slice s.a s.len s.cap
theorem oL(s:List UInt8):(ft s).length=1:=rfl
theorem py(s:List UInt8):∀u∈ft s,u.oneCell'=true:=by intro u hu;simp only[eU]at hu;subst hu;rfl
theorem m9(s:Int):(pw s).length=1:=rfl
theorem m_(s:Int):∀u∈pw s,u.oneCell'=true:=by intro u hu;simp only[eU]at hu;subst hu;rfl
theorem fM(s:UInt8):(bd s).length=1:=rfl
theorem hh(s:UInt8):∀u∈bd s,u.oneCell'=true:=by intro u hu;simp only[eU]at hu;subst hu;rfl
def iO:Value→Nat
 | .slice (some a) _ _=>a.block
 | .pointer (some a)=>a.block
 | .map (some r)=>r
 |_=>0
theorem length_flatMap{α:Type}{f:α→List Value}{sz:Nat}(d:∀x,(f x).length=sz):∀l:List α,(l.flatMap f).length=l.length*sz
 |[]=>by simp
 |x::l=>by simp[d x,length_flatMap d l,hH,vw]
theorem vq{α:Type}{f:α→List Value}{sz:Nat}(d:∀x,(f x).length=sz):∀(l:List α) (i j:Nat) (x:α) (c:Value),l[i]?=some x→(f x)[j]?=some c→(l.flatMap f)[i*sz+j]?=some c
 |[],_,_,_,_,h,_=>by simp at h
 |y::l,0,j,x,c,h,aq=>by
  simp only[List.getElem?_cons_zero,kh]at h;subst h;have n:=(List.getElem?_eq_some_iff.1 aq).1;simp only[lD,te,jL]
  rw[List.getElem?_append_left n];exact aq
 |y::l,i+1,j,x,c,h,aq=>by
  simp only[List.getElem?_cons_succ]at h;simp only[lD];rw[List.getElem?_append_right (by rw[d y,hH];omega),d y];have:=vq d l i j x c h aq;rwa[show(i+1)*sz+j-sz=i*sz+j by rw[hH];omega]
theorem Own.rd{α:Type}{aQ:Nat→Prop}{e:TypeId}{H:Heap}{f:α→List Value}{sz:Nat}{v:Value}{l:List α}(h:Own aQ e H f sz v l):Rd aQ H f sz v l:=by
 rcases h.ex with⟨rfl,rfl⟩|⟨g,cap,cur,rfl,r,bz,n,ab,B,q⟩
 ·exact Rd.nil _ _ _ _
 ·refine⟨_,cap,o,n,ab,fun _=>⟨_,o,o,r,bz.lt,fun i x A=>⟨o,fun j c aq=>?_⟩⟩⟩
  have d:=vq h.cells l i j x c A aq;rw[←q,List.getElem?_take]at d;split at d
  ·simp only[jL]
   rw[bz.cell]
   simpa using d
  ·cases d
def cF:Value→aO
 | .slice a l c=>⟨a,l,c⟩
 |_=>⟨none,0,0⟩
theorem Rd.bA{α:Type}{F:Nat→Prop}{H:Heap}{f:α→List Value}{sz:Nat}{v:Value}{l:List α}(h:Rd F H f sz v l):(cF v).v=v:=by
 obtain⟨a,cap,rfl,_⟩:=h.ex;rfl
theorem Rd.tL{α:Type}{F:Nat→Prop}{H:Heap}{f:α→List Value}{sz:Nat}{v:Value}{l:List α}(h:Rd F H f sz v l):v.oneCell'=true:=by
 obtain⟨a,cap,rfl,_⟩:=h.ex;rfl
theorem Own.bA{α:Type}{aQ:Nat→Prop}{e:TypeId}{H:Heap}{f:α→List Value}{sz:Nat}{v:Value}{l:List α}(h:Own aQ e H f sz v l):(cF v).v=v:=h.rd.bA
section
variable {α : Type} {aQ : Nat → Prop} {e : TypeId} {H V : Heap} {f : α → List Value} {sz : Nat} {v : Value} {l : List α}
theorem Own.nil(j:∀x,(f x).length=sz)(d:∀x,∀u∈f x,u.oneCell'=true):Own aQ e H f sz (.slice none 0 0) []:=⟨j,d,.inl ⟨o,o⟩⟩
theorem Own.up{S:Nat→Prop}(h:Own aQ e H f sz v l)(s:aa S H V)(j:∀b,b<H.size→aQ b→¬S b):Own aQ e V f sz v l:=by
 refine⟨h.cells,h.one,?_⟩;rcases h.ex with h|⟨g,cap,cur,n,d,bz,r⟩
 ·exact .inl h
 ·exact .inr ⟨g,cap,cur,n,d,bz.up (s.same g bz.lt (j _ bz.lt d)),r⟩
theorem Own.imp{G':Nat→Prop}(h:Own aQ e H f sz v l)(d:∀b,b<H.size→aQ b→G' b):Own G' e H f sz v l:=by
 refine⟨h.cells,h.one,?_⟩;rcases h.ex with h|⟨g,cap,cur,n,j,bz,r⟩
 ·exact .inl h
 ·exact .inr ⟨g,cap,cur,n,d _ bz.lt j,bz,r⟩
theorem Own.len(h:Own aQ e H f sz v l):l.length≤9223372036854775807:=h.rd.len
theorem Own.at{j:Nat}(h:Own aQ e H f sz v l)(n:j<l.length):aQ (iO v)∧iO v<H.size∧∃cap,v= .slice (some ⟨iO v,0,none⟩) l.length cap:=by
 rcases h.ex with⟨rfl,rfl⟩|⟨g,cap,cur,rfl,d,bz,r⟩
 ·simp at n
 ·exact⟨d,bz.lt,cap,o⟩
theorem Own.W{j:Nat}(h:Own aQ e H f sz v l)(n:j<l.length):cz H ⟨iO v,j*sz,none⟩ (f l[j]):=by
 obtain⟨G,ab,cap,d⟩:=h.at n;obtain⟨a,B,q,_,_,A⟩:=h.rd.ex;obtain⟨ad,rfl,C,E,F,r⟩:=A (by intro e;subst e;simp at n);have ao:iO v=ad.block:=by rw[q];rfl
 have:=r j l[j] (by simp[n]);rw[q]at d;simp only[Value.slice.injEq,kh]at d;have x:ad.off=0:=by rw[d.1]
 rw[x,jL,←ao]at this;exact this
theorem FE{f:α→List Value}{sz:Nat}(d:∀x,(f x).length=sz):∀(l:List α) (j k:Nat) (x y:α) (c:Value),l[j]?=some x→k<sz→f y=(f x).set k c→(l.set j y).flatMap f=(l.flatMap f).set (j*sz+k) c
 |[],_,_,_,_,_,h,_,_=>by simp at h
 |z::l,0,k,x,y,c,h,n,hy=>by
  simp only[List.getElem?_cons_zero,kh]at h;subst h;simp only[vx,lD,hy,te,jL]
  rw[yF _ _ (by rw[d z];exact n)]
 |z::l,j+1,k,x,y,c,h,n,hy=>by
  simp only[List.getElem?_cons_succ]at h;simp only[yG,lD];rw[FE d l j k x y c h n hy,mJ _ _ (by rw[d z,hH];omega),d z];congr 2;rw[hH];omega
def mG(H:Heap)(b i:Nat)(c:Value):Heap:=H.modify b fun
 | .cells cs e d=> .cells (cs.setIfInBounds i c) e d
 |T=>T
theorem KB(H:Heap)(b i:Nat)(c:Value):aa (fun k=>k=b) H (mG H b i c):=
 ⟨by simp[mG],fun k _ d=>by simp only[mG,Array.getElem?_modify];rw[aA (fun e=>d e.symm)]⟩
theorem KA{b i:Nat}{c:Value}{cs:Array Value}{e:TypeId}{d:Nat×Nat}(h:H[b]?=some (.cells cs e d)):(mG H b i c)[b]?=some (.cells (cs.setIfInBounds i c) e d):=by
 simp only[mG,Array.getElem?_modify,if_true,h];rfl
theorem Row.set{H:Heap}{b i:Nat}{c:Value}{cs:Array Value}{e:TypeId}(h:Row H b cs e):Row (mG H b i c) b (cs.setIfInBounds i c) e:=
 let⟨d,j,ab⟩:=h;⟨d,KA j,by simpa using ab⟩
theorem Own.set{j k:Nat}{y:α}{c:Value}(h:Own aQ e H f sz v l)(d:j<l.length)(A:k<sz)(hy:f y=(f l[j]).set k c):Own aQ e (mG H (iO v) (j*sz+k) c) f sz v (l.set j y):=by
 refine⟨h.cells,h.one,?_⟩;rcases h.ex with⟨rfl,rfl⟩|⟨g,cap,cur,rfl,x,bz,n,ab,q,r⟩
 ·simp at d
 ·refine .inr ⟨g,cap,_,by rw[kk],x,bz.set,by rw[kk];exact n,ab,by simpa using q,?_⟩
  have B:j*sz+k<l.length*sz:=by
   have:=kN sz (show j+1≤l.length from d);rw[hH]at this;omega
  rw[FE h.cells l j k l[j] y c (by simp[d]) A hy,←r,kk,yH,List.take_set]
end
theorem D3{α:Type}{d:List α}{k:Nat}(j:d.length=k):(d.zip (List.range' 0 d.length)).map (fun p=>(p.2,p.1))=(List.range k).zip d:=by
 subst j;rw[List.range_eq_range'];generalize 0=s
 induction d generalizing s with
 |nil=>rfl
 |cons v d ih=>simp[List.range'_succ,ih]
section
variable {P : Program} {w0 : World} {n : Nat} {l : cm} {H : Heap} {T : Oper}
theorem At.alloc{w:World}(d:At w0 H w)(j:Obj):At w0 (H.push j) (w.alloc j):=⟨by simp[World.alloc,d.heap],d.os,d.tape,d.output,d.hg⟩
theorem Z.alloc{t:TypeId}{z:Value}(j:T.op= .alloc t)(q:∀w,(zeroValue t).run P w= .ok z w):Z P w0 n l H T (fun v V=>v= .pointer (some ⟨H.size,0,none⟩)∧V=H.push (.cells z.cells t)):=by
 intro a w r d;refine⟨_,_,_,?_,d.alloc (.cells z.cells t),o,o⟩;simp[execOp,j,Instr.alloc,q,newVar,newRow,d.heap]
theorem Z.box{t:TypeId}{x:Operand}{v:Value}(q:T.op= .box t x)(A:aK l x=some v):Z P w0 n l H T (fun r V=>r= .pointer (some ⟨H.size,0,none⟩)∧V=H.push (.cells v.cells t)):=by
 intro a w j d;refine⟨_,_,_,?_,d.alloc (.cells v.cells t),o,o⟩;simp[execOp,q,j.eval A,Instr.box,newVar,newRow,d.heap]
theorem run_store{w:World}{ad:Addr}{c u:Value}(h:w.cell? ad=some u)(j:w.frozen? ad=false)(d:c.oneCell'=true):(store ad c).run P w= .ok () (w.setCell ad c):=by
 cases c<;>first|(simp[Value.oneCell']at d;done)|simp[store,Sem.run,h,j]
theorem S.cell{x y:Operand}{t:TypeId}{b i:Nat}{c:Value}{cs:Array Value}{e:TypeId}(G:T.op= .store t x y)(K:aK l x=some (.pointer (some ⟨b,i,none⟩)))(hy:aK l y=some c)(j:c.oneCell'=true)
 (ag:∀w,(sizeOf t).run P w= .ok 1 w)(C:Row H b cs e)(r:i<cs.size):S P w0 n l H T (fun V=>V=mG H b i c):=by
 intro a w q d;obtain⟨⟨f1,f2⟩,ao,I⟩:=C;have aq:w.cell? ⟨b,i,none⟩=some cs[i]:=by rw[d.cell];simp[E.cell,ao,r]
 have L:w.frozen? ⟨b,i,none⟩=false:=by have:=I.2 i r;simp only at this;simp[World.frozen?,d.heap,ao];omega
 have F:c.cells= #[c]:=by cases c<;>first|(simp[Value.oneCell']at j;done)|rfl
 refine⟨mG H b i c,{w with heap:=mG H b i c},?_,d.set,rfl⟩;have A:=run_store (P:=P) aq L j
 have hw:w.setCell ⟨b,i,none⟩ c={w with heap:=mG H b i c}:=by
  simp only[World.setCell,mG,d.heap];congr 1
 rw[hw]at A;have B:(⟨b,i,none⟩:Addr).add 0=⟨b,i,none⟩:=by simp[Addr.add]
 simp[execOp,G,q.eval K,q.eval hy,Instr.storeAt,Instr.sureAddr,storeVar,F,ag,storeCells,A,B]
section
variable {α : Type} {aQ F : Nat → Prop} {e : TypeId} {f : α → List Value} {sz : Nat} {v : Value} {xs ys : List α}
theorem Y.MK{x i:Operand}{t:TypeId}{k:IntKind}{aF:Int}(h:Own aQ e H f sz v xs)(j:Nat)(E:T.op= .indexAddr t x i)(F:∀w,(underlying t).run P w= .ok (.slice e) w)(ag:∀w,(sizeOf e).run P w= .ok sz w)
 (G:aK l x=some v)(B:aK l i=some (.int k aF))(C:aF=j)(q:j<xs.length):Y P w0 n l H T (.pointer (some ⟨iO v,j*sz,none⟩)):=by
 obtain⟨I,ab,cap,A⟩:=h.at q;subst C;intro ac w d K;have r:=d.eval G;rw[A]at r;simp[execOp,E,r,d.eval B,Instr.indexAt,asIntOf,F,ag,q,add_eq]
theorem S.own{x y:Operand}{t:TypeId}{c:Value}(h:Own aQ e H f sz v xs)(j k:Nat)(z:α)(G:T.op= .store t x y)(q:aK l x=some (.pointer (some ⟨iO v,j*sz+k,none⟩)))(hy:aK l y=some c)(r:c.oneCell'=true)
 (ag:∀w,(sizeOf t).run P w= .ok 1 w)(d:j<xs.length)(E:k<sz)(L:f z=(f xs[j]).set k c):S P w0 n l H T (fun V=>Own aQ e V f sz v (xs.set j z)∧aa (fun b=>b=iO v) H V):=by
 intro a w C A;rcases h.ex with⟨rfl,rfl⟩|⟨g,cap,cur,K,N,bz,eM,fh,O,fQ⟩
 ·simp at d
 ·have ao:iO v=g:=by rw[K];rfl
  have F:j*sz+k<cur.size:=by
   have:=kN sz (show j+1≤cap by omega);rw[hH]at this;omega
  obtain⟨V,M,I,B,rfl⟩:=S.cell (P:=P) (w0:=w0) (n:=n) G (by rw[ao]at q;exact q) hy r ag bz F a w C A;refine⟨_,M,I,B,?_,by rw[ao];exact KB H g _ c⟩;rw[←ao];exact h.set d E L
theorem Own.new{G':Nat→Prop}{w:World}{z:Value}{cap:Nat}{zs:List α}(aq:∀x,(f x).length=sz)(d:∀x,∀u∈f x,u.oneCell'=true)(q:z.cells.size=sz)(n:G' w.heap.size)(ab:zs.length≤cap)(j:cap≤maxLen):
 Own G' e (w.alloc (.cells ((zs.flatMap f).toArray++Builtin.zeroCells z.cells (cap-zs.length)) e)).heap f sz (.slice (some ⟨w.heap.size,0,none⟩) zs.length cap) zs:=by
 refine⟨aq,d,.inr ⟨w.heap.size,cap,_,o,n,.of (heap_alloc_new w _),ab,j,?_,?_⟩⟩
 ·simp only[Array.size_append,nU,size_zeroCells,q,length_flatMap aq,←hH]
  congr 1;omega
 ·simp only[yI]
  rw[←length_flatMap aq zs];exact qD
theorem Rd.oY{u:Value}{a:Addr}{m c:Nat}(h:Rd F H f sz u ys)(aq:∀x,(f x).length=sz)(hu:u= .slice (some a) m c){w:World}(I:At w0 H w):∀j d,(ys.flatMap f)[j]?=some d→w.cell? (a.add j)=some d:=by
 intro j d ah;obtain⟨ad,cap,q,bh,bW,cw⟩:=h.ex;have n:=(List.getElem?_eq_some_iff.1 ah).1;rw[length_flatMap aq]at n;have L:ys≠[]:=by intro e;subst e;simp at n
 obtain⟨C,aP,E,O,P,G⟩:=cw L
 have N:0<sz:=by rcases qE sz with h|h;·subst h;simp at n
                 ·exact h
 have hdiv:j/sz<ys.length:=Nat.div_lt_of_lt_mul (by rw[qF];exact n);have M:=G (j/sz) ys[j/sz] (by simp[hdiv]);have hm:j%sz<(f ys[j/sz]).length:=by rw[aq];exact Nat.mod_lt _ N
 have r:=M.cells (j%sz) (f ys[j/sz])[j%sz] (by simp[hm]);have A:=vq aq ys (j/sz) (j%sz) _ _ (show ys[j/sz]?=some ys[j/sz]by simp[hdiv]) (show(f ys[j/sz])[j%sz]?=some (f ys[j/sz])[j%sz]by simp[hm]);have B:j/sz*sz+j%sz=j:=by rw[qF];exact Nat.div_add_mod j sz
 rw[B,ah]at A;simp only[kh]at A;have K:a=C:=by rw[hu]at q;simp only[Value.slice.injEq]at q;rw[aP]at q;exact l6 q.1
 rw[K,add_eq E,I.cell,A];simp only at r;rw[rV,B]at r;exact r
def hC(P:Program)(t e:TypeId)(sz bytes:Nat):Prop:=P.underlying t=some (.slice e)∧∃i z,P.info? e=some i∧i.zero=some z∧i.size=sz∧i.bytes=bytes∧z.cells.size=sz
theorem qY(P:Program)(g T:Nat)(t:TypeId)(d:Nat×Nat):∀(n:List Value) (i:Nat) (cur:Array Value) (w:World),w.heap[g]?=some (.cells cur t d)→qe d cur.size→T+i+n.length≤cur.size→(∀v∈n,v.oneCell'=true)→
 (storeCells ⟨g,T,none⟩ n i).run P w= .ok () (w.setRow g (cur.toList.take (T+i)++n++cur.toList.drop (T+i+n.length)).toArray)
 |[],i,cur,w,j,_,_,_=>by
  simp only[storeCells,hi,je,mI,hY,Array.toArray_toList];rw[setRow_self w g cur t d j]
  rfl
 |v::rest,i,cur,w,j,A,q,r=>by
  have B:T+i<cur.size:=by simp at q;omega
  have C:w.cell? ⟨g,T+i,none⟩=some cur[T+i]:=by simp[World.cell?,j,B]
  have E:w.frozen? ⟨g,T+i,none⟩=false:=by
   obtain⟨I,H⟩:=d;have:=A.2 (T+i) B;simp only at this;simp[World.frozen?,j];omega
  have F:(store ((⟨g,T,none⟩:Addr).add i) v).run P w= .ok () (w.setRow g (cur.setIfInBounds (T+i) v)):=by
   rw[add_eq o,run_store C E (r v bl),setCell_eq_setRow w g (T+i) cur t d v j]
  have ih:=qY P g T t d rest (i+1) (cur.setIfInBounds (T+i) v) (w.setRow g (cur.setIfInBounds (T+i) v)) (setRow_heap w g cur _ t _ j) (by simpa using A) (by simp at q⊢;omega) (fun x G=>r x (by simp[G]));simp only[storeCells,Sem.run_bind,F,Result.andThen_ok,ih,setRow_setRow];congr 3;have e:=list_seg_step cur.toList (T+i) v rest (by simp at q⊢;omega)
  simpa[yH,rV]using e
theorem NT{w:World}(t ty e:TypeId)(i:TypeInfo)(K:P.underlying t=some (.slice e))(F:P.info? e=some i)
 (g d q:Nat)(cur:Array Value)(n:Nat×Nat)(E:w.heap[g]?=some (.cells cur e n))(C:qe n cur.size)
 (a:Addr)(m c:Nat)(news:List Value)(G:news.length=m*i.size)(H:∀j u,news[j]?=some u→w.cell? (a.add j)=some u)(x:∀u∈news,u.oneCell'=true)
 (I:d+m≤q)(B:d*i.size+news.length≤cur.size):
 (Builtin.append_ #[t,t] ty #[.slice (some ⟨g,0,none⟩) d q,.slice (some a) m c]).run P w=
  .ok (.slice (some ⟨g,0,none⟩) (d+m) q) (w.setRow g (cur.toList.take (d*i.size)++news++cur.toList.drop (d*i.size+news.length)).toArray):=by
 have A:=run_firstCells_some (P:=P) w i.size m a m c news G H;have r:=qY P g (d*i.size) e n news 0 cur w E C (by simpa using B) x;simp only[mI]at r;simp[Builtin.append_,run_underlying K,sizeOf,typeInfo,F,Builtin.lenOf,I,A,Addr.add_lit,r]
theorem Z.append{s x:Operand}{t:TypeId}{u:Value}{bytes:Nat}(h:Own aQ e H f sz v xs)(Y:Rd F H f sz u ys)(G:T.op= .call {callee:= .builtin .append,args:= #[s,x],argTypes:= #[t,t]})
 (ay:hC P t e sz bytes) (ag:aK l s=some v) (K:aK l x=some u) (ao:(xs.length+ys.length)*bytes≤140737488355328) (hm:xs.length+ys.length≤9223372036854775807):
 Z P w0 n l H T (fun r V=>Own (fun b=>aQ b∨H.size≤b) e V f sz r (xs++ys)∧aa aQ H V):=by
 obtain⟨I,i,z,A,ae,aE,ak,aF⟩:=ay;subst aE;subst ak;intro a w q d;obtain⟨ad,cap,rfl,bh,bW,cw⟩:=id Y.ex;have M:(ys.flatMap f).length=ys.length*i.size:=length_flatMap h.cells ys
 have ai:∀c∈ys.flatMap f,c.oneCell'=true:=by
  intro c aq;obtain⟨y,hy,aq⟩:=tf.1 aq;exact h.one y c aq
 cases ad with
 |none=>
  have W:ys=[]:=by
   apply k9;intro aD;obtain⟨ad,aB,_⟩:=cw aD;cases aB
  subst W;refine⟨v,H,w,?_,d,by rw[hi];exact h.imp (fun b _ E=> .inl E),aa.refl _ _⟩;rcases h.ex with⟨rfl,rfl⟩|⟨g,C,cur,rfl,E,bz,eM,fh,af,fQ⟩
  ·simp[execOp,G,resolve,invoke,builtin,q.eval ag,q.eval K,Builtin.append_,run_underlying I,sizeOf,typeInfo,A,Builtin.lenOf,Builtin.firstCells]
  ·simp[execOp,G,resolve,invoke,builtin,q.eval ag,q.eval K,Builtin.append_,run_underlying I,sizeOf,typeInfo,A,Builtin.lenOf,Builtin.firstCells,eM,storeCells]
 |some ad=>
  have R:=Y.oY h.cells o d
  have grown:∀(B:Nat) (r:Value),B<xs.length+ys.length→r= .slice (some ⟨w.heap.size,0,none⟩) (xs.length+ys.length) (grownCap w (xs.length+ys.length) B e)→∀L,L=Obj.cells ((xs.flatMap f).toArray++(ys.flatMap f).toArray++Builtin.zeroCells z.cells (grownCap w (xs.length+ys.length) B e-(xs.length+ys.length))) e→
   At w0 (w.drew.alloc L).heap (w.drew.alloc L)∧Own (fun b=>aQ b∨H.size≤b) e (w.drew.alloc L).heap f i.size r (xs++ys)∧aa aQ H (w.drew.alloc L).heap:=by
   rintro B r aG rfl L rfl;have av:=grownCap_ge w (xs.length+ys.length) B e;have an:grownCap w (xs.length+ys.length) B e≤maxLen:=grownCap_le_maxLen w (xs.length+ys.length) B e (by unfold maxLen;omega);have Q:At w0 H w.drew:=d.drew;refine⟨⟨o,d.os,d.tape,d.output,Q.hg⟩,?_,?_⟩
   ·have:=Own.new (e:=e) (G':=fun b=>aQ b∨H.size≤b) (w:=w.drew) (z:=z) (cap:=grownCap w (xs.length+ys.length) B e) (zs:=xs++ys) h.cells h.one aF (.inr (by rw[Q.heap];exact dz _)) (by simpa using av) an
    simpa using this
   ·rw[(Q.alloc _).heap];exact aa.push _ _ _
  rcases h.ex with⟨rfl,rfl⟩|⟨g,C,cur,rfl,E,bz,eM,fh,af,fQ⟩
  ·by_cases aC:ys.length=0
   ·have W:ys=[]:=mH aC
    subst W;refine⟨.slice none 0 0,H,w,?_,d,by simpa using h.imp (fun b _ E=> .inl E),aa.refl _ _⟩;simp[execOp,G,resolve,invoke,builtin,q.eval ag,q.eval K,Builtin.append_,run_underlying I,sizeOf,typeInfo,A,Builtin.lenOf,Builtin.firstCells,loadCells,loadCellsFrom]
   ·simp only[je,jL]at ao hm
    have N:=run_append_nil (P:=P) w t T.type e i z I A ae ad ys.length cap (ys.flatMap f) M R J J J;have:=grown 0 _ b2 o _ o;simp only[je,jL,vy,hq,Array.empty_append]at this;exact⟨_,_,_,by simp[execOp,G,resolve,invoke,builtin,q.eval ag,q.eval K,N],this.1,this.2.1,this.2.2⟩
  ·obtain⟨O,ax,U⟩:=id bz
   have X:w.heap[g]?=some (.cells cur e O):=by rw[d.heap];exact ax
   by_cases S:xs.length+ys.length≤C
   ·have ar:xs.length*i.size+(ys.flatMap f).length≤cur.size:=by rw[M,af,←hH];exact kN _ S
    have N:=NT (P:=P) (w:=w) t T.type e i I A g xs.length C cur O X U ad ys.length cap (ys.flatMap f) M R ai S ar;refine⟨.slice (some ⟨g,0,none⟩) (xs.length+ys.length) C,(w.setRow g (cur.toList.take (xs.length*i.size)++ys.flatMap f++cur.toList.drop (xs.length*i.size+(ys.flatMap f).length)).toArray).heap,w.setRow g (cur.toList.take (xs.length*i.size)++ys.flatMap f++cur.toList.drop (xs.length*i.size+(ys.flatMap f).length)).toArray,by simp[execOp,G,resolve,invoke,builtin,q.eval ag,q.eval K,N],⟨o,d.os,d.tape,d.output,d.hg⟩,⟨h.cells,h.one,.inr ⟨g,C,_,by rw[bT],   .inl E,⟨O,setRow_heap w g cur _ e _ X,U.1,fun i A=>U.2 i (by simp only[nU,bT,eJ,ia,l8]at A;omega)⟩,by simpa using S,fh,?_,?_⟩⟩,⟨by rw[←d.heap];simp[World.setRow],fun b ao aB=>?_⟩⟩
    ·simp only[nU,bT,eJ,ia,l8]
     omega
    ·have az:=length_flatMap h.cells xs
     rw[fQ,←jq,bT,hH,←M,←az,←bT,←jq];exact qD
    ·rw[←d.heap];exact setRow_other w g b _ (fun e=>aB (e▸E))
   ·have holds:∀j c,(xs.flatMap f)[j]?=some c→w.cell? ((⟨g,0,none⟩:Addr).add j)=some c:=h.rd.oY h.cells o d
    have N:=run_append_grow (P:=P) w t T.type e i z I A ae ⟨g,0,none⟩ xs.length C (xs.flatMap f) (length_flatMap h.cells xs) holds ad ys.length cap (ys.flatMap f) M R J J (growslice_fits J ao);have:=grown C _ J o _ o;exact⟨_,_,_,by simp[execOp,G,resolve,invoke,builtin,q.eval ag,q.eval K,N],this.1,this.2.1,this.2.2⟩
theorem Df(size:Nat):∀(q:List Value) (j off:Nat) (cs:Array Value) (pre d post:List Value),cs.toList=pre++d++post→pre.length=off+j→d.length=q.length→
 ((q.zipIdx j).foldl (fun cs (x:Value×Nat)=>cs.setIfInBounds (off+x.2) x.1) cs).toList=pre++q++post
 |[],j,off,cs,pre,d,post,h,_,n=>by
  have:d=[]:=mH n;subst this
  simpa using h
 |v::q,j,off,cs,pre,d,post,h,r,n=>by
  match d,n with
  |x::d,n=>
   simp only[List.zipIdx_cons,gX]
   have:=Df size q (j+1) off (cs.setIfInBounds (off+j) v) (pre++[v]) d post (by
    rw[yH,h,←r];simp) b2 (by simpa using n)
   simpa using this
theorem s_(size:Nat):∀(j:List Value) (i:Nat) (cs:Array Value) (pre d:List Value),cs.toList=pre++d→pre.length=i*size→d.length=j.length*size→(∀v∈j,v.cells.size=size)→
 ∃r,Instr.fill (fun i=>some (i*size,size)) cs ((j.zipIdx i).map (fun p=>(p.2,p.1)))=some r∧r.toList=pre++j.flatMap (fun v=>v.cells.toList)
 |[],i,cs,pre,d,h,_,n,_=>by
  have:d=[]:=mH (by simpa using n);subst this
  exact⟨cs,o,by simpa using h⟩
 |v::j,i,cs,pre,d,h,E,n,A=>by
  have q:=A v bl;have hlen:size≤d.length:=by rw[n];simp[hH]
  have hold:d=d.take size++d.drop size:=(hY size d).symm;have B:cs.toList=pre++d.take size++d.drop size:=by rw[h,dA,←hold]
  have H:cs.size=pre.length+d.length:=by rw[←l8,h,bT]
  have C:=Df size v.cells.toList 0 (i*size) cs pre (d.take size) (d.drop size) B J (by rw[eJ,show v.cells.toList.length=size from by simpa using q];omega);simp only[List.zipIdx_cons,dk,Instr.fill];rw[aA (by simp[q];omega)]
  obtain⟨r,F,G⟩:=s_ size j (i+1) (v.cells.zipIdx.foldl (fun cs (x:Value×Nat)=>cs.setIfInBounds (i*size+x.2) x.1) cs) (pre++v.cells.toList) (d.drop size) (by
   rw[←C,←Array.foldl_toList,Array.toList_zipIdx]) (by simp[q,E,hH]) (by simp[n,hH]) (fun u hu=>A u (by simp[hu]))
  exact⟨r,F,by simpa using G⟩
theorem Z.lit{t:TypeId}{k bytes:Nat}{parts:List (Nat×Operand)}(d:List Value)(zs:List α)(Q:T.op= .buildSlice t k parts.toArray)(ae:hC P t e sz bytes)(R:iA l (parts.map (·.2))=some d)(O:parts.map (·.1)=List.range k)(j:d.length=k)(ay:k*sz≤16777216)(ax:k≤16777216)
 (aq:∀x,(f x).length=sz)(X:∀x,∀u∈f x,u.oneCell'=true)(I:d.map (fun v=>v.cells.toList)=zs.map f):
 Z P w0 n l H T (fun r V=>Own (fun b=>b=H.size) e V f sz r zs∧al H V∧∃c,V=H.push c):=by
 obtain⟨U,i,z,C,an,ag,av,az⟩:=ae;subst ag;intro a w aa K;have M:=aa.mC R;have W:zs.length=k:=by have:=aI List.length I;simpa[j]using this.symm
 have S:(parts.toArray.map (fun(x:Nat×Operand)=>(x.1,a.eval x.2))).toList=(d.zipIdx 0).map (fun p=>(p.2,p.1)):=by
  have aP:parts.map (fun(x:Nat×Operand)=>(x.1,a.eval x.2))=(List.range k).zip d:=by
   rw[←O,←M,l9];clear O M R Q
   induction parts with
   |nil=>rfl
   |cons p dh ih=>simp[ih]
  rw[qC];simp only;rw[aP,Dx,D3 j]
 have L:∀v∈d,v.cells.size=i.size:=by
  intro v ai;have:v.cells.toList∈zs.map f:=by rw[←I];exact cN.2 ⟨v,ai,o⟩
  obtain⟨x,_,ak⟩:=cN.1 this;have:=aq x;rw[ak]at this
  simpa using this
 have N:d.flatMap (fun v=>v.cells.toList)=zs.flatMap f:=by rw[rZ,rZ,I]
 have Y:∀(q:Array Value),((Array.range (k*i.size)).map (q[·%q.size]!)).toList=[]++((Array.range (k*i.size)).map (q[·%q.size]!)).toList:=fun _=>rfl
 have G:∃cs:Array Value,cs.toList=zs.flatMap f∧(Instr.buildSlice t k (parts.toArray.map (fun(x:Nat×Operand)=>(x.1,a.eval x.2)))).run P w= .ok (.slice (some ⟨w.heap.size,0,none⟩) k k) (w.alloc (.cells cs e)):=by
  by_cases A:k*i.size=0
  ·obtain⟨r,E,F⟩:=s_ i.size d 0 #[] [] [] o bl (by simp[j,A]) L
   refine⟨r,by rw[F,N];rfl,?_⟩;simp only[Instr.buildSlice,Sem.run_bind,run_underlying U,Result.andThen_ok,sizeOf,typeInfo,run_program,C,Sem.run_pure,S];have ar:∀g:Nat→Value,(Array.range 0).map g= #[]:=fun g=>by simp
   simp[A,ar,E,newRow]
  ·obtain⟨r,E,F⟩:=s_ i.size d 0 ((Array.range (k*i.size)).map (z.cells[·%z.cells.size]!)) [] _ (Y _) bl (by simp[j]) L
   refine⟨r,by rw[F,N];rfl,?_⟩;simp only[Instr.buildSlice,Sem.run_bind,run_underlying U,Result.andThen_ok,sizeOf,typeInfo,run_program,C,Sem.run_pure,S];have af:¬(k*i.size>2^24):=by simp only[Nat.reducePow];omega
   simp[A,af,zeroValue,typeInfo,C,an,E,newRow]
 obtain⟨cs,B,G⟩:=G;refine⟨.slice (some ⟨w.heap.size,0,none⟩) k k,H.push (.cells cs e),w.alloc (.cells cs e),?_,K.alloc (.cells cs e),⟨aq,X,.inr ⟨H.size,k,cs,?_,o,.of bl,?_,?_,?_,?_⟩⟩,al.pu _ _,_,o⟩
 ·simp only[execOp,Q,Sem.run_bind,G,Result.andThen_ok,Sem.run_pure]
 ·rw[W,K.heap]
 ·omega
 ·unfold maxLen;omega
 ·rw[←l8,B,length_flatMap aq,W]
 ·rw[←length_flatMap aq,eY (by rw[←B];exact dz _),B]
theorem Y.build{t:TypeId}{parts:List (Nat×Operand)}{d:List Value}{v:Value}(q:T.op= .build t parts.toArray)(r:iA l (parts.map (·.2))=some d)(B:∀w,(Instr.build t ((parts.map (·.1)).zip d).toArray).run P w= .ok v w):Y P w0 n l H T v:=by
 intro a w C E;have j:=C.mC r
 have aP:parts.map (fun(x:Nat×Operand)=>(x.1,a.eval x.2))=(parts.map (·.1)).zip d:=by
  rw[←j,l9];clear j r q B
  induction parts with
  |nil=>rfl
  |cons p dh ih=>simp[ih]
 have A:=B w;rw[←aP]at A;simp[execOp,q,A]
end
end
end E
namespace E
open Go.MapKept
structure jy {κ β:Type} (aQ:Nat→Prop) (H:Heap) (aX:κ→Value) (fv:β→Value) (v:Value) (m:List (κ×β)):Prop where
 ex:∃r es clock,v= .map (some r)∧aQ r∧H[r]?=some (.map es clock)∧Stamped es clock∧es.toList.map (fun e=>(e.key,e.val))=m.map (fun p=>(aX p.1,fv p.2))
section
variable {κ β : Type} {aQ : Nat → Prop} {H V : Heap} {aX : κ → Value} {fv : β → Value} {v : Value} {m : List (κ × β)}
theorem jy.up{S:Nat→Prop}(h:jy aQ H aX fv v m)(s:aa S H V)(x:∀b,b<H.size→aQ b→¬S b):jy aQ V aX fv v m:=by
 obtain⟨r,es,clock,n,ab,d,q⟩:=h.ex;have j:=(Array.getElem?_eq_some_iff.1 d).1;exact⟨r,es,clock,n,ab,by rw[s.same r j (x r j ab)];exact d,q⟩
theorem jy.aR(h:jy aQ H aX fv v m)(s:al H V):jy aQ V aX fv v m:=h.up s (fun _ _ _ e=>e)
theorem jy.size(h:jy aQ H aX fv v m):∃r es clock,v= .map (some r)∧H[r]?=some (.map es clock)∧es.size=m.length:=by
 obtain⟨r,es,clock,d,ab,j,q,n⟩:=h.ex;refine⟨r,es,clock,d,j,?_⟩;have:=aI List.length n
 simpa using this
theorem jy.nodup(h:jy aQ H aX fv v m):(m.map (·.1)).Nodup:=by
 obtain⟨r,es,clock,x,ab,A,j,n⟩:=h.ex;have d:=j.2.2
 have:es.toList.map (·.key)=(m.map (·.1)).map aX:=by
  have:=aI (List.map Prod.fst) n
  simpa[Function.comp_def]using this
 rw[this,tg,qG]at d;rw[tg];exact d.imp (fun q e=>q (by rw[e]))
end
theorem jy.Hs{κ β:Type}{aQ:Nat→Prop}{H:Heap}{aX:κ→Value}{fv:β→Value}{v:Value}{m:List (κ×β)}(h:jy aQ H aX fv v m):iO v<H.size:=by
 obtain⟨r,es,clock,rfl,ab,d,j⟩:=h.ex;exact(Array.getElem?_eq_some_iff.1 d).1
def aH{κ β:Type}[DecidableEq κ]:List (κ×β)→κ→Option β
 |[],_=>none
 |p::m,k=>if k=p.1 then some p.2 else aH m k
structure ou {κ:Type} (d:TypeDesc) (aX:κ→Value):Prop where
 key:∀k,IsKey d (aX k)
 inj:∀a b,aX a=aX b→a=b
theorem gx:ou .string aN:=⟨fun _=>trivial,fun a b h=>by simpa[aN]using h⟩
def hk{κ β:Type}[DecidableEq κ](m:List (κ×β))(k:κ)(b:β):List (κ×β):=if(aH m k).isSome then m.map (fun p=>if p.1=k then(p.1,b)else p)else m++[(k,b)]
section
variable {P : Program} {w0 : World} {n : Nat} {l : cm} {H : Heap} {T : Oper}
variable {κ β : Type} [DecidableEq κ] {aQ : Nat → Prop} {aX : κ → Value} {fv : β → Value} {v : Value} {m : List (κ × β)} {d : TypeDesc}
theorem vl{k:κ}(A:ou d aX):∀(es:List MapEntry) (m:List (κ×β)) (i:Nat),es.map (fun e=>(e.key,e.val))=m.map (fun p=>(aX p.1,fv p.2))→
 (aH m k=none∧Instr.findNow d (aX k) es i=some none∧∀x∈es,x.key≠aX k)∨∃j e b,aH m k=some b∧Instr.findNow d (aX k) es i=some (some (i+j,fv b))∧es[j]?=some e∧e.key=aX k∧e.val=fv b
 |[],m,i,h=>by
  have:m=[]:=by cases m<;>simp_all
  subst this
  exact .inl ⟨o,o,by simp⟩
 |e::es,m,i,h=>by
  match m,h with
  |(a,b)::m,h=>
   simp only[dk,jC,hI]at h;obtain⟨⟨n,ab⟩,I⟩:=h;obtain⟨r,C,F⟩:=sameNow_of_keys (A.key k) (b:=e.key) (by rw[n];exact A.key a)
   cases r with
   |true=>
    have K:k=a:=A.inj _ _ (by rw[F.1 o,n]);subst K
    exact .inr ⟨0,e,b,by simp[aH],by simp[Instr.findNow,C,ab],o,n,ab⟩
   |false=>
    have B:k≠a:=fun q=>by subst q;have:=F.2 n.symm;cases this
    rcases vl (k:=k) A es m (i+1) I with⟨bh,bW,cw⟩|⟨j,H,G,bh,bW,cw,ep,gT⟩
    ·refine .inl ⟨?_,by simp[Instr.findNow,C,bW],?_⟩
     ·simp only[aH,B,if_false];exact bh
     ·intro x E
      cases E with
      |head=>intro q;exact B (A.inj _ _ (by rw[←q,n]))
      |tail _ E=>exact cw x E
    ·refine .inr ⟨j+1,H,G,?_,?_,by simpa using cw,ep,gT⟩
     ·simp only[aH,B,if_false];exact bh
     ·simp[Instr.findNow,C,bW];omega
theorem Fq{w:World}{t gH x:TypeId}{z:Value}{k:κ}{ok:Bool}(h:jy aQ H aX fv v m)(q:ou d aX)(E:At w0 H w)(hm:∀w,(underlying t).run P w= .ok (.map gH x) w)(n:P.underlying gH=some d)(F:∀w,(zeroValue x).run P w= .ok z w):
 (Instr.lookup t v (aX k) ok).run P w= .ok (if ok then .tuple #[(match aH m k with|some b=>fv b|none=>z),.bool (aH m k).isSome]else(match aH m k with|some b=>fv b|none=>z)) w:=by
 obtain⟨r,es,clock,rfl,ab,B,K,C⟩:=h.ex;have A:w.heap[r]?=some (.map es clock):=by rw[E.heap];exact B
 rcases vl (k:=k) q es.toList m 0 C with⟨bh,bW,cw⟩|⟨j,I,G,bh,bW,cw,ep,gT⟩
 ·simp[Instr.lookup,hm,MapKept.run_getObj_map A,MapKept.run_checkKey n (q.key k),MapKept.run_findKey n bW,bh,F]
 ·simp[Instr.lookup,hm,MapKept.run_getObj_map A,MapKept.run_checkKey n (q.key k),MapKept.run_findKey n bW,bh]
theorem Y.lookup{t gH j:TypeId}{x i:Operand}{k:κ}{z0:β}(h:jy aQ H aX fv v m)(B:ou d aX)(F:T.op= .lookup t x i false)(hm:∀w,(underlying t).run P w= .ok (.map gH j) w)(E:P.underlying gH=some d)(I:∀w,(zeroValue j).run P w= .ok (fv z0) w)
 (G:aK l x=some v)(C:aK l i=some (aX k)):Y P w0 n l H T (fv ((aH m k).getD z0)):=by
 intro ac w q A;have r:=Fq (k:=k) (ok:=false) h B A hm E I;have:(match aH m k with|some b=>fv b|none=>fv z0)=fv ((aH m k).getD z0):=by cases aH m k<;>rfl
 rw[this]at r;simp[execOp,F,q.eval G,q.eval C,r]
theorem Y.Ee{x:Operand}{t gH d:TypeId}(h:jy aQ H aX fv v m)(C:T.op= .call {callee:= .builtin .len,args:= #[x],argTypes:= #[t]})(E:∀w,(underlying t).run P w= .ok (.map gH d) w)(F:aK l x=some v):Y P w0 n l H T (.int .i64 m.length):=by
 obtain⟨r,es,clock,rfl,ab,q⟩:=h.size;intro ac w B A;have j:w.heap[r]?=some (.map es clock):=by rw[A.heap];exact ab
 simp[execOp,C,B.eval F,resolve,invoke,builtin,Builtin.len_,E,goInt,MapKept.run_getObj_map j,q]
theorem Ei{k:κ}{b:β}{key:Value}(C:ou d aX)(E:key=aX k):∀(es:List MapEntry) (m:List (κ×β)) (j:Nat) (e:MapEntry),es.map (fun e=>(e.key,e.val))=m.map (fun p=>(aX p.1,fv p.2))→(es.map (·.key)).Nodup→es[j]?=some e→e.key=aX k→
 (es.modify j (fun e=>{e with key:=key,val:=fv b})).map (fun e=>(e.key,e.val))=(m.map (fun p=>if p.1=k then(p.1,b)else p)).map (fun p=>(aX p.1,fv p.2))
 |[],_,_,_,_,_,h,_=>by simp at h
 |x::es,m,j,e,h,aB,n,he=>by
  match m,h with
  |(a,c)::m,h=>
   simp only[dk,jC,hI]at h;obtain⟨⟨r,ab⟩,A⟩:=h;simp only[dk,ng]at aB
   cases j with
   |zero=>
    simp only[List.getElem?_cons_zero,kh]at n;subst n;have B:a=k:=C.inj _ _ (by rw[←r,he]);subst B;simp only[List.modify_zero_cons,dk,if_true,E];congr 1;rw[A,l9];apply mK;intro p G
    have:p.1≠a:=by
     intro e;apply aB.1;have:(aX p.1,fv p.2)∈es.map (fun e=>(e.key,e.val)):=by rw[A];exact cN.2 ⟨p,G,o⟩
     obtain⟨y,hy,F⟩:=cN.1 this;simp only[hI]at F;exact cN.2 ⟨y,hy,by rw[F.1,e,r]⟩
    simp[this]
   |succ j=>
    simp only[List.getElem?_cons_succ]at n
    have B:a≠k:=by
     intro q;subst q;apply aB.1;rw[r,←he];exact cN.2 ⟨e,yJ n,o⟩
    simp only[List.modify_succ_cons,dk,B,if_false,r,ab];rw[Ei C E es m j e A aB.2 n he]
theorem S.mapUpdate{t gH Y:TypeId}{x i y:Operand}{k:κ}{b:β}(h:jy aQ H aX fv v m)(C:ou d aX)(W:T.op= .mapUpdate t x i y)(hm:∀w,(underlying t).run P w= .ok (.map gH Y) w)(G:P.underlying gH=some d)
 (X:aK l x=some v)(O:aK l i=some (aX k))(hy:aK l y=some (fv b)):S P w0 n l H T (fun V=>jy aQ V aX fv v (hk m k b)∧aa (fun c=>c=iO v) H V):=by
 intro ac w q B;obtain⟨r,es,clock,E,ab,M,I,K⟩:=h.ex;have F:w.heap[r]?=some (.map es clock):=by rw[B.heap];exact M
 have Z:iO v=r:=by rw[E];rfl
 have af:=(Array.getElem?_eq_some_iff.1 M).1;have R:∀A,aa (fun c=>c=iO v) H (H.setIfInBounds r A):=fun A=>⟨by simp,fun b ao U=>by rw[Z]at U;simp[kj U]⟩;have N:∀A,(H.setIfInBounds r A)[r]?=some A:=fun A=>by simp[af]
 rcases vl (k:=k) C es.toList m 0 K with⟨bh,bW,cw⟩|⟨j,L,ag,bh,bW,cw,ep,gT⟩
 ·refine⟨H.setIfInBounds r (.map (es.push {key:=aX k,val:=fv b,born:=clock}) (clock+1)),{w with heap:=H.setIfInBounds r (.map (es.push {key:=aX k,val:=fv b,born:=clock}) (clock+1))},?_,B.set,⟨r,_,_,E,ab,N _,stamped_push I cw,?_⟩,R _⟩
  ·simp[execOp,W,q.eval X,q.eval O,q.eval hy,E,Instr.mapUpdate,hm,MapKept.run_getObj_map F,MapKept.run_checkKey G (C.key k),MapKept.run_findKey G bW,MapKept.run_setObj_map _ F,B.heap]
  ·simp[hk,bh,K]
 ·have Q:es[j]?=some L:=by simpa using cw
  have ae:∀e,es[j]?=some e→({e with key:=aX k,val:=fv b}:MapEntry).key=e.key:=fun e he=>by rw[Q]at he;cases he;exact ep.symm
  refine⟨H.setIfInBounds r (.map (es.modify j fun e=>{e with key:=aX k,val:=fv b}) clock),{w with heap:=H.setIfInBounds r (.map (es.modify j fun e=>{e with key:=aX k,val:=fv b}) clock)},?_,B.set,⟨r,_,_,E,ab,N _,stamped_modify I _ _ (fun _ _=>rfl) (fun e _ he=>ae e he),?_⟩,R _⟩
  ·simp[execOp,W,q.eval X,q.eval O,q.eval hy,E,Instr.mapUpdate,hm,MapKept.run_getObj_map F,MapKept.run_checkKey G (C.key k),MapKept.run_findKey G bW,Q,ep,MapKept.run_keyThatStays (C.key k),MapKept.run_setObj_map _ F,B.heap]
  ·have:=Ei (fv:=fv) (b:=b) C o es.toList m j L K I.2.2 cw ep
   rw[Array.toList_modify,this];simp[hk,bh]
theorem Z.makeSlice{α:Type}{f:α→List Value}{sz bytes:Nat}{t e:TypeId}{x c:Operand}{N M:IntKind}{c9:Int}{z:Value}(k:Nat)(z0:α)(U:T.op= .makeSlice t x c)(R:hC P t e sz bytes)(af:∀w,(zeroValue e).run P w= .ok z w)(ag:f z0=z.cells.toList)
 (aq:∀x,(f x).length=sz)(j:∀x,∀u∈f x,u.oneCell'=true)(ae:aK l x=some (.int N c9))(Q:aK l c=some (.int M c9))(S:c9=k)(ao:(bytes:Int)*k≤281474976710656)(an:k≤9223372036854775807):
 Z P w0 n l H T (fun r V=>Own (fun b=>b=H.size) e V f sz r (List.replicate k z0)∧al H V∧∃ak,V=H.push ak):=by
 obtain⟨aa,i,d,I,L,X,O,A⟩:=R;intro ac w F B;subst S
 have ai:d=z:=by
  have j:=af w;simp[zeroValue,typeInfo,I,L]at j;exact j
 subst ai;have K:=run_make (P:=P) w t e i d aa I L N M (k:Int) k J J (by rw[O];exact ao) J;simp only[r0,X]at K;refine⟨.slice (some ⟨w.heap.size,0,none⟩) k k,H.push (.cells (madeCells d.cells (k*sz)) e),w.alloc (.cells (madeCells d.cells (k*sz)) e),?_,B.alloc _,⟨aq,j,.inr ⟨w.heap.size,k,madeCells d.cells (k*sz),by simp,B.heap▸rfl,.of (by rw[B.heap];simp),by simp,by unfold maxLen;omega,size_madeCells _ _,?_⟩⟩,al.pu _ _,_,o⟩
 ·simp[execOp,U,F.eval ae,F.eval Q,K]
 ·rw[nV,eY (by simp[size_madeCells])]
  apply yK;intro q;by_cases E:q<k*sz
  ·have Y:0<sz:=by rcases qE sz with h|h;·subst h;simp at E
                   ·exact h
   have hdiv:q/sz<k:=Nat.div_lt_of_lt_mul (by rw[qF];exact E);have C:=Nat.mod_lt q Y;have G:=vq aq (List.replicate k z0) (q/sz) (q%sz) z0 (d.cells[q%sz]'(by rw[A];exact C)) (by simp[hdiv]) (by rw[ag];simp[A,C]);have W:q/sz*sz+q%sz=q:=by rw[qF];exact Nat.div_add_mod q sz
   rw[W]at G;rw[G];simp only[madeCells,A,Array.getElem?_toList];rw[Array.getElem?_map,Array.getElem?_range,aM E];simp[A,C]
  ·rw[List.getElem?_eq_none (by simp[size_madeCells];omega),List.getElem?_eq_none (by rw[length_flatMap aq,nV];omega)]
end
end E
namespace E
structure Var (e:TypeId) (H:Heap) (b:Nat) (cs:List Value):Prop where
 row:Row H b cs.toArray e
theorem Var.lt{e:TypeId}{H:Heap}{b:Nat}{cs:List Value}(h:Var e H b cs):b<H.size:=h.row.lt
theorem Var.up{e:TypeId}{H V:Heap}{b:Nat}{cs:List Value}{S:Nat→Prop}(h:Var e H b cs)(s:aa S H V)(d:¬S b):Var e V b cs:=⟨h.row.up (s.same b h.lt d)⟩
theorem Var.aR{e:TypeId}{H V:Heap}{b:Nat}{cs:List Value}(h:Var e H b cs)(s:al H V):Var e V b cs:=h.up s (fun e=>e)
theorem Var.W{e:TypeId}{H:Heap}{b:Nat}{cs:List Value}(h:Var e H b cs):cz H ⟨b,0,none⟩ cs:=
 ⟨o,fun j c aq=>by simp only[jL];rw[h.row.cell];simpa using aq⟩
theorem Var.new(H:Heap)(cs:Array Value)(t:TypeId):Var t (H.push (.cells cs t)) H.size cs.toList:=⟨.of bl⟩
def er(cs:List Value)(i:Nat)(d:List Value):List Value:=cs.take i++d++cs.drop (i+d.length)
theorem z_{cs:List Value}{i:Nat}{d:List Value}(h:i+d.length≤cs.length):(er cs i d).length=cs.length:=by
 simp[er];omega
section
variable {P : Program} {w0 : World} {n : Nat} {l : cm} {H : Heap} {T : Oper}
theorem Z.nE{t:TypeId}{z:Value}(A:T.op= .alloc t)(B:∀w,(zeroValue t).run P w= .ok z w):Z P w0 n l H T (fun v V=>v= .pointer (some ⟨H.size,0,none⟩)∧Var t V H.size z.cells.toList∧al H V∧∃C,V=H.push C):=by
 intro a w x r;obtain⟨v,V,E,d,ab,j,q⟩:=Z.alloc (P:=P) (w0:=w0) (n:=n) (l:=l) (H:=H) A B a w x r;subst q;exact⟨v,_,E,d,ab,j,Var.new _ _ _,al.pu _ _,_,o⟩
theorem Z.rp{t:TypeId}{x:Operand}{v:Value}(C:T.op= .box t x)(E:aK l x=some v):Z P w0 n l H T (fun r V=>r= .pointer (some ⟨H.size,0,none⟩)∧Var t V H.size v.cells.toList∧al H V∧∃F,V=H.push F):=by
 intro a w B A;obtain⟨v,V,G,d,ab,j,q⟩:=Z.box (P:=P) (w0:=w0) (n:=n) (H:=H) C E a w B A;subst q;exact⟨v,_,G,d,ab,j,Var.new _ _ _,al.pu _ _,_,o⟩
theorem Cg{v:Value}(h:v.oneCell'=true):v.cells.toList=[v]:=by cases v<;>first|(simp[Value.oneCell']at h;done)|rfl
theorem Z.nI{t:TypeId}{x:Operand}{v:Value}(A:T.op= .box t x)(B:aK l x=some v)(d:v.oneCell'=true):Z P w0 n l H T (fun r V=>r= .pointer (some ⟨H.size,0,none⟩)∧Var t V H.size [v]∧al H V∧∃C,V=H.push C):=by
 intro a w q j;obtain⟨r,V,E,bh,bW,cw,ep,gT,j6⟩:=Z.rp (P:=P) (w0:=w0) (n:=n) (H:=H) A B a w q j;rw[Cg d]at ep;exact⟨r,V,E,bh,bW,cw,ep,gT,j6⟩
theorem At.row{w:World}(d:At w0 H w)(g:Nat)(c:Array Value):At w0 (w.setRow g c).heap (w.setRow g c):=⟨o,d.os,d.tape,d.output,d.hg⟩
theorem tZ{w:World}(d:At w0 H w)(g:Nat)(c:Array Value):aa (fun b=>b=g) H (w.setRow g c).heap:=
 ⟨by rw[←d.heap];simp[World.setRow],fun b ao aB=>by rw[←d.heap];exact setRow_other w g b _ (fun e=>aB e)⟩
theorem wN{w:World}(n:At w0 H w){g:Nat}{cur c:Array Value}{e:TypeId}(h:Row H g cur e)(aq:c.size=cur.size):Row (w.setRow g c).heap g c e:=by
 obtain⟨d,j,ab⟩:=h;exact⟨d,setRow_heap w g cur _ e _ (by rw[n.heap];exact j),by rw[aq];exact ab⟩
theorem S.cells{x y:Operand}{t:TypeId}{b i k:Nat}{c:Value}{cs:Array Value}{e:TypeId}(F:T.op= .store t x y)(G:aK l x=some (.pointer (some ⟨b,i,none⟩)))(hy:aK l y=some c)(B:∀u∈c.cells.toList,u.oneCell'=true)
 (ag:∀w,(sizeOf t).run P w= .ok k w)(j:c.cells.size=k)(ao:Row H b cs e)(I:i+k≤cs.size):S P w0 n l H T (fun V=>Row V b (er cs.toList i c.cells.toList).toArray e∧aa (fun g=>g=b) H V):=by
 intro a w q d;obtain⟨A,C,E⟩:=id ao;have r:=qY P b i e A c.cells.toList 0 cs w (by rw[d.heap];exact C) E (by simp[j];omega) B;simp only[mI]at r;refine⟨_,w.setRow b (er cs.toList i c.cells.toList).toArray,?_,d.row _ _,wN d ao (by simp[er,j];omega),tZ d _ _⟩;simp[execOp,F,q.eval G,q.eval hy,Instr.storeAt,Instr.sureAddr,storeVar,j,ag,r,er]
theorem S.var{x y:Operand}{t:TypeId}{b i k:Nat}{c:Value}{cs:List Value}{e:TypeId}(h:Var e H b cs)(d j:List Value)(E:T.op= .store t x y)(F:aK l x=some (.pointer (some ⟨b,i,none⟩)))(hy:aK l y=some c)(aq:c.cells.toList=d)(q:∀u∈d,u.oneCell'=true)
 (ag:∀w,(sizeOf t).run P w= .ok k w)(C:d.length=k)(B:i+k≤cs.length)(G:er cs i d=j):S P w0 n l H T (fun V=>Var e V b j∧aa (fun g=>g=b) H V):=by
 subst aq G;intro a w A r;obtain⟨V,I,bh,bW,cw,ep⟩:=S.cells (P:=P) (w0:=w0) (n:=n) E F hy q ag (by simpa using C) h.row (by simpa using B) a w A r;exact⟨V,I,bh,bW,⟨cw⟩,ep⟩
theorem et {x y : Operand} {t : TypeId} {b i k : Nat} {c : Value} {cs : List Value} {e : TypeId} (h : Var e H b cs) (d : List Value) (j : List Value) (q : ∀u∈d,u.oneCell'=true) (ag : ∀w,(sizeOf t).run P w= .ok k w) (A : d.length=k) (E : er cs i d=j) (B : T.op= .store t x y := by exact rfl) (C : aK l x=some (.pointer (some ⟨b,i,none⟩)) := by exact rfl) (hy : aK l y=some c := by exact rfl) (aq : c.cells.toList=d := by exact rfl) (r : i+k≤cs.length := by decide) : S P w0 n l H T (fun V=>Var e V b j∧aa (fun g=>g=b) H V) := S.var h d j B C hy aq q ag A r E
theorem Oq{cs:List Value}{i:Nat}{c:Value}(h:i<cs.length):er cs i [c]=cs.set i c:=by
 simp[er,List.set_eq_take_append_cons_drop,h]
theorem S.p5{x y:Operand}{t:TypeId}{b:Nat}{c:Value}{cs:List Value}{e:TypeId}(h:Var e H b cs)(i:Nat)(d:List Value)(r:T.op= .store t x y)(A:aK l x=some (.pointer (some ⟨b,i,none⟩)))(hy:aK l y=some c)(j:c.oneCell'=true)
 (ag:∀w,(sizeOf t).run P w= .ok 1 w)(q:i<cs.length)(B:cs.set i c=d):S P w0 n l H T (fun V=>Var e V b d∧aa (fun g=>g=b) H V):=
 S.var h [c] d r A hy (Cg j) (by simpa using j) ag o J ((Oq q).trans B)
theorem du {x y : Operand} {t : TypeId} {b : Nat} {c : Value} {cs : List Value} {e : TypeId} (h : Var e H b cs) (i : Nat) (d : List Value) (ag : ∀w,(sizeOf t).run P w= .ok 1 w) (q : i<cs.length) (B : cs.set i c=d) (r : T.op= .store t x y := by exact rfl) (A : aK l x=some (.pointer (some ⟨b,i,none⟩)) := by exact rfl) (hy : aK l y=some c := by exact rfl) (j : c.oneCell'=true := by exact rfl) : S P w0 n l H T (fun V=>Var e V b d∧aa (fun g=>g=b) H V) := S.p5 h i d r A hy j ag q B
section
variable {α : Type} {aQ F : Nat → Prop} {e : TypeId} {f : α → List Value} {sz : Nat} {v : Value} {xs ys : List α}
theorem FJ{f:α→List Value}{sz:Nat}(q:∀x,(f x).length=sz):∀(l:List α) (j k:Nat) (x y:α) (d post:List Value),l[j]?=some x→k+d.length≤sz→f y=er (f x) k d→er (l.flatMap f++post) (j*sz+k) d=(l.set j y).flatMap f++post
 |[],_,_,_,_,_,_,h,_,_=>by simp at h
 |z::l,0,k,x,y,d,post,h,r,hy=>by
  simp only[List.getElem?_cons_zero,kh]at h;subst h;have n:=q z;simp only[vx,lD,hy,te,jL,er,dA]
  rw[r1 J,vz J]
 |z::l,j+1,k,x,y,d,post,h,r,hy=>by
  simp only[List.getElem?_cons_succ]at h;have:=FJ q l j k x y d post h r hy;have n:=q z;simp only[yG,lD,er,dA]at this⊢;rw[vA,eY (by rw[n,hH];omega),List.drop_append,th (by rw[n,hH];omega),hq,dA];congr 1;rw[show(j+1)*sz+k-(f z).length=j*sz+k by rw[n,hH];omega,show(j+1)*sz+k+d.length-(f z).length=j*sz+k+d.length by rw[n,hH];omega];exact this
theorem S.ML{x y:Operand}{t:TypeId}{c:Value}{m:Nat}(h:Own aQ e H f sz v xs)(j k:Nat)(z:α)(d:List Value)(M:T.op= .store t x y)(B:aK l x=some (.pointer (some ⟨iO v,j*sz+k,none⟩)))(hy:aK l y=some c)(aq:c.cells.toList=d)(C:∀u∈d,u.oneCell'=true)
 (ag:∀w,(sizeOf t).run P w= .ok m w)(hm:d.length=m)(q:j<xs.length)(K:k+m≤sz)(N:f z=er (f xs[j]) k d):S P w0 n l H T (fun V=>Own aQ e V f sz v (xs.set j z)∧aa (fun b=>b=iO v) H V):=by
 subst aq;intro a w G E;rcases h.ex with⟨rfl,rfl⟩|⟨g,cap,cur,A,I,bz,eM,fh,O,fQ⟩
 ·simp at q
 ·have ao:iO v=g:=by rw[A];rfl
  have L:j*sz+k+m≤cur.size:=by
   have:=kN sz (show j+1≤cap by omega);rw[hH]at this;omega
  obtain⟨V,Q,bh,bW,cw,ep⟩:=S.cells (P:=P) (w0:=w0) (n:=n) M (by rw[ao]at B;exact B) hy C ag (by simpa using hm) bz L a w G E;refine⟨V,Q,bh,bW,⟨h.cells,h.one,.inr ⟨g,cap,_,by rw[kk];exact A,I,cw,by rw[kk];exact eM,fh,?_,?_⟩⟩,by rw[ao];exact ep⟩
  ·rw[nU,z_ (by simp at hm⊢;omega)];simpa using O
  ·have r:=length_flatMap h.cells xs
   have F:cur.toList=xs.flatMap f++cur.toList.drop (xs.length*sz):=by rw[←fQ,hY]
   rw[F,FJ h.cells xs j k xs[j] z _ _ (by simp[q]) (by rw[hm];exact K) N,kk,←r];have:=length_flatMap h.cells (xs.set j z);rw[kk]at this;rw[r,←this];exact qD
theorem Own.front{cap:Nat}{ad:Option Addr}{k:Nat}(h:Own aQ e H f sz (.slice ad xs.length cap) xs)(q:k≤xs.length)(r:xs≠[]):Own aQ e H f sz (.slice ad k cap) (xs.take k):=by
 refine⟨h.cells,h.one,?_⟩;rcases h.ex with⟨_,rfl⟩|⟨g,A,cur,j,n,bz,eM,fh,x,fQ⟩
 ·exact absurd o r
 ·simp only[Value.slice.injEq,true_and]at j
  obtain⟨rfl,rfl⟩:=j;have d:(xs.take k).length=k:=by simp;omega
  refine .inr ⟨g,cap,cur,by rw[d],n,bz,by omega,fh,x,?_⟩;rw[d]
  have:(xs.take k).flatMap f=(xs.flatMap f).take (k*sz):=by
   have ab:xs.flatMap f=(xs.take k).flatMap f++(xs.drop k).flatMap f:=by rw[←jq,hY]
   rw[ab,←d,←length_flatMap h.cells (xs.take k),d];rw[qD]
  rw[this,←fQ,r2];congr 1;exact(kl (kN _ q)).symm
end
theorem fold_push(l:List UInt8):∀acc:List UInt8,(l.map (fun b=>(b.toNat:Int))).foldl (fun r n=>r.push (UInt8.ofNat n.toNat)) (ByteArray.mk acc.toArray)=ByteArray.mk (acc++l).toArray:=by
 induction l with
 |nil=>intro acc;simp
 |cons b l ih=>
  intro acc;rw[dk,gX]
  have:(ByteArray.mk acc.toArray).push (UInt8.ofNat ((b.toNat:Int)).toNat)=ByteArray.mk (acc++[b]).toArray:=by
   simp[ByteArray.push]
  rw[this,ih];simp
theorem rO(l:List UInt8):l.flatMap bd=l.map (fun b=>Value.int .u8 b.toNat):=by
 induction l with
 |nil=>rfl
 |cons b l ih=>simp[ih]
theorem yd(s:List UInt8):Array.map (fun b:UInt8=>Value.int .u8 (b.toNat:Int)) s.toArray=(s.flatMap bd).toArray:=by
 rw[rO];simp
theorem Y.qn{F:Nat→Prop}{x:Operand}{t u e:TypeId}{v:Value}{xs:List UInt8}(h:Rd F H bd 1 v xs)(r:T.op= .convert t u x)(L:P.underlying t=some (.slice e))(hu:P.underlying u=some .string)(he:P.underlying e=some (.int .u8))(A:aK l x=some v):Y P w0 n l H T (aN xs):=by
 intro a w d C;obtain⟨ad,cap,rfl,_,_,B⟩:=id h.ex;have aq:=run_convert_bytes_string (P:=P) w t u e ad xs.length cap L he hu
 cases ad with
 |none=>
  have M:xs=[]:=by
   apply k9;intro I;obtain⟨ad,aB,_⟩:=B I;cases aB
  subst M
  have E:(convert t u (.slice none 0 cap)).run P w= .ok (aN []) w:=by
   rw[show(0:Nat)=([]:List UInt8).length from o,aq];rfl
  simp[execOp,r,d.eval A,E]
 |some ad=>
  have K:=h.oY fM o C;have q:=run_loadCells_list (P:=P) w ad (xs.flatMap bd) K;have hlen:(xs.flatMap bd).length=xs.length:=by rw[length_flatMap fM,lE]
  have ao:=run_bytesToString (P:=P) w ad xs.length cap (xs.map (fun b=>(b.toNat:Int))) (by
   rw[hlen]at q;rw[q,rO,l9];rfl)
  have j:=fold_push xs [];simp only[hq]at j;have G:ByteArray.empty=ByteArray.mk ([]:List UInt8).toArray:=rfl;rw[G,j]at ao;simp[execOp,r,d.eval A,aq,ao,aN]
theorem Z.OO{x:Operand}{t u e:TypeId}{ut:TypeDesc}{s:List UInt8}(E:T.op= .convert t u x)(G:P.underlying t=some ut)(hu:P.underlying u=some (.slice e))(he:P.underlying e=some (.int .u8))(I:aK l x=some (aN s))(ao:s.length≤9223372036854775807):
 Z P w0 n l H T (fun r V=>Own (fun b=>b=H.size) e V bd 1 r s∧al H V∧V.size=H.size+1):=by
 intro a w B d;have F:=Lib.run_convert_string_bytes (P:=P) w t u e (ByteArray.mk s.toArray) G hu he;have j:=q4 s;have C:=grownCap_ge w s.length 0 e;have q:grownCap w s.length 0 e≤maxLen:=grownCap_le_maxLen w s.length 0 e (by unfold maxLen;omega)
 have A:(Lib.bytesCells w e (ByteArray.mk s.toArray)).size=grownCap w s.length 0 e:=by
  simp only[Lib.bytesCells,j,yd,Array.size_append,nU,length_flatMap fM,Array.size_replicate,lE];omega
 refine⟨_,(Lib.bytesWorld w e (ByteArray.mk s.toArray)).heap,Lib.bytesWorld w e (ByteArray.mk s.toArray),by simp[execOp,E,B.eval I,F,aN];rfl,⟨o,?_,?_,?_,?_⟩,⟨fM,hh,.inr ⟨w.heap.size,grownCap w s.length 0 e,_,by rw[j],d.heap▸rfl,⟨_,Lib.bytesWorld_at_new w e _,?_⟩,C,q,?_,?_⟩⟩,⟨?_,?_⟩,?_⟩
 ·have:=d.os;simp only[Lib.bytesWorld,World.freeze];exact this
 ·have:=d.tape;simp only[Lib.bytesWorld,World.freeze];exact this
 ·have:=d.output;simp only[Lib.bytesWorld,World.freeze];exact this
 ·have:=d.hg;simp only[Lib.bytesWorld,World.freeze];first|exact this|exact rU this
 ·refine⟨by simp only;omega,?_⟩;intro i K aq;simp only at aq;omega
 ·rw[A,lE]
 ·simp only[Lib.bytesCells,yd,yI]
  rw[←length_flatMap fM s];exact qD
 ·rw[Lib.bytesWorld_size,d.heap];omega
 ·intro b ao _;rw[←d.heap]at ao⊢;exact Lib.bytesWorld_at_old w e _ b ao
 ·rw[Lib.bytesWorld_size,d.heap]
theorem FV(s:List UInt8):Lib.strCells (ByteArray.mk s.toArray)=s.flatMap bd:=by
 rw[rO];simp[Lib.strCells]
theorem NU{w:World}(t u ty e:TypeId)(i:TypeInfo)(G:P.underlying t=some (.slice e))(hu:P.underlying u=some .string)(C:P.info? e=some i)(F:i.size=1)
 (g d n:Nat)(cur:Array Value)(j:Nat×Nat)(B:w.heap[g]?=some (.cells cur e j))(A:qe j cur.size)(s:ByteArray)
 (E:d+s.size≤n)(x:d+s.size≤cur.size):
 (Builtin.append_ #[t,u] ty #[.slice (some ⟨g,0,none⟩) d n,.string s]).run P w=
  .ok (.slice (some ⟨g,0,none⟩) (d+s.size) n) (w.setRow g (cur.toList.take d++Lib.strCells s++cur.toList.drop (d+s.size)).toArray):=by
 have r:=Lib.run_firstCells_string (P:=P) w 1 s;have q:=qY P g d e j (Lib.strCells s) 0 cur w B A (by simpa[Lib.strCells_length]using x) (Lib.strCells_oneCell s);simp only[mI,Lib.strCells_length]at q;simp[Builtin.append_,run_underlying G,run_underlying hu,sizeOf,typeInfo,C,F,Builtin.lenOf,E,r,Addr.add_lit,q]
theorem Z.Ha{aQ:Nat→Prop}{e:TypeId}{v:Value}{xs ys:List UInt8}{s x:Operand}{t u:TypeId}(h:Own aQ e H bd 1 v xs)(K:T.op= .call {callee:= .builtin .append,args:= #[s,x],argTypes:= #[t,u]})
 (ai:hC P t e 1 1) (hu:P.underlying u=some .string) (ag:aK l s=some v) (M:aK l x=some (aN ys)) (hm:xs.length+ys.length≤140737488355328):
 Z P w0 n l H T (fun r V=>Own (fun b=>aQ b∨H.size≤b) e V bd 1 r (xs++ys)∧aa aQ H V):=by
 obtain⟨L,i,z,E,X,W,R,ax⟩:=ai;intro a w q d;have ak:(ys.flatMap bd).length=ys.length:=by rw[length_flatMap fM,lE]
 have U:(xs.flatMap bd).length=xs.length:=by rw[length_flatMap fM,lE]
 have G:=q4 ys
 have grown:∀(B:Nat) (r:Value),B<xs.length+ys.length→r= .slice (some ⟨w.heap.size,0,none⟩) (xs.length+ys.length) (grownCap w (xs.length+ys.length) B e)→∀F,F=Obj.cells (((xs++ys).flatMap bd).toArray++Builtin.zeroCells z.cells (grownCap w (xs.length+ys.length) B e-(xs.length+ys.length))) e→
  At w0 (w.drew.alloc F).heap (w.drew.alloc F)∧Own (fun b=>aQ b∨H.size≤b) e (w.drew.alloc F).heap bd 1 r (xs++ys)∧aa aQ H (w.drew.alloc F).heap:=by
  rintro B r az rfl F rfl;have ae:=grownCap_ge w (xs.length+ys.length) B e;have Y:grownCap w (xs.length+ys.length) B e≤maxLen:=grownCap_le_maxLen w (xs.length+ys.length) B e (by unfold maxLen;omega);have O:At w0 H w.drew:=d.drew;refine⟨⟨o,d.os,d.tape,d.output,O.hg⟩,?_,?_⟩
  ·have:=Own.new (e:=e) (G':=fun b=>aQ b∨H.size≤b) (w:=w.drew) (z:=z) (cap:=grownCap w (xs.length+ys.length) B e) (zs:=xs++ys) h.cells h.one ax (.inr (by rw[O.heap];exact dz _)) (by simpa using ae) Y
   simpa using this
  ·rw[(O.alloc _).heap];exact aa.push _ _ _
 rcases h.ex with⟨rfl,rfl⟩|⟨g,C,cur,rfl,I,bz,eM,fh,ay,fQ⟩
 ·by_cases an:ys.length=0
  ·have av:ys=[]:=mH an
   subst av;refine⟨.slice none 0 0,H,w,?_,d,by simpa using h.imp (fun b _ I=> .inl I),aa.refl _ _⟩;have he:(ByteArray.mk ([]:List UInt8).toArray).size=0:=rfl;simp only[execOp,K];simp[resolve,invoke,builtin,q.eval ag,q.eval M,Builtin.append_,run_underlying L,run_underlying hu,sizeOf,typeInfo,E,Builtin.lenOf,Builtin.firstCells,aN,he]
  ·simp only[je,jL]at hm
   have A:=run_append_nil_string (P:=P) w t u T.type e i z L hu E X (ByteArray.mk ys.toArray) J J (by rw[G,R];omega);rw[G,yd]at A;have:=grown 0 _ b2 o _ o;simp only[je,jL,hq]at this;exact⟨_,_,_,by simp[execOp,K,resolve,invoke,builtin,q.eval ag,q.eval M,aN,A],this.1,this.2.1,this.2.2⟩
 ·obtain⟨N,af,Q⟩:=id bz
  have S:w.heap[g]?=some (.cells cur e N):=by rw[d.heap];exact af
  rw[lE]at ay fQ;by_cases ar:xs.length+ys.length≤C
  ·have A:=NU (P:=P) (w:=w) t u T.type e i L hu E W g xs.length C cur N S Q (ByteArray.mk ys.toArray) J J
   rw[G,FV]at A;refine⟨.slice (some ⟨g,0,none⟩) (xs.length+ys.length) C,(w.setRow g (cur.toList.take xs.length++ys.flatMap bd++cur.toList.drop (xs.length+ys.length)).toArray).heap,w.setRow g (cur.toList.take xs.length++ys.flatMap bd++cur.toList.drop (xs.length+ys.length)).toArray,by simp[execOp,K,resolve,invoke,builtin,q.eval ag,q.eval M,aN,A],⟨o,d.os,d.tape,d.output,d.hg⟩,⟨h.cells,h.one,.inr ⟨g,C,_,by rw[bT],.inl I,⟨N,setRow_heap w g cur _ e _ S,Q.1,fun i E=>Q.2 i (by simp only[nU,bT,eJ,ia,l8]at E;omega)⟩,by simpa using ar,fh,?_,?_⟩⟩,⟨by rw[←d.heap];simp[World.setRow],fun b ao aB=>?_⟩⟩
   ·simp only[nU,bT,eJ,ia,l8]
    omega
   ·rw[fQ,bT,lE,jq]
    have:xs.length+ys.length=(xs.flatMap bd++ys.flatMap bd).length:=by rw[bT,ak,U]
    rw[this];exact qD
   ·rw[←d.heap];exact setRow_other w g b _ (fun e=>aB (e▸I))
  ·have holds:∀j c,(xs.flatMap bd)[j]?=some c→w.cell? ((⟨g,0,none⟩:Addr).add j)=some c:=h.rd.oY h.cells o d
   have A:=Lib.run_append_grow_string (P:=P) w t u T.type e i z L hu E X ⟨g,0,none⟩ xs.length C (xs.flatMap bd) (by rw[U,W,lE]) holds (ByteArray.mk ys.toArray) J J (by rw[G,R];exact growslice_fits J J);rw[G,FV]at A;have:=grown C _ J o _ o;rw[jq,←List.append_toArray]at this;exact⟨_,_,_,by simp[execOp,K,resolve,invoke,builtin,q.eval ag,q.eval M,aN,A],this.1,this.2.1,this.2.2⟩
end
end E
namespace E
theorem Rd.I_{α:Type}{F:Nat→Prop}{H:Heap}{f:α→List Value}{sz:Nat}{v:Value}{l:List α}(h:Rd F H f sz v l):v.cells.toList=[v]:=by
 obtain⟨a,cap,rfl,_⟩:=h.ex;rfl
structure aY {α:Type} (k:Nat) (e:TypeId) (H:Heap) (f:α→List Value) (sz:Nat) (v:Value) (l:List α):Prop where
 own:Own (fun b=>b+1=k) e H f sz v l
 le:k≤H.size
section
variable {α : Type} {k : Nat} {e : TypeId} {H V : Heap} {f : α → List Value} {sz : Nat} {v : Value} {l : List α}
theorem aY.rd(h:aY k e H f sz v l):Rd (fun b=>b+1=k) H f sz v l:=h.own.rd
theorem aY.len(h:aY k e H f sz v l):l.length≤9223372036854775807:=h.own.len
theorem aY.bA(h:aY k e H f sz v l):(cF v).v=v:=h.own.bA
theorem aY.up{S:Nat→Prop}(h:aY k e H f sz v l)(s:aa S H V)(d:∀b,b<H.size→b+1=k→¬S b):aY k e V f sz v l:=⟨h.own.up s d,fg h.le s.size⟩
theorem aY.aR(h:aY k e H f sz v l)(s:al H V):aY k e V f sz v l:=h.up s (fun _ _ _ e=>e)
theorem aY.nil(j:∀x,(f x).length=sz)(d:∀x,∀u∈f x,u.oneCell'=true):aY 0 e H f sz (.slice none 0 0) ([]:List α):=⟨Own.nil j d,iT _⟩
theorem aY.of{aQ:Nat→Prop}(h:Own aQ e H f sz v l):∃k,aY k e H f sz v l∧(k=0∨∃g,k=g+1∧aQ g):=by
 rcases h.ex with⟨rfl,rfl⟩|⟨g,cap,cur,j,d,bz,r⟩
 ·exact⟨0,⟨⟨h.cells,h.one,.inl ⟨o,o⟩⟩,iT _⟩,.inl o⟩
 ·exact⟨g+1,⟨⟨h.cells,h.one,.inr ⟨g,cap,cur,j,o,bz,r⟩⟩,bz.lt⟩,.inr ⟨g,o,d⟩⟩
theorem aY.at{j:Nat}(h:aY k e H f sz v l)(d:j<l.length):iO v+1=k:=(h.own.at d).1
theorem aY.W{j:Nat}(h:aY k e H f sz v l)(d:j<l.length):cz H ⟨iO v,j*sz,none⟩ (f l[j]):=h.own.W d
end
def ak(a b:Nat):Prop:=∀c,c+1=a→c+1≠b
def ae(k h a_:Nat):Prop:=a_=0∨a_=k∨h<a_
def ay(ks:List Nat):Nat→Prop:=fun c=>c+1∈ks
def au(a:Nat)(ks:List Nat):Prop:=∀k∈ks,ak a k
def ax(F:Nat→Prop)(k:Nat):Prop:=∀b,F b→b+1≠k
def bp(F:Nat→Prop)(h:Nat):Prop:=∀b,F b→b<h
def aS(F:Nat→Prop)(ks:List Nat):Prop:=∀k∈ks,ax F k
def an(ks:List Nat)(h k:Nat):Prop:=∀b,b<h→b+1=k→ay ks b
def ar(ks:List Nat)(h:Nat)(k8:List Nat):Prop:=∀k∈k8,an ks h k
section
variable {a b k a_ iR h ab : Nat} {ks k8 : List Nat} {F : Nat → Prop}
theorem ak.symm(d:ak a b):ak b a:=fun c j ab=>d c ab j
theorem ak.new(j:a≤h):ak a (h+1):=fun c d ab=>by omega
theorem ak.z:ak a 0:=fun c d ab=>by omega
theorem ak.z2:ak 0 a:=fun c d ab=>by omega
theorem ak.app(d:ak a k)(q:a≤h)(j:ae k h a_):ak a a_:=fun c n ab=>by
 rcases j with rfl|rfl|j
 ·omega
 ·exact d c n ab
 ·omega
theorem ak.ne(d:ak (a+1) (b+1)):a≠b:=fun e=>d a o (by rw[e])
theorem ak.of(d:a≠b):ak (a+1) (b+1):=fun c j ab=>by omega
theorem gQ (d : a≠b := by omega) : ak (a+1) (b+1) := ak.of d
theorem ae.refl(k h:Nat):ae k h k:= .inr (.inl o)
theorem ae.new(bz:h≤ab):ae 0 h (ab+1):= .inr (.inr J)
theorem ae.O(x:ae k h a_)(y:ae a_ ab iR)(bz:h≤ab):ae k h iR:=by
 unfold ae at*;omega
theorem au.nil:au a []:=fun k d=>by cases d
theorem au.cons(d:ak a k)(e:au a ks):au a (k::ks):=fun j n=>by
 rcases dU.1 n with rfl|n
 ·exact d
 ·exact e j n
theorem aS.nil:aS F []:=fun k d=>by cases d
theorem aS.cons(d:ax F k)(e:aS F ks):aS F (k::ks):=fun j n=>by
 rcases dU.1 n with rfl|n
 ·exact d
 ·exact e j n
theorem ax.new(ao:bp F h):ax F (h+1):=fun b d ab=>by have:=ao b d;omega
theorem ax.z:ax F 0:=fun b d ab=>by omega
theorem ax.app(d:ax F k)(ao:bp F h)(n:ae k h a_):ax F a_:=fun b j ab=>by
 have:=ao b j;rcases n with rfl|rfl|n
 ·omega
 ·exact d b j ab
 ·omega
theorem bp.of(le:k≤h):bp (fun b=>b+1=k) h:=fun b e=>by simp only at e;omega
theorem ax.of(d:ak a k):ax (fun b=>b+1=a) k:=fun b e=>d (b+1-1) (by simp only at e;omega)
theorem bp.mono(ao:bp F h)(bz:h≤ab):bp F ab:=fun b d=>l7 (ao b d) bz
theorem an.root(hm:k∈ks):an ks h k:=fun b _ ab=>by unfold ay;rw[ab];exact hm
theorem an.z:an ks h 0:=fun b d ab=>by omega
theorem an.new(bz:h≤ab):an ks h (ab+1):=fun b d j=>by omega
theorem o6 (bz : h≤ab := by omega) : an ks h (ab+1) := an.new bz
theorem an.app(x:an ks h k)(d:ae k ab a_)(bz:h≤ab):an ks h a_:=fun b j n=>by
 rcases d with rfl|rfl|d
 ·omega
 ·exact x b j n
 ·omega
theorem ar.nil:ar ks h []:=fun k d=>by cases d
theorem ar.cons(d:an ks h k)(e:ar ks h k8):ar ks h (k::k8):=fun j n=>by
 rcases dU.1 n with rfl|n
 ·exact d
 ·exact e j n
theorem aa.md{H V:Heap}(s:aa (fun b=>b+1=k) H V):aa (ay [k]) H V:=s.weaken (fun b _ e=>by unfold ay;simp;exact e)
theorem aa.e3{H V:Heap}(s:aa (fun g=>g=b) H V):aa (ay [b+1]) H V:=s.weaken (fun c _ e=>by unfold ay;simp;exact e)
theorem aa.nm{H V:Heap}(s:al H V)(ks:List Nat):aa (ay ks) H V:=s.weaken (fun c _ e=>e.elim)
theorem aa.nil{H V:Heap}(s:aa (ay []) H V):al H V:=s.weaken (fun c _ e=>by cases e)
theorem aa.bt{N H V:Heap}(x:aa (ay ks) N H)(s:aa (ay k8) H V)(d:ar ks N.size k8):aa (ay ks) N V:=
 aa.trans x s (fun _ _ e=>e) (fun b ao e=>d (b+1) e b ao o)
theorem aa.q5{N H V:Heap}(x:aa (ay ks) N H)(s:al H V):aa (ay ks) N V:=aa.trans x s (fun _ _ e=>e) (fun _ _ e=>e.elim)
theorem aY.aJ{α:Type}{e:TypeId}{H V:Heap}{f:α→List Value}{sz:Nat}{v:Value}{l:List α}(x:aY a e H f sz v l)(s:aa (ay ks) H V)(d:au a ks):aY a e V f sz v l:=
 x.up s (fun b _ j ab=>d (b+1) ab b j o)
theorem Var.aJ{e:TypeId}{H V:Heap}{cs:List Value}(x:Var e H b cs)(s:aa (ay ks) H V)(d:au (b+1) ks):Var e V b cs:=x.up s (fun ab=>d (b+1) ab b o o)
theorem Rd.ch{α:Type}{H:Heap}{f:α→List Value}{sz:Nat}{v:Value}{l:List α}(x:Rd F H f sz v l):Rd (fun b=>F b∧b<H.size) H f sz v l:=x.imp (fun b ao h=>⟨h,ao⟩)
theorem Rd.cD{α:Type}{H:Heap}{f:α→List Value}{sz:Nat}{v:Value}{l:List α}{aQ:Nat→Prop}(x:Rd (fun b=>aQ b∧b<h) H f sz v l):bp (fun b=>aQ b∧b<h) h:=fun b e=>e.2
theorem Rd.aJ{α:Type}{H V:Heap}{f:α→List Value}{sz:Nat}{v:Value}{l:List α}(x:Rd F H f sz v l)(s:aa (ay ks) H V)(d:aS F ks):Rd F V f sz v l:=
 x.up s (fun b _ j ab=>d (b+1) ab b j o)
end
structure k0 {α:Type} (k:Nat) (H:Heap) (f:α→List Value) (sz:Nat) (v:Value) (l:List α):Prop where
 rd:Rd (fun b=>b+1=k) H f sz v l
 le:k≤H.size
section
variable {α : Type} {k : Nat} {ks : List Nat} {e : TypeId} {H V : Heap} {f : α → List Value} {sz : Nat} {v : Value} {l : List α}
theorem k0.aR(h:k0 k H f sz v l)(s:al H V):k0 k V f sz v l:=⟨h.rd.aR s,fg h.le s.size⟩
theorem k0.aJ(h:k0 k H f sz v l)(s:aa (ay ks) H V)(d:au k ks):k0 k V f sz v l:=⟨h.rd.up s (fun b _ j ab=>d (b+1) ab b j o),fg h.le s.size⟩
theorem aY.q(h:aY k e H f sz v l):k0 k H f sz v l:=⟨h.rd,h.le⟩
end
section
variable {P : Program} {w0 : World} {n : Nat} {l : cm} {H : Heap} {T : Oper} {α : Type} {k : Nat} {e : TypeId} {f : α → List Value} {sz : Nat} {v : Value} {xs ys : List α}
theorem Y.cast{v v2:Value}(h:Y P w0 n l H T v)(e:v=v2):Y P w0 n l H T v2:=e▸h
theorem G.yz{Q:Exit→Act→World→Prop}{ops:Array Oper}{rest:List Oper}{m:Bool}{d j q:Nat}{b:Bool}(E:T.guard=some (j,b))(F:(ops[j]?).bind (·.dst)=some q)(aq:c6 l q=some undef)
 (ah:T.dst=some d)(aB:Nat.blt d n=true)(h:G m P w0 ops Q n ((d,undef)::l) rest H):G m P w0 ops Q n l (T::rest) H:=by
 intro a w r C
 have hw:Region.wanted T (yielded ops a.tmps)=false:=by
  have A:=r.get q _ aq;have ab:(ops[j]?).bind (fun T=>T.dst)=some q:=F
  have B:yielded ops a.tmps j=none:=by
   unfold yielded;rw[ab];simp[A,undef]
  simp[Region.wanted,E,B]
 have x:=r.put aB undef;rw[←ah]at x;have bz:=h _ w x C;cases m
 ·simp only[lX]at bz⊢
  unfold wpList;rw[aA (by simp[hw])];exact bz
 ·simp only[lX]at bz⊢
  unfold wpStill;rw[aA (by simp[hw])];exact bz
theorem il {Q : Exit→Act→World→Prop} {ops : Array Oper} {rest : List Oper} {m : Bool} {d j q : Nat} {b : Bool} (h : G m P w0 ops Q n ((d,undef)::l) rest H) (r : T.guard=some (j,b) := by exact rfl) (x : (ops[j]?).bind (·.dst)=some q := by exact rfl) (aq : c6 l q=some undef := by exact rfl) (ah : T.dst=some d := by exact rfl) (aB : Nat.blt d n=true := by exact rfl) : G m P w0 ops Q n l (T::rest) H := G.yz r x aq ah aB h
theorem Z.mono{d j:Value→Heap→Prop}(h:Z P w0 n l H T d)(B:∀v V,d v V→j v V):Z P w0 n l H T j:=by
 intro a w A x;obtain⟨v,V,C,q,ab,r⟩:=h a w A x;exact⟨v,V,C,q,ab,B _ _ r⟩
theorem S.mono{d j:Heap→Prop}(h:S P w0 n l H T d)(B:∀V,d V→j V):S P w0 n l H T j:=by
 intro a w A x;obtain⟨V,C,q,ab,r⟩:=h a w A x;exact⟨V,C,q,ab,B _ r⟩
theorem Z.uM{F:Nat→Prop}{s x:Operand}{t:TypeId}{u:Value}{bytes:Nat}(h:aY k e H f sz v xs)(E:Rd F H f sz u ys)(C:T.op= .call {callee:= .builtin .append,args:= #[s,x],argTypes:= #[t,t]})
 (B:hC P t e sz bytes) (ag:aK l s=some v) (G:aK l x=some u) (ao:(xs.length+ys.length)*bytes≤140737488355328) (hm:xs.length+ys.length≤9223372036854775807):
 Z P w0 n l H T (fun r V=>∃d,aY d e V f sz r (xs++ys)∧(d=0∨d=k∨H.size<d)∧aa (fun b=>b+1=k) H V):=
 (Z.append h.own E C B ag G ao hm).mono fun r V ⟨j,ab⟩=>by
  obtain⟨d,q,A⟩:=aY.of j;refine⟨d,q,?_,ab⟩;rcases A with rfl|⟨g,rfl,I⟩
  ·exact .inl o
  ·omega
theorem eO {F : Nat→Prop} {s x : Operand} {t : TypeId} {u : Value} {bytes : Nat} (h : aY k e H f sz v xs) (A : Rd F H f sz u ys) (j : hC P t e sz bytes) (ao : (xs.length+ys.length)*bytes≤140737488355328) (hm : xs.length+ys.length≤9223372036854775807) (q : T.op= .call {callee:= .builtin .append,args:= #[s,x],argTypes:= #[t,t]} := by exact rfl) (ag : aK l s=some v := by exact rfl) (B : aK l x=some u := by exact rfl) : Z P w0 n l H T (fun r V=>∃d,aY d e V f sz r (xs++ys)∧(d=0∨d=k∨H.size<d)∧aa (fun b=>b+1=k) H V) := Z.uM h A q j ag B ao hm
theorem Z.uN{v:Value}{xs ys:List UInt8}{s x:Operand}{t u:TypeId}(h:aY k e H bd 1 v xs)(C:T.op= .call {callee:= .builtin .append,args:= #[s,x],argTypes:= #[t,u]})
 (B:hC P t e 1 1) (hu:P.underlying u=some .string) (ag:aK l s=some v) (E:aK l x=some (aN ys)) (hm:xs.length+ys.length≤140737488355328):
 Z P w0 n l H T (fun r V=>∃d,aY d e V bd 1 r (xs++ys)∧(d=0∨d=k∨H.size<d)∧aa (fun b=>b+1=k) H V):=
 (Z.Ha h.own C B hu ag E hm).mono fun r V ⟨j,ab⟩=>by
  obtain⟨d,q,A⟩:=aY.of j;refine⟨d,q,?_,ab⟩;rcases A with rfl|⟨g,rfl,F⟩
  ·exact .inl o
  ·omega
theorem aY.new{aQ:Nat→Prop}{V:Heap}{c:Obj}(d:∀b,aQ b→b=H.size)(h:Own aQ e V f sz v xs)(aq:V=H.push c):aY (H.size+1) e V f sz v xs:=
 ⟨h.imp (fun b _ ao=>by rw[d b ao]),by rw[aq];simp⟩
theorem Z.DW{t:TypeId}{k bytes:Nat}{parts:List (Nat×Operand)}(d:List Value)(zs:List α)(G:T.op= .buildSlice t k parts.toArray)(B:hC P t e sz bytes)(I:iA l (parts.map (·.2))=some d)(A:parts.map (·.1)=List.range k)(C:d.length=k)(F:k*sz≤16777216)(E:k≤16777216)
 (aq:∀x,(f x).length=sz)(j:∀x,∀u∈f x,u.oneCell'=true)(K:d.map (fun v=>v.cells.toList)=zs.map f):
 Z P w0 n l H T (fun r V=>aY (H.size+1) e V f sz r zs∧al H V∧∃c,V=H.push c):=
 (Z.lit d zs G B I A C F E aq j K).mono fun r V ⟨j,ab,c,q⟩=>⟨aY.new (fun _ e=>e) j q,ab,c,q⟩
theorem dE {t : TypeId} {k bytes : Nat} {parts : List (Nat×Operand)} (d : List Value) (zs : List α) (A : hC P t e sz bytes) (aq : ∀x,(f x).length=sz) (j : ∀x,∀u∈f x,u.oneCell'=true) (F : T.op= .buildSlice t k parts.toArray := by exact rfl) (G : iA l (parts.map (·.2))=some d := by exact rfl) (q : parts.map (·.1)=List.range k := by exact rfl) (B : d.length=k := by exact rfl) (E : k*sz≤16777216 := by decide) (C : k≤16777216 := by decide) (I : d.map (fun v=>v.cells.toList)=zs.map f := by exact rfl) : Z P w0 n l H T (fun r V=>aY (H.size+1) e V f sz r zs∧al H V∧∃c,V=H.push c) := Z.DW d zs F A G q B E C aq j I
theorem Z.Lw{t e:TypeId}{bytes:Nat}{x c:Operand}{L K:IntKind}{c9:Int}{z:Value}(k:Nat)(z0:α)(E:T.op= .makeSlice t x c)(A:hC P t e sz bytes)(G:∀w,(zeroValue e).run P w= .ok z w)(I:f z0=z.cells.toList)
 (aq:∀x,(f x).length=sz)(d:∀x,∀u∈f x,u.oneCell'=true)(F:aK l x=some (.int L c9))(q:aK l c=some (.int K c9))(B:c9=k)(ao:(bytes:Int)*k≤281474976710656)(C:k≤9223372036854775807):
 Z P w0 n l H T (fun r V=>aY (H.size+1) e V f sz r (List.replicate k z0)∧al H V∧∃M,V=H.push M):=
 (Z.makeSlice k z0 E A G I aq d F q B ao C).mono fun r V ⟨d,ab,c,j⟩=>⟨aY.new (fun _ e=>e) d j,ab,c,j⟩
theorem Z.Af{x:Operand}{t u e:TypeId}{ut:TypeDesc}{s:List UInt8}(q:T.op= .convert t u x)(A:P.underlying t=some ut)(hu:P.underlying u=some (.slice e))(he:P.underlying e=some (.int .u8))(B:aK l x=some (aN s))(ao:s.length≤9223372036854775807):
 Z P w0 n l H T (fun r V=>aY (H.size+1) e V bd 1 r s∧al H V∧V.size=H.size+1):=
 (Z.OO q A hu he B ao).mono fun r V ⟨j,ab,d⟩=>⟨⟨j.imp (fun b _ ao=>by rw[ao]),by rw[d];exact dz _⟩,ab,d⟩
theorem Y.wx{x i:Operand}{t:TypeId}{a_:IntKind}{aF:Int}(h:aY k e H f sz v xs)(j:Nat)(A:T.op= .indexAddr t x i)(B:∀w,(underlying t).run P w= .ok (.slice e) w)(ag:∀w,(sizeOf e).run P w= .ok sz w)
 (C:aK l x=some v)(d:aK l i=some (.int a_ aF))(q:aF=j)(r:j<xs.length):Y P w0 n l H T (.pointer (some ⟨iO v,j*sz,none⟩)):=Y.MK h.own j A B ag C d q r
theorem mo {x i : Operand} {t : TypeId} {a_ : IntKind} {aF : Int} (h : aY k e H f sz v xs) (j : Nat) (B : ∀w,(underlying t).run P w= .ok (.slice e) w) (ag : ∀w,(sizeOf e).run P w= .ok sz w) (A : T.op= .indexAddr t x i := by exact rfl) (C : aK l x=some v := by exact rfl) (d : aK l i=some (.int a_ aF) := by exact rfl) (q : aF=j := by first|rfl|omega) (r : j<xs.length := by first|omega|(simp;omega)|(simp;done)) : Y P w0 n l H T (.pointer (some ⟨iO v,j*sz,none⟩)) := Y.wx h j A B ag C d q r
theorem Y.MI{x q:Operand}{t A:TypeId}{a_:IntKind}{aF:Int}(h:aY k e H f sz v xs)(j:Nat)(N:T.op= .slice t x none (some q) none)(O:∀w,(underlying t).run P w= .ok (.slice A) w)(ag:∀w,(sizeOf A).run P w= .ok sz w)
 (Q:aK l x=some v)(K:aK l q=some (.int a_ aF))(M:aF=j)(d:j≤xs.length):∃G,(∀V,Y P w0 n l V T G)∧aY k e H f sz G (xs.take j):=by
 have run:∀(a:Option Addr) (len cap:Nat),v= .slice a len cap→j≤len→len≤cap→(∀ad,a=some ad→ad.spot=none)→∀V,Y P w0 n l V T (.slice a j cap):=by
  rintro a len cap rfl S ab C V ac w E U
  have aP:∀w,(Instr.sliceBounds true len cap none (some (ac.eval q)) none).run P w= .ok (0,j,cap) w:=by
   intro w;have R:j≤cap:=by omega
   subst M;simp[Instr.sliceBounds,Instr.sliceBound,asIntOf,E.eval K, *]
  have I:(if cap=0 then a else a.map (·.add (0*sz)))=a:=by
   cases a with
   |none=>simp
   |some ad=>simp[add_eq (C ad o)];intro _;obtain⟨b,T,s⟩:=ad;have:=C _ o;simp at this;rw[this]
  have B:=I;simp only[te]at B;simp[execOp,N,E.eval Q,Instr.sliceAt,Instr.slice,O,ag,aP,B]
 rcases h.own.ex with⟨rfl,rfl⟩|⟨g,cap,cur,r,W,bz,eM,fh,X,fQ⟩
 ·refine⟨.slice none j 0,run none 0 0 o (by simpa using d) (dz _) (fun ad e=>by cases e),?_⟩
  have:j=0:=by simpa using d
  subst this
  simpa using h
 ·refine⟨.slice (some ⟨g,0,none⟩) j cap,run _ _ _ r d eM (fun ad e=>by rw[←l6 e]),⟨?_,h.le⟩⟩
  by_cases F:xs=[]
  ·subst F
   have L:j=0:=by simpa using d
   subst L;have:=h.own;rw[r]at this
   simpa using this
  ·have ab:=h.own
   rw[r]at ab;exact ab.front d F
theorem S.MN{x y:Operand}{t:TypeId}{c:Value}(h:aY k e H f sz v xs)(j i:Nat)(z:α)(A:T.op= .store t x y)(B:aK l x=some (.pointer (some ⟨iO v,j*sz+i,none⟩)))(hy:aK l y=some c)(d:c.oneCell'=true)
 (ag:∀w,(sizeOf t).run P w= .ok 1 w)(q:j<xs.length)(r:i<sz)(C:f z=(f xs[j]).set i c):S P w0 n l H T (fun V=>aY k e V f sz v (xs.set j z)∧aa (fun b=>b+1=k) H V):=
 (S.own h.own j i z A B hy d ag q r C).mono fun V ⟨d,ab⟩=>⟨⟨d,fg h.le ab.size⟩,ab.weaken (fun b _ e=>by have:=h.at q;omega)⟩
theorem S.zC{x y:Operand}{t:TypeId}{c:Value}{m:Nat}(h:aY k e H f sz v xs)(j i:Nat)(z:α)(d:List Value)(B:T.op= .store t x y)(C:aK l x=some (.pointer (some ⟨iO v,j*sz+i,none⟩)))(hy:aK l y=some c)(aq:c.cells.toList=d)(q:∀u∈d,u.oneCell'=true)
 (ag:∀w,(sizeOf t).run P w= .ok m w)(hm:d.length=m)(r:j<xs.length)(A:i+m≤sz)(E:f z=er (f xs[j]) i d):S P w0 n l H T (fun V=>aY k e V f sz v (xs.set j z)∧aa (fun b=>b+1=k) H V):=
 (S.ML h.own j i z d B C hy aq q ag hm r A E).mono fun V ⟨q,ab⟩=>⟨⟨q,fg h.le ab.size⟩,ab.weaken (fun b _ e=>by have:=h.at r;omega)⟩
theorem Y.peq{x y:Operand}{t u:TypeId}{p:Option Addr}(j:T.op= .binOp .eql t x y u)(q:P.underlying t=some (.pointer (P.pointee t)))(hm:P.eqGuardType P.depth t=false)(r:aK l x=some (.pointer p))(hy:aK l y=some (.pointer none)):Y P w0 n l H T (.bool p.isNone):=by
 intro a w d A;have h:=run_equal_pointer_nil (w:=w) t p q;simp[execOp,j,d.eval r,d.eval hy,binOp,eqGuard,h]
theorem Y.wD{x y:Operand}{t u:TypeId}{p:Option Addr}(j:T.op= .binOp .neq t x y u)(q:P.underlying t=some (.pointer (P.pointee t)))(hm:P.eqGuardType P.depth t=false)(r:aK l x=some (.pointer p))(hy:aK l y=some (.pointer none)):Y P w0 n l H T (.bool p.isSome):=by
 intro a w d A;have h:=run_equal_pointer_nil (w:=w) t p q;simp[execOp,j,d.eval r,d.eval hy,binOp,eqGuard,h]
theorem Y.ub{x y:Operand}{t u e:TypeId}{p:Option Addr}{k c:Nat}(j:T.op= .binOp .eql t x y u)(q:P.underlying t=some (.slice e))(r:aK l x=some (.slice p k c))(hy:aK l y=some (.slice none 0 0)):Y P w0 n l H T (.bool p.isNone):=by
 intro a w d A;have h:=run_equal_slice_nil (w:=w) t e p k c q;simp[execOp,j,d.eval r,d.eval hy,binOp,eqGuard,h]
theorem Z.Br{a_:Nat}{x:Operand}{t e:TypeId}{v:Value}{xs:List UInt8}(h:aY a_ e H bd 1 v xs)(M:xs≠[])(N:T.op= .convert t t x)(U:P.underlying t=some (.slice e))(he:P.underlying e=some (.int .u8))(W:aK l x=some v):
 Z P w0 n l H T (fun r V=>r=v∧aY a_ e V bd 1 v xs∧aa (fun b=>b+1=a_) H V):=by
 intro a w E d;rcases h.own.ex with⟨rfl,rfl⟩|⟨g,cap,cur,C,G,bz,eM,fh,X,fQ⟩
 ·exact absurd o M
 ·obtain⟨⟨j,q⟩,bz,Q,A⟩:=bz
  simp only at Q A;have hw:w.heap[g]?=some (.cells cur e (j,q)):=by rw[d.heap];exact bz
  have R:w.shape? g=some (e,cur.size):=by unfold World.shape?;rw[hw]
  have O:(execOp a.eval T).run P w= .ok (.value v) (w.freeze ⟨g,cur.size,none⟩ 1):=by
   simp[execOp,N,E.eval W,C,convert,run_underlying U,run_underlying he,markStringish,R]
  have F:(w.freeze ⟨g,cur.size,none⟩ 1).heap[g]?=some (.cells cur e (if j==q then(cur.size,cur.size+1)else(min j cur.size,max q (cur.size+1)))):=by
   unfold World.freeze;rw[aA bc];simp[Array.getElem?_modify,hw]
  have L:aa (fun b=>b+1=a_) H (w.freeze ⟨g,cur.size,none⟩ 1).heap:=by
   unfold World.freeze;rw[aA bc];refine⟨by simp[d.heap],fun b ao Y=>?_⟩;simp only[Array.getElem?_modify,d.heap];rw[aA J]
  have S:(w.freeze ⟨g,cur.size,none⟩ 1).heap.size=H.size:=by
   unfold World.freeze;rw[aA bc];simp[d.heap]
  refine⟨v,_,_,O,⟨o,?_,?_,?_,?_⟩,o,⟨⟨h.own.cells,h.own.one,.inr ⟨g,cap,cur,C,G,⟨_,F,?_⟩,eM,fh,X,fQ⟩⟩,by rw[S];exact h.le⟩,L⟩
  ·have:=d.os;unfold World.freeze;rw[aA bc];exact this
  ·have:=d.tape;unfold World.freeze;rw[aA bc];exact this
  ·have:=d.output;unfold World.freeze;rw[aA bc];exact this
  ·have:=d.hg;unfold World.freeze;rw[aA bc];exact this
  ·by_cases B:j=q
   ·subst B
    simp only[beq_self_eq_true,if_true];refine⟨by simp only;omega,fun i I aq=>?_⟩;simp only at aq;omega
   ·rw[aA (by simpa using B)]
    refine⟨by simp only;omega,fun i I aq=>?_⟩;simp only at aq;have:=A j;by_cases K:j<cur.size
    ·have:=A j K;omega
    ·omega
end
section
variable {m a b : Nat} {F S : Nat → Prop} {α : Type} {e : TypeId} {N H V : Heap} {f : α → List Value} {sz : Nat} {v : Value} {l : List α} {cs : List Value}
theorem ax.jV{k n:Nat}(d:∀b,F b→n≤b)(j:k≤n):ax F k:=fun b h e=>by have:=d b h;omega
end
section
variable {P : Program} {w0 : World} {n : Nat} {l : cm} {H : Heap} {T : Oper} {α : Type} {e : TypeId} {f : α → List Value} {sz : Nat}
end
structure lr (F:Nat→Prop) (H:Heap) (ad:Addr) (cs:List Value):Prop where
 W:cz H ad cs
 f:F ad.block
section
variable {F : Nat → Prop} {H V : Heap} {ad : Addr} {cs : List Value} {ks : List Nat} {m : Nat}
theorem lr.aR(h:lr F H ad cs)(s:al H V):lr F V ad cs:=⟨h.W.aR s,h.f⟩
theorem lr.aJ(h:lr F H ad cs)(s:aa (ay ks) H V)(d:aS F ks):lr F V ad cs:=⟨h.W.up s (fun e=>d _ e _ h.f o),h.f⟩
end
section
variable {P : Program} {w0 : World} {n : Nat} {l : cm} {H : Heap} {T : Oper} {α : Type} {F : Nat → Prop} {f : α → List Value} {sz : Nat} {v : Value} {xs : List α}
theorem Y.pC{x i:Operand}{t e:TypeId}{k:IntKind}{aF:Int}(h:Rd F H f sz v xs)(j:Nat)(K:T.op= .indexAddr t x i)(L:∀w,(underlying t).run P w= .ok (.slice e) w)(ag:∀w,(sizeOf e).run P w= .ok sz w)
 (M:aK l x=some v)(G:aK l i=some (.int k aF))(I:aF=j)(d:j<xs.length):∃ad,(∀V,Y P w0 n l V T (.pointer (some ad)))∧lr F H ad (f xs[j]):=by
 obtain⟨a,cap,rfl,N,ab,E⟩:=h.ex;obtain⟨ad,rfl,r,A,B,C⟩:=E (by intro e;subst e;simp at d);subst I;refine⟨_,?_,C j xs[j] (by simp[d]),by first|exact A|exact B⟩;intro V ac w q O;simp[execOp,K,q.eval M,q.eval G,Instr.indexAt,asIntOf,L,ag,d,add_eq r]
end
class cr (p:Prop) (H V:Heap) (q:outParam Prop):Prop where
 aR:al H V→p→q
class ct (p:Prop) (H V:Heap) (q:outParam Prop) (E:outParam (Nat→Prop)):Prop where
 up:∀{k:Nat},aa (ay [k]) H V→p→E k→q
class jb (S:Nat→Prop) (k:outParam Nat):Prop where
 h:∀b,S b→b+1=k
section
variable {α : Type} {e : TypeId} {f : α → List Value} {sz a b k : Nat} {v : Value} {l : List α} {cs ds : List Value} {F S : Nat → Prop} {ad : Addr} {ks : List Nat} {N H V : Heap}
theorem au.T(d:ak a k):au a [k]:=au.cons d au.nil
theorem aS.T(d:ax F k):aS F [k]:=aS.cons d aS.nil
theorem ar.T{h:Nat}(d:an ks h k):ar ks h [k]:=ar.cons d ar.nil
instance:cr (Var e H b cs) H V (Var e V b cs):=⟨fun s h=>h.aR s⟩
instance:cr (aY a e H f sz v l) H V (aY a e V f sz v l):=⟨fun s h=>h.aR s⟩
instance:cr (k0 a H f sz v l) H V (k0 a V f sz v l):=⟨fun s h=>h.aR s⟩
instance:cr (Rd F H f sz v l) H V (Rd F V f sz v l):=⟨fun s h=>h.aR s⟩
instance:cr (lr F H ad cs) H V (lr F V ad cs):=⟨fun s h=>h.aR s⟩
instance:cr (aa S N H) H V (aa S N V):=⟨fun s h=>aa.trans h s (fun _ _ e=>e) (fun _ _ e=>e.elim)⟩
instance:cr (al N H) H V (al N V):=⟨fun s h=>al.O h s⟩
instance {β:Sort _} {p q:β→Prop} [h:∀a,cr (p a) H V (q a)]:cr (∀a,p a) H V (∀a,q a):=⟨fun s x a=>(h a).aR s (x a)⟩
instance:ct (Var e H b cs) H V (Var e V b cs) (ak (b+1)):=⟨fun s h d=>h.aJ s (au.T d)⟩
instance:ct (aY a e H f sz v l) H V (aY a e V f sz v l) (ak a):=⟨fun s h d=>h.aJ s (au.T d)⟩
instance:ct (k0 a H f sz v l) H V (k0 a V f sz v l) (ak a):=⟨fun s h d=>h.aJ s (au.T d)⟩
instance:ct (Rd F H f sz v l) H V (Rd F V f sz v l) (ax F):=⟨fun s h d=>h.aJ s (aS.T d)⟩
instance:ct (lr F H ad cs) H V (lr F V ad cs) (ax F):=⟨fun s h d=>h.aJ s (aS.T d)⟩
instance:ct (aa (ay ks) N H) H V (aa (ay ks) N V) (an ks N.size):=⟨fun s h d=>h.bt s (ar.T d)⟩
instance:ct (al N H) H V (al N V) (ae 0 N.size):=⟨fun s h d=>(aa.bt (ks:=[]) (h.nm []) s (ar.T (an.app an.z d (dz _)))).nil⟩
instance {β:Sort _} {p q:β→Prop} {E:Nat→Prop} [h:∀a,ct (p a) H V (q a) E]:ct (∀a,p a) H V (∀a,q a) E:=⟨fun s x d a=>(h a).up s (x a) d⟩
instance:jb (fun c=>c=b) (b+1):=⟨fun _ h=>by rw[h]⟩
instance:jb (fun c=>c+1=k) k:=⟨fun _ h=>h⟩
instance:jb (ay [k]) k:=⟨fun _ h=>eU.1 h⟩
end
section
variable {S : Nat → Prop} {k : Nat} {H V : Heap} {e9 eR hs iB kU mV pR wy bh bW cw ep gT j6 n4 tP : Prop} {kC lp mr nz pa q_ uv AD : Nat → Prop}
theorem jb.ms[jb S k](s:aa S H V):aa (ay [k]) H V:=s.weaken (fun b _ h=>eU.2 (jb.h b h))
theorem b6(s:al H V)[cr e9 H V bh](bB:e9):bh∧H.size≤V.size:=⟨cr.aR s bB,s.size⟩
theorem bO(s:al H V)[cr e9 H V bh][cr eR H V bW](bB:e9)(a2:eR):bh∧bW∧H.size≤V.size:=⟨cr.aR s bB,cr.aR s a2,s.size⟩
theorem cf(s:al H V)[cr e9 H V bh][cr eR H V bW][cr hs H V cw](bB:e9)(a2:eR)(a3:hs):bh∧bW∧cw∧H.size≤V.size:=⟨cr.aR s bB,cr.aR s a2,cr.aR s a3,s.size⟩
theorem ed(s:al H V)[cr e9 H V bh][cr eR H V bW][cr hs H V cw][cr iB H V ep](bB:e9)(a2:eR)(a3:hs)(a4:iB):bh∧bW∧cw∧ep∧H.size≤V.size:=⟨cr.aR s bB,cr.aR s a2,cr.aR s a3,cr.aR s a4,s.size⟩
theorem dH(s:al H V)[cr e9 H V bh][cr eR H V bW][cr hs H V cw][cr iB H V ep][cr kU H V gT](bB:e9)(a2:eR)(a3:hs)(a4:iB)(a5:kU):bh∧bW∧cw∧ep∧gT∧H.size≤V.size:=⟨cr.aR s bB,cr.aR s a2,cr.aR s a3,cr.aR s a4,cr.aR s a5,s.size⟩
theorem fY(s:al H V)[cr e9 H V bh][cr eR H V bW][cr hs H V cw][cr iB H V ep][cr kU H V gT][cr mV H V j6](bB:e9)(a2:eR)(a3:hs)(a4:iB)(a5:kU)(d:mV):bh∧bW∧cw∧ep∧gT∧j6∧H.size≤V.size:=⟨cr.aR s bB,cr.aR s a2,cr.aR s a3,cr.aR s a4,cr.aR s a5,cr.aR s d,s.size⟩
theorem kr(s:al H V)[cr e9 H V bh][cr eR H V bW][cr hs H V cw][cr iB H V ep][cr kU H V gT][cr mV H V j6][cr pR H V n4](bB:e9)(a2:eR)(a3:hs)(a4:iB)(a5:kU)(d:mV)(j:pR):bh∧bW∧cw∧ep∧gT∧j6∧n4∧H.size≤V.size:=⟨cr.aR s bB,cr.aR s a2,cr.aR s a3,cr.aR s a4,cr.aR s a5,cr.aR s d,cr.aR s j,s.size⟩
theorem fP(s:al H V)[cr e9 H V bh][cr eR H V bW][cr hs H V cw][cr iB H V ep][cr kU H V gT][cr mV H V j6][cr pR H V n4][cr wy H V tP](bB:e9)(a2:eR)(a3:hs)(a4:iB)(a5:kU)(d:mV)(j:pR)(n:wy):bh∧bW∧cw∧ep∧gT∧j6∧n4∧tP∧H.size≤V.size:=⟨cr.aR s bB,cr.aR s a2,cr.aR s a3,cr.aR s a4,cr.aR s a5,cr.aR s d,cr.aR s j,cr.aR s n,s.size⟩
theorem c0[jb S k](s:aa S H V)[ct e9 H V bh kC](bB:e9)(d1:kC k):bh∧H.size≤V.size:=have s:=jb.ms s;⟨ct.up s bB d1,s.size⟩
theorem dW[jb S k](s:aa S H V)[ct e9 H V bh kC][ct eR H V bW lp](bB:e9)(d1:kC k)(a2:eR)(d2:lp k):bh∧bW∧H.size≤V.size:=have s:=jb.ms s;⟨ct.up s bB d1,ct.up s a2 d2,s.size⟩
theorem dQ[jb S k](s:aa S H V)[ct e9 H V bh kC][ct eR H V bW lp][ct hs H V cw mr](bB:e9)(d1:kC k)(a2:eR)(d2:lp k)(a3:hs)(d3:mr k):bh∧bW∧cw∧H.size≤V.size:=have s:=jb.ms s;⟨ct.up s bB d1,ct.up s a2 d2,ct.up s a3 d3,s.size⟩
theorem dT[jb S k](s:aa S H V)[ct e9 H V bh kC][ct eR H V bW lp][ct hs H V cw mr][ct iB H V ep nz](bB:e9)(d1:kC k)(a2:eR)(d2:lp k)(a3:hs)(d3:mr k)(a4:iB)(d4:nz k):bh∧bW∧cw∧ep∧H.size≤V.size:=have s:=jb.ms s;⟨ct.up s bB d1,ct.up s a2 d2,ct.up s a3 d3,ct.up s a4 d4,s.size⟩
theorem g_[jb S k](s:aa S H V)[ct e9 H V bh kC][ct eR H V bW lp][ct hs H V cw mr][ct iB H V ep nz][ct kU H V gT pa](bB:e9)(d1:kC k)(a2:eR)(d2:lp k)(a3:hs)(d3:mr k)(a4:iB)(d4:nz k)(a5:kU)(d5:pa k):bh∧bW∧cw∧ep∧gT∧H.size≤V.size:=have s:=jb.ms s;⟨ct.up s bB d1,ct.up s a2 d2,ct.up s a3 d3,ct.up s a4 d4,ct.up s a5 d5,s.size⟩
theorem mn[jb S k](s:aa S H V)[ct e9 H V bh kC][ct eR H V bW lp][ct hs H V cw mr][ct iB H V ep nz][ct kU H V gT pa][ct mV H V j6 q_](bB:e9)(d1:kC k)(a2:eR)(d2:lp k)(a3:hs)(d3:mr k)(a4:iB)(d4:nz k)(a5:kU)(d5:pa k)(d:mV)(d6:q_ k):bh∧bW∧cw∧ep∧gT∧j6∧H.size≤V.size:=have s:=jb.ms s;⟨ct.up s bB d1,ct.up s a2 d2,ct.up s a3 d3,ct.up s a4 d4,ct.up s a5 d5,ct.up s d d6,s.size⟩
theorem nw[jb S k](s:aa S H V)[ct e9 H V bh kC][ct eR H V bW lp][ct hs H V cw mr][ct iB H V ep nz][ct kU H V gT pa][ct mV H V j6 q_][ct pR H V n4 uv](bB:e9)(d1:kC k)(a2:eR)(d2:lp k)(a3:hs)(d3:mr k)(a4:iB)(d4:nz k)(a5:kU)(d5:pa k)(d:mV)(d6:q_ k)(j:pR)(d7:uv k):bh∧bW∧cw∧ep∧gT∧j6∧n4∧H.size≤V.size:=have s:=jb.ms s;⟨ct.up s bB d1,ct.up s a2 d2,ct.up s a3 d3,ct.up s a4 d4,ct.up s a5 d5,ct.up s d d6,ct.up s j d7,s.size⟩
theorem jG[jb S k](s:aa S H V)[ct e9 H V bh kC][ct eR H V bW lp][ct hs H V cw mr][ct iB H V ep nz][ct kU H V gT pa][ct mV H V j6 q_][ct pR H V n4 uv][ct wy H V tP AD](bB:e9)(d1:kC k)(a2:eR)(d2:lp k)(a3:hs)(d3:mr k)(a4:iB)(d4:nz k)(a5:kU)(d5:pa k)(d:mV)(d6:q_ k)(j:pR)(d7:uv k)(n:wy)(d8:AD k):bh∧bW∧cw∧ep∧gT∧j6∧n4∧tP∧H.size≤V.size:=have s:=jb.ms s;⟨ct.up s bB d1,ct.up s a2 d2,ct.up s a3 d3,ct.up s a4 d4,ct.up s a5 d5,ct.up s d d6,ct.up s j d7,ct.up s n d8,s.size⟩
end
end E
namespace E
section
variable {P : Program} {w0 : World} {Q : Exit → Act → World → Prop} {n : Nat} {l : cm} {H : Heap} {ops : Array Oper} {rest : List Oper} {T : Oper} {m : Bool}
theorem I.t1{x y:Code}(h:∀{K:Exit→Act→World→Prop},(∀{l' V},I P w0 Q n l' y V→aT w0 K n l' V)→I P w0 K n l x H):I P w0 Q n l (.seq x y) H:=I.seq (fun _ ec _=>h (ec _ _))
theorem I.t2{x y:Code}(h:∀{K:Exit→Act→World→Prop},(∀{l' V},I P w0 Q n l' y V→aT w0 K n l' V)→(∀{e l' V},hD w0 Q e n l' V→∀(he:e≠.normal:=by first|nofun|simp),hD w0 K e n l' V)→I P w0 K n l x H):I P w0 Q n l (.seq x y) H:=I.seq (fun _ ec d=>h (ec _ _) (fun q he=>d _ he _ _ q))
theorem I.O{id:Nat}{d:List Oper}{y:Code}(h:∀{K:Exit→Act→World→Prop},(∀{l' V},I P w0 Q n l' y V→aT w0 K n l' V)→G false P w0 d.toArray K n l d H):I P w0 Q n l (.seq (.region id d.toArray false) y) H:=I.seq (fun _ ec _=>I.region (h (ec _ _)))
theorem I.aC{id:Nat}{c:Code}(h:∀{K:Exit→Act→World→Prop},(∀{l' V},aT w0 Q n l' V→aT w0 K n l' V)→(∀{l' V},aT w0 Q n l' V→hD w0 K (.exit id) n l' V)→(∀{e l' V},hD w0 Q e n l' V→∀(he:e≠.normal:=by first|nofun|simp)(d:e≠.exit id:=by first|nofun|simp),hD w0 K e n l' V)→I P w0 K n l c H):I P w0 Q n l (.block id c) H:=I.block (fun _ ec r j=>h (ec _ _) (r _ _) (fun q he d=>j _ he d _ _ q))
theorem I.N7{c:Code}(h:∀{K:Exit→Act→World→Prop},(∀{l' V},aT w0 Q n l' V→aT w0 K n l' V)→(∀{e l' V},hD w0 Q e n l' V→∀(he:e≠.normal:=by first|nofun|simp)(d:∀k,e≠.goto k:=by first|nofun|simp),hD w0 K e n l' V)→I P w0 K n l c H):I P w0 Q n l (.scope c) H:=I.scope (fun _ ec j=>h (ec _ _) (fun q he d=>j _ he d _ _ q))
theorem I.bb{σ:Type}{c:Code}(a6:σ→cm)(d:σ→Heap→Prop)(μ:σ→Nat)(r:σ)(E:Sub (a6 r) l)(x:d r H)(round:∀s H,d s H→∀K:Exit→Act→World→Prop,(∀j V,d j V→μ j<μ s→aT w0 K n (a6 j) V)→(∀{e l' V},hD w0 Q e n l' V→∀(he:e≠.normal:=by first|nofun|simp),hD w0 K e n l' V)→I P w0 K n (a6 s) c H):I P w0 Q n l (.loop c) H:=I.loop a6 d μ r E x (fun s H B K C A=>round s H B K C (fun q he=>A _ he _ _ q))
theorem I.bQ{σ:Type}{x y:Code}(a6:σ→cm)(d:σ→Heap→Prop)(h:∀K:Exit→Act→World→Prop,(∀s V,d s V→aT w0 K n (a6 s) V)→(∀{e l' V},hD w0 Q e n l' V→∀(he:e≠.normal:=by first|nofun|simp),hD w0 K e n l' V)→I P w0 K n l x H)(hy:∀s V,d s V→I P w0 Q n (a6 s) y V):I P w0 Q n l (.seq x y) H:=I.cut a6 d (fun K r j=>h K r (fun q he=>j _ he _ _ q)) hy
theorem aE.aP{f:FuncId}{fn:Func}{c:Code}{d:Value→Heap→Prop}(args:List Value)(q:P.funcs[f]?=some fn)(h:∀Q:Exit→Act→World→Prop,(∀{l V v},d v V→∀(j:∀a w,Fr n l a→At w0 V w→(results fn a.tmps).run P w= .ok v w:=by first|exact wF o rfl|exact Nz o o rfl|exact NA o o o o),hD w0 Q .ret n l V)→I P w0 Q n (nF args 0) c H)(ao:fn.body=some c:=by exact rfl)(aB:fn.ntmps=n:=by exact rfl)(r:Nat.ble args.length n=true:=by exact rfl):aE P w0 f args.toArray H d:=aE.enter q ao aB r (fun Q A=>h Q (fun x j=>A .ret (.inr o) _ _ _ j x))
theorem G.cn{φ:Addr→Prop}{d:Nat}(hy:∃x,(∀V,Y P w0 n l V T (.pointer (some x)))∧φ x)(h:∀x,φ x→G m P w0 ops Q n ((d,.pointer (some x))::l) rest H)(hw:dr ops l T:=by exact cS)(ah:T.dst=some d:=by exact rfl)(aB:Nat.blt d n=true:=by exact rfl):G m P w0 ops Q n l (T::rest) H:=G.e (g:=fun ad:Addr=>Value.pointer (some ad)) hy hw ah aB h
theorem c4{a b:List Value}(h:a=b):Value.agg a.toArray=Value.agg b.toArray:=aI (fun z:List Value=>Value.agg z.toArray) h
theorem G.v1{v:Value}{d:Nat}(hy:Y P w0 n l H T v)(h:G m P w0 ops Q n ((d,v)::l) rest H)(hw:dr ops l T:=by exact cS)(ah:T.dst=some d:=by exact rfl)(aB:Nat.blt d n=true:=by exact rfl):G m P w0 ops Q n l (T::rest) H:=G.v hy hw ah aB h
def w3(l:cm)(d:Nat):Op→Option cm
 |.move x=>match aK l x with
  |some v=>some ((d,v)::l)
  |none=>none
 |.assign x=>match aK l x with
  |some v=>some ((d,v)::l)
  |none=>none
 |.nilCheck x=>match aK l x with
  |some (.pointer (some ad))=>some ((d,.pointer (some ad))::l)
  |_=>none
 |.pick c x y=>match aK l c with
  |some (.bool true)=>match aK l x with
   |some v=>some ((d,v)::l)
   |none=>none
  |some (.bool false)=>match aK l y with
   |some v=>some ((d,v)::l)
   |none=>none
  |_=>none
 |_=>none
def An(ops:Array Oper)(n:Nat)(l:cm)(T:Oper):Option cm:=match T.dst with
 |none=>none
 |some d=>match Nat.blt d n with
  |false=>none
  |true=>match T.guard with
   |none=>w3 l d T.op
   |some (j,b)=>match (ops[j]?).bind (·.dst) with
    |none=>none
    |some e=>match c6 l e with
     |some (.bool c)=>match c==b with
      |false=>some ((d,undef)::l)
      |true=>w3 l d T.op
     |_=>none
theorem F7{d:Nat}{j:cm}(ag:w3 l d T.op=some j):∃v,j=(d,v)::l∧Y P w0 n l H T v:=by
 unfold w3 at ag
 repeat' split at ag
 all_goals first|(cases ag;done)|(cases ag;refine ⟨_,o,?_⟩;first|exact Y.move cY cY|exact Y.assign cY cY|exact Y.nilCheck cY cY|exact Y.zK cY cY cY|exact Y.zJ cY cY cY)
theorem G.O1{d:cm}(h:G m P w0 ops Q n d rest H)(ag:An ops n l T=some d):G m P w0 ops Q n l (T::rest) H:=by
 unfold An at ag
 repeat' split at ag
 all_goals first|(cases ag;done)|(obtain⟨v,rfl,hy⟩:=F7 ag;exact G.v hy (dr.u cY) cY cY h)|(cases ag;exact G.gs cY cY cY cY cY cY h)|(rename_i q;cases eq_of_beq q;obtain⟨v,rfl,hy⟩:=F7 ag;exact G.v hy (dr.g cY cY cY) cY cY h)
def w4(ops:Array Oper)(n:Nat):Nat→cm→List Oper→Option (cm×List Oper)
 |k+1,l,T::r=>match An ops n l T with
  |some d=>w4 ops n k d r
  |none=>none
 |0,l,r=>some (l,r)
 |_,_,_=>none
theorem G.av{d:cm}{fh:List Oper}:∀(k:Nat){l:cm}{rest:List Oper}(h:G m P w0 ops Q n d fh H)(ag:w4 ops n k l rest=some (d,fh):=by exact rfl),G m P w0 ops Q n l rest H
 |0,_,_,h,ag=>by cases ag;exact h
 |k+1,_,[],_,ag=>by cases ag
 |k+1,l,T::r,h,ag=>by
  unfold w4 at ag;split at ag
  ·rename_i j e;exact G.O1 (G.av k h ag) e
  ·cases ag
theorem G.aZ{d:cm}(k:Nat){l:cm}{rest:List Oper}(h:aT w0 Q n d H)(ag:w4 ops n k l rest=some (d,[]):=by exact rfl):G m P w0 ops Q n l rest H:=G.av k (G.nil h) ag
theorem G.af{x:Operand}{v:Value}{d:Nat}(h:G m P w0 ops Q n ((d,v)::l) rest H)(j:T.op= .move x:=by exact rfl)(q:aK l x=some v:=by exact rfl)(hw:dr ops l T:=by exact cS)(ah:T.dst=some d:=by exact rfl)(aB:Nat.blt d n=true:=by exact rfl):G m P w0 ops Q n l (T::rest) H:=G.v (Y.move j q) hw ah aB h
theorem G.bB{x:Operand}{v:Value}{d:Nat}(h:G m P w0 ops Q n ((d,v)::l) rest H)(j:T.op= .assign x:=by exact rfl)(q:aK l x=some v:=by exact rfl)(hw:dr ops l T:=by exact cS)(ah:T.dst=some d:=by exact rfl)(aB:Nat.blt d n=true:=by exact rfl):G m P w0 ops Q n l (T::rest) H:=G.v (Y.assign j q) hw ah aB h
theorem Y.hc{x:Operand}{s:TypeId}{k off d:Nat}{ad:Addr}{cs:List Value}{fs:Array Field}{fd:Field}(h:cz H ad cs)(q:T.op= .fieldAddr s x k)(hu:∀w,(underlying s).run P w= .ok (.struct fs) w)(j:fs[k]?=some fd)(A:∀w,(sizeOf fd.type).run P w= .ok d w)
 (r:fd.offset=off:=by exact rfl)(C:d≠0:=by decide)(B:aK l x=some (.pointer (some ad)):=by exact rfl):Y P w0 n l H T (.pointer (some (ad.add off))):=Y.fieldAddr h q hu j r A C B
theorem G.g1{d j e:Nat}{b c:Bool}(h:G m P w0 ops Q n ((d,undef)::l) rest H)(q:T.guard=some (j,b):=by exact rfl)(r:(ops[j]?).bind (·.dst)=some e:=by exact rfl)(aq:c6 l e=some (.bool c):=by exact rfl)(x:(c==b)=false:=by exact rfl)(ah:T.dst=some d:=by exact rfl)(aB:Nat.blt d n=true:=by exact rfl):G m P w0 ops Q n l (T::rest) H:=G.gs q r aq x ah aB h
theorem G.aG{v:Value}{d j e:Nat}{b:Bool}(hy:Y P w0 n l H T v)(h:G m P w0 ops Q n ((d,v)::l) rest H)(q:T.guard=some (j,b):=by exact rfl)(r:(ops[j]?).bind (·.dst)=some e:=by exact rfl)(aq:c6 l e=some (.bool b):=by exact rfl)(ah:T.dst=some d:=by exact rfl)(aB:Nat.blt d n=true:=by exact rfl):G m P w0 ops Q n l (T::rest) H:=G.v hy (dr.g q r aq) ah aB h
theorem Y.aV{x:Operand}{s hT:TypeId}{k off d:Nat}{ad:Addr}{fs:Array Field}{fd:Field}(A:T.op= .fieldAddr s x k)(hu:∀w,(underlying s).run P w= .ok (.struct fs) w)(r:fs[k]?=some fd)(j:fd.type=hT)(B:fd.offset=off)(C:∀w,(sizeOf hT).run P w= .ok d w)(F:d≠0)(E:aK l x=some (.pointer (some ad))):Y P w0 n l H T (.pointer (some (ad.add off))):=by
 intro ac w q G
 subst j
 simp[execOp,A,q.eval E,Instr.fieldAt,Instr.sureAddr,fieldPlace,hu,r,B,C,F]
theorem cz.one{ad:Addr}{cs:List Value}{c:Value}{k:Nat}(h:cz H ad cs)(aq:cs[k]?=some c):cz H (ad.add k) (c::cs.drop (k+1)):=by
 have ab:=h.drop k
 obtain⟨d,j⟩:=List.getElem?_eq_some_iff.1 aq
 rwa[oS d,j]at ab
theorem G.aV{x:Operand}{s hT:TypeId}{k off j d:Nat}{ad:Addr}{fs:Array Field}{fd:Field}(hu:∀w,(underlying s).run P w= .ok (.struct fs) w)(I:∀w,(sizeOf hT).run P w= .ok j w)(q:G m P w0 ops Q n ((d,.pointer (some (ad.add off)))::l) rest H)(E:T.op= .fieldAddr s x k:=by exact rfl)(B:fs[k]?=some fd:=by exact rfl)(A:fd.type=hT:=by exact rfl)(F:fd.offset=off:=by exact rfl)(M:j≠0:=by decide)(L:aK l x=some (.pointer (some ad)):=by exact rfl)(K:dr ops (l) T:=by exact cS)(r:T.dst=some d:=by exact rfl)(C:Nat.blt d n=true:=by exact rfl):G m P w0 ops Q n l (T::rest) H:=G.v (Y.aV E hu B A F I M L) K r C q
theorem G.a6{x:Operand}{s hT:TypeId}{k off r d:Nat}{ad:Addr}{fs:Array Field}{fd:Field}{t:TypeId}{y:Operand}{d2:Nat}{c:Value}{cs:List Value}{j:Oper}(h:cz H ad cs)(hu:∀w,(underlying s).run P w= .ok (.struct fs) w)(M:∀w,(sizeOf hT).run P w= .ok r w)(N:∀w,(isAgg t).run P w= .ok false w)(q:G m P w0 ops Q n ((d2,c)::(d,.pointer (some (ad.add off)))::l) rest H)(K:T.op= .fieldAddr s x k:=by exact rfl)(E:fs[k]?=some fd:=by exact rfl)(C:fd.type=hT:=by exact rfl)(L:fd.offset=off:=by exact rfl)(U:r≠0:=by decide)(S:aK l x=some (.pointer (some ad)):=by exact rfl)(O:dr ops (l) T:=by exact cS)(A:T.dst=some d:=by exact rfl)(F:Nat.blt d n=true:=by exact rfl)(aq:cs[off]?=some c:=by exact rfl)(ab:j.op= .load t y:=by exact rfl)(hy:aK ((d,.pointer (some (ad.add off)))::l) y=some (.pointer (some (ad.add off))):=by exact rfl)(R:dr ops ((d,.pointer (some (ad.add off)))::l) j:=by exact cS)(B:j.dst=some d2:=by exact rfl)(I:Nat.blt d2 n=true:=by exact rfl):G m P w0 ops Q n l (T::j::rest) H:=G.v (Y.aV K hu E C L M U S) O A F (G.v (Y.gO (cz.one h aq) ab N hy) R B I q)
theorem G.aX{x:Operand}{s hT:TypeId}{k off r d:Nat}{ad:Addr}{fs:Array Field}{fd:Field}{t:TypeId}{y:Operand}{d2:Nat}{c:Value}{cs:List Value}{j:Oper}(h:cz H (ad.add off) (c::cs))(hu:∀w,(underlying s).run P w= .ok (.struct fs) w)(M:∀w,(sizeOf hT).run P w= .ok r w)(N:∀w,(isAgg t).run P w= .ok false w)(q:G m P w0 ops Q n ((d2,c)::(d,.pointer (some (ad.add off)))::l) rest H)(K:T.op= .fieldAddr s x k:=by exact rfl)(E:fs[k]?=some fd:=by exact rfl)(C:fd.type=hT:=by exact rfl)(L:fd.offset=off:=by exact rfl)(U:r≠0:=by decide)(S:aK l x=some (.pointer (some ad)):=by exact rfl)(O:dr ops (l) T:=by exact cS)(A:T.dst=some d:=by exact rfl)(F:Nat.blt d n=true:=by exact rfl)(ab:j.op= .load t y:=by exact rfl)(hy:aK ((d,.pointer (some (ad.add off)))::l) y=some (.pointer (some (ad.add off))):=by exact rfl)(R:dr ops ((d,.pointer (some (ad.add off)))::l) j:=by exact cS)(B:j.dst=some d2:=by exact rfl)(I:Nat.blt d2 n=true:=by exact rfl):G m P w0 ops Q n l (T::j::rest) H:=G.v (Y.aV K hu E C L M U S) O A F (G.v (Y.gO h ab N hy) R B I q)
theorem G.hl{x:Operand}{s hT:TypeId}{k off r d:Nat}{ad:Addr}{fs:Array Field}{fd:Field}{j e:Nat}{b:Bool}(hu:∀w,(underlying s).run P w= .ok (.struct fs) w)(N:∀w,(sizeOf hT).run P w= .ok r w)(q:G m P w0 ops Q n ((d,.pointer (some (ad.add off)))::l) rest H)(L:T.op= .fieldAddr s x k:=by exact rfl)(I:fs[k]?=some fd:=by exact rfl)(C:fd.type=hT:=by exact rfl)(M:fd.offset=off:=by exact rfl)(R:r≠0:=by decide)(O:aK l x=some (.pointer (some ad)):=by exact rfl)(E:T.guard=some (j,b):=by exact rfl)(F:(ops[j]?).bind (·.dst)=some e:=by exact rfl)(A:c6 (l) e=some (.bool b):=by exact rfl)(B:T.dst=some d:=by exact rfl)(K:Nat.blt d n=true:=by exact rfl):G m P w0 ops Q n l (T::rest) H:=G.v (Y.aV L hu I C M N R O) (dr.g E F A) B K q
theorem G.wl{x:Operand}{s hT:TypeId}{k off A d:Nat}{ad:Addr}{fs:Array Field}{fd:Field}{j e:Nat}{b:Bool}{t:TypeId}{y:Operand}{d2:Nat}{c:Value}{cs:List Value}{r:Oper}(h:cz H ad cs)(hu:∀w,(underlying s).run P w= .ok (.struct fs) w)(W:∀w,(sizeOf hT).run P w= .ok A w)(X:∀w,(isAgg t).run P w= .ok false w)(q:G m P w0 ops Q n ((d2,c)::(d,.pointer (some (ad.add off)))::l) rest H)(U:T.op= .fieldAddr s x k:=by exact rfl)(O:fs[k]?=some fd:=by exact rfl)(I:fd.type=hT:=by exact rfl)(V:fd.offset=off:=by exact rfl)(aa:A≠0:=by decide)(Z:aK l x=some (.pointer (some ad)):=by exact rfl)(K:T.guard=some (j,b):=by exact rfl)(M:(ops[j]?).bind (·.dst)=some e:=by exact rfl)(B:c6 (l) e=some (.bool b):=by exact rfl)(E:T.dst=some d:=by exact rfl)(R:Nat.blt d n=true:=by exact rfl)(aq:cs[off]?=some c:=by exact rfl)(ab:r.op= .load t y:=by exact rfl)(hy:aK ((d,.pointer (some (ad.add off)))::l) y=some (.pointer (some (ad.add off))):=by exact rfl)(L:r.guard=some (j,b):=by exact rfl)(N:(ops[j]?).bind (·.dst)=some e:=by exact rfl)(C:c6 ((d,.pointer (some (ad.add off)))::l) e=some (.bool b):=by exact rfl)(F:r.dst=some d2:=by exact rfl)(S:Nat.blt d2 n=true:=by exact rfl):G m P w0 ops Q n l (T::r::rest) H:=G.v (Y.aV U hu O I V W aa Z) (dr.g K M B) E R (G.v (Y.gO (cz.one h aq) ab X hy) (dr.g L N C) F S q)
theorem G.gz{x:Operand}{s hT:TypeId}{k off A d:Nat}{ad:Addr}{fs:Array Field}{fd:Field}{j e:Nat}{b:Bool}{t:TypeId}{y:Operand}{d2:Nat}{c:Value}{cs:List Value}{r:Oper}(h:cz H (ad.add off) (c::cs))(hu:∀w,(underlying s).run P w= .ok (.struct fs) w)(W:∀w,(sizeOf hT).run P w= .ok A w)(X:∀w,(isAgg t).run P w= .ok false w)(q:G m P w0 ops Q n ((d2,c)::(d,.pointer (some (ad.add off)))::l) rest H)(U:T.op= .fieldAddr s x k:=by exact rfl)(O:fs[k]?=some fd:=by exact rfl)(I:fd.type=hT:=by exact rfl)(V:fd.offset=off:=by exact rfl)(aa:A≠0:=by decide)(Z:aK l x=some (.pointer (some ad)):=by exact rfl)(K:T.guard=some (j,b):=by exact rfl)(M:(ops[j]?).bind (·.dst)=some e:=by exact rfl)(B:c6 (l) e=some (.bool b):=by exact rfl)(E:T.dst=some d:=by exact rfl)(R:Nat.blt d n=true:=by exact rfl)(ab:r.op= .load t y:=by exact rfl)(hy:aK ((d,.pointer (some (ad.add off)))::l) y=some (.pointer (some (ad.add off))):=by exact rfl)(L:r.guard=some (j,b):=by exact rfl)(N:(ops[j]?).bind (·.dst)=some e:=by exact rfl)(C:c6 ((d,.pointer (some (ad.add off)))::l) e=some (.bool b):=by exact rfl)(F:r.dst=some d2:=by exact rfl)(S:Nat.blt d2 n=true:=by exact rfl):G m P w0 ops Q n l (T::r::rest) H:=G.v (Y.aV U hu O I V W aa Z) (dr.g K M B) E R (G.v (Y.gO h ab X hy) (dr.g L N C) F S q)
theorem Z.ey{A:Value→Heap→Prop}{B d:Value→Heap→Prop}(h:E.Z P w0 n l H T (fun v V=>A v V∧B v V∧d v V∧∃j,V=H.push j)):E.Z P w0 n l H T (fun v V=>A v V∧B v V∧d v V∧V.size=H.size+1):=h.mono (fun v V ⟨a,b,c,j,e⟩=>⟨a,b,c,by rw[e];simp⟩)
theorem Z.c2{A B:Value→Heap→Prop}(h:E.Z P w0 n l H T (fun v V=>A v V∧B v V∧∃d,V=H.push d)):E.Z P w0 n l H T (fun v V=>A v V∧B v V∧V.size=H.size+1):=h.mono (fun v V ⟨a,b,d,e⟩=>⟨a,b,by rw[e];simp⟩)
theorem Z.a7{t:TypeId}{z:Value}(j:∀w,(zeroValue t).run P w= .ok z w)(d:T.op= .alloc t:=by exact rfl):E.Z P w0 n l H T (fun v V=>v= .pointer (some ⟨H.size,0,none⟩)∧Var t V H.size z.cells.toList∧al H V∧V.size=H.size+1):=Z.ey (Z.nE d j)
theorem Z.bv{t:TypeId}{x:Operand}{v:Value}(d:T.op= .box t x:=by exact rfl)(j:aK l x=some v:=by exact rfl):E.Z P w0 n l H T (fun r V=>r= .pointer (some ⟨H.size,0,none⟩)∧Var t V H.size v.cells.toList∧al H V∧V.size=H.size+1):=Z.ey (Z.rp d j)
theorem I.s1{x y:Code}(h:∀{K:Exit→Act→World→Prop},(∀l' V,I P w0 Q n l' y V→aT w0 K n l' V)→I P w0 K n l x H):I P w0 Q n l (.seq x y) H:=I.seq (fun _ ec _=>h ec)
theorem I.s2{x y:Code}(h:∀{K:Exit→Act→World→Prop},(∀l' V,I P w0 Q n l' y V→aT w0 K n l' V)→(∀e,e≠ .normal→∀l' V,hD w0 Q e n l' V→hD w0 K e n l' V)→I P w0 K n l x H):I P w0 Q n l (.seq x y) H:=I.seq (fun _ ec d=>h ec d)
theorem Y.cg{α:Type}{F:Nat→Prop}{f:α→List Value}{sz:Nat}{v:Value}{xs:List α}{x i:Operand}{t e:TypeId}{k:IntKind}{aF:Int}(h:Rd F H f sz v xs)(j:Nat)(A:T.op= .indexAddr t x i)(B:∀w,(underlying t).run P w= .ok (.slice e) w)(ag:∀w,(sizeOf e).run P w= .ok sz w)
 (C:aK l x=some v)(d:aK l i=some (.int k aF))(q:aF=j:=by first|rfl|omega)(r:j<xs.length:=by first|omega|(simp;omega)|(simp;done)):∃ad,(∀V,Y P w0 n l V T (.pointer (some ad)))∧lr F H ad (f xs[j]):=Y.pC h j A B ag C d q r
theorem G.aU{j:Value→Heap→Prop}{d:Nat}(q:E.Z P w0 n l H T j)(h:∀v V,j v V→G false P w0 ops Q n ((d,v)::l) rest V)(hw:dr ops l T:=by exact cS)(ah:T.dst=some d:=by exact rfl)(aB:Nat.blt d n=true:=by exact rfl):G false P w0 ops Q n l (T::rest) H:=G.z q hw ah aB h
theorem G.s1{d:Heap→Prop}(j:E.S P w0 n l H T d)(h:∀V,d V→G false P w0 ops Q n l rest V)(hw:dr ops l T:=by exact cS)(ah:T.dst=none:=by exact rfl):G false P w0 ops Q n l (T::rest) H:=G.s j hw ah h
theorem G.aP{α:Type}{g:α→Value}{φ:α→Prop}{d:Nat}(hy:∃x,(∀V,Y P w0 n l V T (g x))∧φ x)(h:∀x,φ x→G m P w0 ops Q n ((d,g x)::l) rest H)(hw:dr ops l T:=by exact cS)(ah:T.dst=some d:=by exact rfl)(aB:Nat.blt d n=true:=by exact rfl):G m P w0 ops Q n l (T::rest) H:=G.e hy hw ah aB h
theorem I.og{id:Nat}{d:List Oper}{y:Code}(h:∀{K:Exit→Act→World→Prop},(∀l' V,I P w0 Q n l' y V→aT w0 K n l' V)→G false P w0 d.toArray K n l d H):I P w0 Q n l (.seq (.region id d.toArray false) y) H:=I.seq (fun _ ec _=>I.region (h ec))
theorem G.aj{x:Operand}{v:Value}{d:Nat}(h:aT w0 Q n ((d,v)::l) H)(j:T.op= .assign x:=by exact rfl)(q:aK l x=some v:=by exact rfl)(hw:dr ops l T:=by exact cS)(ah:T.dst=some d:=by exact rfl)(aB:Nat.blt d n=true:=by exact rfl):G m P w0 ops Q n l [T] H:=G.v (Y.assign j q) hw ah aB (G.nil h)
theorem G.bs{x:Operand}{ad:Addr}{d:Nat}(h:G m P w0 ops Q n ((d,.pointer (some ad))::l) rest H)(j:T.op= .nilCheck x:=by exact rfl)(q:aK l x=some (.pointer (some ad)):=by exact rfl)(hw:dr ops l T:=by exact cS)(ah:T.dst=some d:=by exact rfl)(aB:Nat.blt d n=true:=by exact rfl):G m P w0 ops Q n l (T::rest) H:=G.v (Y.nilCheck j q) hw ah aB h
theorem G.W{c x y:Operand}{v:Value}{d:Nat}(h:G m P w0 ops Q n ((d,v)::l) rest H)(j:T.op= .pick c x y:=by exact rfl)(aq:aK l c=some (.bool true):=by exact rfl)(q:aK l x=some v:=by exact rfl)(hw:dr ops l T:=by exact cS)(ah:T.dst=some d:=by exact rfl)(aB:Nat.blt d n=true:=by exact rfl):G m P w0 ops Q n l (T::rest) H:=G.v (Y.zK j aq q) hw ah aB h
theorem G.eh{c x y:Operand}{v:Value}{d:Nat}(h:G m P w0 ops Q n ((d,v)::l) rest H)(j:T.op= .pick c x y:=by exact rfl)(aq:aK l c=some (.bool false):=by exact rfl)(q:aK l y=some v:=by exact rfl)(hw:dr ops l T:=by exact cS)(ah:T.dst=some d:=by exact rfl)(aB:Nat.blt d n=true:=by exact rfl):G m P w0 ops Q n l (T::rest) H:=G.v (Y.zJ j aq q) hw ah aB h
theorem G.b4{x:Operand}{v:Value}{d j e:Nat}{b:Bool}(h:G m P w0 ops Q n ((d,v)::l) rest H)(A:T.op= .move x:=by exact rfl)(B:aK l x=some v:=by exact rfl)(q:T.guard=some (j,b):=by exact rfl)(r:(ops[j]?).bind (·.dst)=some e:=by exact rfl)(aq:c6 l e=some (.bool b):=by exact rfl)(ah:T.dst=some d:=by exact rfl)(aB:Nat.blt d n=true:=by exact rfl):G m P w0 ops Q n l (T::rest) H:=G.v (Y.move A B) (dr.g q r aq) ah aB h
end
section
variable {P : Program} {w0 : World} {Q : Exit → Act → World → Prop} {n k : Nat} {dn : List Nat} {l : cm} {H : Heap} {ops : Array Oper} {T : Oper} {ca : Heap → Prop} {X : List Nat}
theorem U.dx{i:Nat}{A:Heap}(x:al A H)(h:U P w0 ops Q (fun d=>al H d) X n k dn l H):(X.contains i=true∨al A H)∧U P w0 ops Q (fun d=>al A d) X n k dn l H:=⟨.inr x,U.narrow (fun d j=>x.O j) h⟩
theorem U.b5{i:Nat}{A:Heap}{ks k8:List Nat}(x:aa (ay ks) A H)(d:ar ks A.size k8)(h:U P w0 ops Q (fun j=>aa (ay k8) H j) X n k dn l H):(X.contains i=true∨aa (ay ks) A H)∧U P w0 ops Q (fun j=>aa (ay ks) A j) X n k dn l H:=⟨.inr x,U.narrow (fun j q=>x.bt q d) h⟩
theorem U.t1{v:Value}{d:Nat}(i:Nat)(A:ops[i]?=some T)(hy:∀V,ca V→Y P w0 n l V T v)(q:ca H)(h:U P w0 ops Q ca X n k (i::dn) ((d,v)::l) H)
 (r:X.all (fun j=>Nat.beq j i||Region.waitsFor .any ops j i)=true:=by kernel_rfl)(ag:Region.noSelect ops=true:=by kernel_rfl)(x:Region.free .any ops (ev ops.size dn) i=true:=by kernel_rfl)(B:(Region.ready .any ops (ev ops.size dn)).contains i=true:=by kernel_rfl)
 (hw:dr ops l T:=by exact cS) (ah:T.dst=some d:=by exact rfl) (aB:Nat.blt d n=true:=by exact rfl):U P w0 ops Q ca X n (k+1) dn l H:=U.take i r A ag x B hy hw ah aB q h
theorem U.aV{a_:Nat}{x:Operand}{s hT:TypeId}{k off q d:Nat}{ad:Addr}{fs:Array Field}{fd:Field}(i:Nat)(hu:∀w,(underlying s).run P w= .ok (.struct fs) w)(L:∀w,(sizeOf hT).run P w= .ok q w)(r:ca H)(h:U P w0 ops Q ca X n a_ (i::dn) ((d,.pointer (some (ad.add off)))::l) H)(E:ops[i]?=some T:=by exact rfl)(G:T.op= .fieldAddr s x k:=by exact rfl)(F:fs[k]?=some fd:=by exact rfl)(B:fd.type=hT:=by exact rfl)(I:fd.offset=off:=by exact rfl)(N:q≠0:=by decide)(M:aK l x=some (.pointer (some ad)):=by exact rfl)
 (A:X.all (fun j=>Nat.beq j i||Region.waitsFor .any ops j i)=true:=by kernel_rfl) (ag:Region.noSelect ops=true:=by kernel_rfl) (C:Region.free .any ops (ev ops.size dn) i=true:=by kernel_rfl) (K:(Region.ready .any ops (ev ops.size dn)).contains i=true:=by kernel_rfl)
 (hw:dr ops l T:=by exact cS) (ah:T.dst=some d:=by exact rfl) (aB:Nat.blt d n=true:=by exact rfl):U P w0 ops Q ca X n (a_+1) dn l H:=U.take i A E ag C K (fun _ _=>Y.aV G hu F B I L N M) hw ah aB r h
theorem U.af{x:Operand}{v:Value}{d:Nat}(i:Nat)(B:ops[i]?=some T)(q:ca H)(h:U P w0 ops Q ca X n k (i::dn) ((d,v)::l) H)(C:T.op= .move x:=by exact rfl)(F:aK l x=some v:=by exact rfl)
 (r:X.all (fun j=>Nat.beq j i||Region.waitsFor .any ops j i)=true:=by kernel_rfl) (ag:Region.noSelect ops=true:=by kernel_rfl) (A:Region.free .any ops (ev ops.size dn) i=true:=by kernel_rfl) (E:(Region.ready .any ops (ev ops.size dn)).contains i=true:=by kernel_rfl)
 (hw:dr ops l T:=by exact cS) (ah:T.dst=some d:=by exact rfl) (aB:Nat.blt d n=true:=by exact rfl):U P w0 ops Q ca X n (k+1) dn l H:=U.take i r B ag A E (fun _ _=>Y.move C F) hw ah aB q h
theorem U.bs{x:Operand}{ad:Addr}{d:Nat}(i:Nat)(B:ops[i]?=some T)(q:ca H)(h:U P w0 ops Q ca X n k (i::dn) ((d,.pointer (some ad))::l) H)(C:T.op= .nilCheck x:=by exact rfl)(F:aK l x=some (.pointer (some ad)):=by exact rfl)
 (r:X.all (fun j=>Nat.beq j i||Region.waitsFor .any ops j i)=true:=by kernel_rfl) (ag:Region.noSelect ops=true:=by kernel_rfl) (A:Region.free .any ops (ev ops.size dn) i=true:=by kernel_rfl) (E:(Region.ready .any ops (ev ops.size dn)).contains i=true:=by kernel_rfl)
 (hw:dr ops l T:=by exact cS) (ah:T.dst=some d:=by exact rfl) (aB:Nat.blt d n=true:=by exact rfl):U P w0 ops Q ca X n (k+1) dn l H:=U.take i r B ag A E (fun _ _=>Y.nilCheck C F) hw ah aB q h
theorem U.cB{v:Value}{d:Nat}(i:Nat)(A:ops[i]?=some T)(hy:∀V,ca V→Y P w0 n l V T v)(hw:dr ops l T)(q:ca H)(h:U P w0 ops Q ca X n k (i::dn) ((d,v)::l) H)
 (r:X.all (fun j=>Nat.beq j i||Region.waitsFor .any ops j i)=true:=by kernel_rfl)(ag:Region.noSelect ops=true:=by kernel_rfl)(x:Region.free .any ops (ev ops.size dn) i=true:=by kernel_rfl)(B:(Region.ready .any ops (ev ops.size dn)).contains i=true:=by kernel_rfl)
 (ah:T.dst=some d:=by exact rfl) (aB:Nat.blt d n=true:=by exact rfl):U P w0 ops Q ca X n (k+1) dn l H:=U.take i r A ag x B hy hw ah aB q h
theorem U.g1{d j e:Nat}{b c:Bool}(i:Nat)(B:ops[i]?=some T)(A:T.guard=some (j,b))(C:(ops[j]?).bind (·.dst)=some e)(aq:c6 l e=some (.bool c))(q:ca H)(h:U P w0 ops Q ca X n k (i::dn) ((d,undef)::l) H)
 (r:X.all (fun j=>Nat.beq j i||Region.waitsFor .any ops j i)=true:=by kernel_rfl)(ag:Region.noSelect ops=true:=by kernel_rfl)(x:Region.free .any ops (ev ops.size dn) i=true:=by kernel_rfl)(F:(Region.ready .any ops (ev ops.size dn)).contains i=true:=by kernel_rfl)
 (E:(c==b)=false:=by exact rfl) (ah:T.dst=some d:=by exact rfl) (aB:Nat.blt d n=true:=by exact rfl):U P w0 ops Q ca X n (k+1) dn l H:=U.gs i r B ag x F A C aq E ah aB q h
theorem U.mF{d j e:Nat}{b:Bool}(i:Nat)(B:ops[i]?=some T)(A:T.guard=some (j,b))(C:(ops[j]?).bind (·.dst)=some e)(aq:c6 l e=some undef)(q:ca H)(h:U P w0 ops Q ca X n k (i::dn) ((d,undef)::l) H)
 (r:X.all (fun j=>Nat.beq j i||Region.waitsFor .any ops j i)=true:=by kernel_rfl)(ag:Region.noSelect ops=true:=by kernel_rfl)(x:Region.free .any ops (ev ops.size dn) i=true:=by kernel_rfl)(E:(Region.ready .any ops (ev ops.size dn)).contains i=true:=by kernel_rfl)
 (ah:T.dst=some d:=by exact rfl) (aB:Nat.blt d n=true:=by exact rfl):U P w0 ops Q ca X n (k+1) dn l H:=U.yz i r B ag x E A C aq ah aB q h
theorem U.bg(i:Nat)(h:e_ P w0 ops Q ca X n k i dn l H)(d:Region.ready .any ops (ev ops.size dn)=[i]:=by kernel_rfl):U P w0 ops Q ca X n (k+1) dn l H:=U.one d h
end
theorem an.q{ks:List Nat}{h a_:Nat}(x:ae 0 h a_):an ks h a_:=an.app an.z x (dz _)
theorem an.r{ks:List Nat}{h k a_:Nat}(x:ae k h a_)(hm:k∈ks:=by simp):an ks h a_:=an.app (an.root hm) x (dz _)
theorem aa.gn{k8:List Nat}{N H V:Heap}(x:al N H)(s:aa (ay k8) H V)(d:ar [] N.size k8):al N V:=(aa.bt (ks:=[]) (x.nm []) s d).nil
def cX:= @Tryz.isAgg3
def fc:= @Tryz.isAgg4
def fE:= @Tryz.isAgg5
def cd:= @Tryz.isAgg9
def gd:= @Tryz.isAgg24
def cZ:= @Tryz.isAgg26
def hp:= @Tryz.isAgg27
def kF:= @Tryz.isAgg29
def fD:= @Tryz.isAgg30
def hR:= @Tryz.isAgg32
def pn:= @Tryz.isAgg34
def oC:= @Tryz.isAgg35
def lx:= @Tryz.isAgg44
def jU:= @Tryz.isAgg45
def fV:= @Tryz.isAgg47
def kG:= @Tryz.isAgg52
def fe:= @Tryz.isAgg57
def k1:= @Tryz.isAgg60
def uG:= @Tryz.isAgg62
def A6:= @Tryz.isAgg64
def kH:= @Tryz.isAgg68
def uH:= @Tryz.isAgg69
def uI:= @Tryz.isAgg71
def A7:= @Tryz.isAgg83
def po:= @Tryz.isAgg95
def jl:= @Tryz.isAgg103
def xD:= @Tryz.isAgg104
def sL:= @Tryz.isAgg129
def GL:= @Tryz.isAgg130
def oB:= @Tryz.isAgg168
def uE:= @Tryz.isAgg171
def A4:= @Tryz.isAgg175
def uF:= @Tryz.isAgg177
def sM:= @Tryz.isAgg184
def A5:= @Tryz.isAgg216
def GM:= @Tryz.isAgg230
def lv:= @Tryz.isAgg275
def gM:= @Tryz.isAgg329
def GN:= @Tryz.isAgg335
def xE:= @Tryz.isAgg336
def GO:= @Tryz.isAgg356
def HJ:= @Tryz.call11
def BM:= @Tryz.call12
def BN:= @Tryz.call13
def uT:= @Tryz.call14
def uU:= @Tryz.call15
def BO:= @Tryz.call16
def sW:= @Tryz.call17
def Ic:= @Tryz.call18
def BW:= @Tryz.call19
def Ij:= @Tryz.call20
def Ik:= @Tryz.call21
def rz:= @Tryz.call22
def B0:= @Tryz.call23
def B1:= @Tryz.call24
def Iq:= @Tryz.call25
def Iy:= @Tryz.call30
def Iz:= @Tryz.call32
def IA:= @Tryz.call35
def IB:= @Tryz.call36
def B3:= @Tryz.call37
def IC:= @Tryz.call38
def x4:= @Tryz.call39
def uY:= @Tryz.call40
def ID:= @Tryz.call41
def IE:= @Tryz.call42
def B4:= @Tryz.call43
def IF:= @Tryz.call44
def IG:= @Tryz.call45
def jA:= @Tryz.call46
def nK:= @Tryz.call47
def uZ:= @Tryz.call48
def IH:= @Tryz.call49
def II:= @Tryz.call50
def IJ:= @Tryz.call51
def B5:= @Tryz.call52
def B6:= @Tryz.call53
def B7:= @Tryz.call54
def nL:= @Tryz.call55
def IK:= @Tryz.call56
def x5:= @Tryz.call57
def B8:= @Tryz.call58
def rA:= @Tryz.call59
def IL:= @Tryz.call60
def IM:= @Tryz.call61
def IN:= @Tryz.call62
def IP:= @Tryz.call63
def B9:= @Tryz.call64
def IQ:= @Tryz.call65
def IS:= @Tryz.call76
def B_:= @Tryz.call77
def Ca:= @Tryz.call78
def x6:= @Tryz.call79
def IT:= @Tryz.call80
def IU:= @Tryz.call81
def IV:= @Tryz.call82
def qo:= @Tryz.call88
def Cb:= @Tryz.call89
def x7:= @Tryz.call90
def Cc:= @Tryz.call91
def nM:= @Tryz.call92
def k3:= @Tryz.call93
def sX:= @Tryz.call94
def rB:= @Tryz.call95
def IW:= @Tryz.call96
def IX:= @Tryz.call97
def IY:= @Tryz.call98
def nN:= @Tryz.call99
def xX:= @Tryz.call100
def sT:= @Tryz.call101
def rr:= @Tryz.call102
def HF:= @Tryz.call103
def HG:= @Tryz.call104
def HH:= @Tryz.call105
def BG:= @Tryz.call106
def BH:= @Tryz.call107
def BI:= @Tryz.call108
def HI:= @Tryz.call109
def BJ:= @Tryz.call110
def BK:= @Tryz.call111
def HK:= @Tryz.call112
def BL:= @Tryz.call113
def sU:= @Tryz.call114
def HL:= @Tryz.call115
def HM:= @Tryz.call116
def HN:= @Tryz.call117
def HO:= @Tryz.call118
def sV:= @Tryz.call119
def pr:= @Tryz.call120
def ru:= @Tryz.call121
def HP:= @Tryz.call122
def HQ:= @Tryz.call123
def HR:= @Tryz.call124
def HS:= @Tryz.call125
def HT:= @Tryz.call126
def HU:= @Tryz.call127
def HV:= @Tryz.call128
def HW:= @Tryz.call129
def HX:= @Tryz.call130
def HY:= @Tryz.call131
def HZ:= @Tryz.call132
def uS:= @Tryz.call133
def xY:= @Tryz.call134
def H0:= @Tryz.call141
def xZ:= @Tryz.call158
def H2:= @Tryz.call159
def rv:= @Tryz.call160
def H3:= @Tryz.call165
def BP:= @Tryz.call166
def mB:= @Tryz.call167
def uV:= @Tryz.call168
def H4:= @Tryz.call169
def H5:= @Tryz.call170
def H6:= @Tryz.call171
def H7:= @Tryz.call172
def H8:= @Tryz.call173
def H9:= @Tryz.call174
def H_:= @Tryz.call175
def Ia:= @Tryz.call176
def ry:= @Tryz.call177
def Ib:= @Tryz.call178
def BQ:= @Tryz.call179
def BR:= @Tryz.call180
def x0:= @Tryz.call181
def ps:= @Tryz.call183
def uW:= @Tryz.call184
def BS:= @Tryz.call185
def BT:= @Tryz.call186
def BU:= @Tryz.call187
def BV:= @Tryz.call188
def uX:= @Tryz.call189
def Ie:= @Tryz.call190
def Ig:= @Tryz.call191
def Ih:= @Tryz.call193
def Ii:= @Tryz.call194
def BX:= @Tryz.call195
def x1:= @Tryz.call196
def BY:= @Tryz.call221
def x2:= @Tryz.call222
def Il:= @Tryz.call223
def Im:= @Tryz.call224
def x3:= @Tryz.call225
def BZ:= @Tryz.call226
def Io:= @Tryz.call227
def Ip:= @Tryz.call230
def Ir:= @Tryz.call255
def Is:= @Tryz.call256
def B2:= @Tryz.call257
def It:= @Tryz.call258
def Iu:= @Tryz.call273
def Iv:= @Tryz.call277
def nJ:= @Tryz.call278
def Iw:= @Tryz.call279
def Ix:= @Tryz.call280
def N3:= @Tryz.sizeOf2
def b8:= @Tryz.sizeOf3
def ee:= @Tryz.sizeOf4
def dK:= @Tryz.sizeOf5
def b3:= @Tryz.sizeOf9
def fz:= @Tryz.sizeOf24
def bx:= @Tryz.sizeOf26
def fR:= @Tryz.sizeOf27
def dP:= @Tryz.sizeOf29
def eN:= @Tryz.sizeOf30
def gh:= @Tryz.sizeOf32
def pW:= @Tryz.sizeOf34
def o1:= @Tryz.sizeOf35
def jE:= @Tryz.sizeOf44
def h2:= @Tryz.sizeOf45
def dJ:= @Tryz.sizeOf47
def eS:= @Tryz.sizeOf52
def dt:= @Tryz.sizeOf57
def ju:= @Tryz.sizeOf60
def iD:= @Tryz.sizeOf62
def pX:= @Tryz.sizeOf64
def db:= @Tryz.sizeOf68
def N5:= @Tryz.sizeOf69
def lh:= @Tryz.sizeOf71
def Fz:= @Tryz.sizeOf83
def q0:= @Tryz.sizeOf95
def zV:= @Tryz.sizeOf100
def N2:= @Tryz.sizeOf103
def j8:= @Tryz.sizeOf129
def lN:= @Tryz.sizeOf168
def nt:= @Tryz.sizeOf170
def mY:= @Tryz.sizeOf171
def Fv:= @Tryz.sizeOf175
def qZ:= @Tryz.sizeOf177
def mZ:= @Tryz.sizeOf183
def mh:= @Tryz.sizeOf184
def ie:= @Tryz.sizeOf213
def wH:= @Tryz.sizeOf216
def N4:= @Tryz.sizeOf230
def j9:= @Tryz.sizeOf275
def fS:= @Tryz.sizeOf329
def Fw:= @Tryz.sizeOf335
def o0:= @Tryz.sizeOf336
def Fx:= @Tryz.sizeOf354
def Fy:= @Tryz.sizeOf356
def gZ:= @Tryz.runUnderlying3
def lP:= @Tryz.runUnderlying5
def e0:= @Tryz.runUnderlying9
def Ap:= @Tryz.runUnderlying22
def Gf:= @Tryz.runUnderlying23
def e7:= @Tryz.runUnderlying24
def nv:= @Tryz.runUnderlying26
def hW:= @Tryz.runUnderlying27
def b1:= @Tryz.runUnderlying29
def dy:= @Tryz.runUnderlying30
def bP:= @Tryz.runUnderlying32
def jQ:= @Tryz.runUnderlying44
def ij:= @Tryz.runUnderlying45
def c8:= @Tryz.runUnderlying47
def dc:= @Tryz.runUnderlying52
def dV:= @Tryz.runUnderlying57
def lQ:= @Tryz.runUnderlying60
def iI:= @Tryz.runUnderlying62
def O_:= @Tryz.runUnderlying64
def Ar:= @Tryz.runUnderlying66
def gU:= @Tryz.runUnderlying68
def jR:= @Tryz.runUnderlying69
def p3:= @Tryz.runUnderlying71
def w7:= @Tryz.runUnderlying83
def q7:= @Tryz.runUnderlying95
def O9:= @Tryz.runUnderlying100
def hL:= @Tryz.runUnderlying102
def jO:= @Tryz.runUnderlying104
def o5:= @Tryz.runUnderlying108
def mm:= @Tryz.runUnderlying129
def oi:= @Tryz.runUnderlying130
def uh:= @Tryz.runUnderlying132
def q6:= @Tryz.runUnderlying164
def p0:= @Tryz.runUnderlying168
def nu:= @Tryz.runUnderlying170
def ui:= @Tryz.runUnderlying171
def jP:= @Tryz.runUnderlying173
def uj:= @Tryz.runUnderlying177
def m0:= @Tryz.runUnderlying183
def uk:= @Tryz.runUnderlying184
def jw:= @Tryz.runUnderlying186
def h4:= @Tryz.runUnderlying206
def iH:= @Tryz.runUnderlying213
def kA:= @Tryz.runUnderlying215
def hA:= @Tryz.runUnderlying216
def p1:= @Tryz.runUnderlying223
def Gg:= @Tryz.runUnderlying244
def Aq:= @Tryz.runUnderlying251
def ln:= @Tryz.runUnderlying275
def Gh:= @Tryz.runUnderlying291
def um:= @Tryz.runUnderlying329
def p2:= @Tryz.runUnderlying335
def hM:= @Tryz.runUnderlying336
def Gi:= @Tryz.runUnderlying354
def lo:= @Tryz.runUnderlying356
def AA:= @Tryz.zeroValue5
def PM:= @Tryz.zeroValue9
def o7:= @Tryz.zeroValue26
def xb:= @Tryz.zeroValue29
def q9:= @Tryz.zeroValue32
def mq:= @Tryz.zeroValue47
def o8:= @Tryz.zeroValue52
def GH:= @Tryz.zeroValue60
def AB:= @Tryz.zeroValue62
def oo:= @Tryz.zeroValue68
def PL:= @Tryz.zeroValue71
def Az:= @Tryz.zeroValue129
def xa:= @Tryz.zeroValue166
def GD:= @Tryz.zeroValue175
def PJ:= @Tryz.zeroValue177
def GF:= @Tryz.zeroValue275
def GG:= @Tryz.zeroValue335
def PK:= @Tryz.zeroValue336
theorem tc:hC Tryz.prog 24 52 66 96:=⟨Tryz.underlying24,_,_,o,o,o,o,o⟩
theorem pD:hC Tryz.prog 27 129 33 40:=⟨Tryz.underlying27,_,_,o,o,o,o,o⟩
theorem k7:hC Tryz.prog 30 68 33 56:=⟨Tryz.underlying30,_,_,o,o,o,o,o⟩
theorem nS:hC Tryz.prog 44 71 33 48:=⟨Tryz.underlying44,_,_,o,o,o,o,o⟩
theorem nT:hC Tryz.prog 45 62 2 40:=⟨Tryz.underlying45,_,_,o,o,o,o,o⟩
theorem fw:hC Tryz.prog 57 5 1 1:=⟨Tryz.underlying57,_,_,o,o,o,o,o⟩
theorem oP:hC Tryz.prog 60 64 65 80:=⟨Tryz.underlying60,_,_,o,o,o,o,o⟩
theorem vt:hC Tryz.prog 69 9 1 16:=⟨Tryz.underlying69,_,_,o,o,o,o,o⟩
theorem KH:hC Tryz.prog 83 3 1 8:=⟨Tryz.underlying83,_,_,o,o,o,o,o⟩
theorem rT:hC Tryz.prog 104 57 1 24:=⟨Tryz.underlying104,_,_,o,o,o,o,o⟩
theorem Dr:hC Tryz.prog 171 177 3 40:=⟨Tryz.underlying171,_,_,o,o,o,o,o⟩
theorem vs:hC Tryz.prog 184 275 2 32:=⟨Tryz.underlying184,_,_,o,o,o,o,o⟩
theorem nR:hC Tryz.prog 244 35 1 8:=⟨Tryz.underlying244,_,_,o,o,o,o,o⟩
theorem Ds:hC Tryz.prog 291 230 1 8:=⟨Tryz.underlying291,_,_,o,o,o,o,o⟩
end E
namespace E
section
variable {P : Program} {w0 : World} {n : Nat} {l : cm} {H : Heap} {T : Oper}
theorem Y.ext{f:FuncId}{fn:Func}{e:Array Value→Sem Value}{args:List Operand}{q:Array TypeId}{j:List Value}{v:Value}(E:T.op= .call {callee:= .value (.func f),args:=args.toArray,argTypes:=q})(A:P.funcs[f]?=some fn)
 (C:(fn.name== "runtime.NumGoroutine")=false) (ao:fn.body.isNone=true) (aB:Extern.findNext fn=none) (he:Extern.find fn=some e) (G:iA l args=some j) (F:∀w,At w0 H w→(e j.toArray).run P w= .ok v w):Y P w0 n l H T v:=by
 intro a w B x;have r:a.eval (.func f)= .func (.func f) #[] #[]:=rfl;have ab:=B.mC G;have d:=run_callFunc_extern (P:=P) A C ao aB he j.toArray w;rw[F w x]at d;simp only[Result.andThen]at d;simp[execOp,E,resolve,Deferred.ofValue,r,invoke,ab,d]
theorem HE(xs:List UInt8):Lib.bytesOf (xs.map (fun b=>(b.toNat:Int)))=xs:=by
 induction xs with
 |nil=>rfl
 |cons b xs ih=>simp only[Lib.bytesOf,dk,l9]at ih⊢;rw[ih];simp
end
end E
namespace E
section
variable {P : Program} {w0 : World} {n : Nat} {l : cm} {H : Heap} {T : Oper}
theorem wrap_u8(n:Int):IntKind.u8.wrap n=n%256:=by
 have d:IntKind.u8.signed=false:=rfl;have ab:(2^IntKind.u8.bits:Int)=256:=by decide
 simp only[IntKind.wrap,d,ab,vB,lF,if_false]
theorem Ph(x y:UInt8):IntKind.u8.wrap ((x.toNat:Int)+y.toNat)=((x+y).toNat:Int):=by
 rw[wrap_u8,UInt8.toNat_add];omega
theorem Py(a:Nat):IntKind.u8.wrap (a:Int)=((UInt8.ofNat a).toNat:Int):=by
 rw[wrap_u8,qH];omega
theorem Y.GX{x y:Operand}{t u:TypeId}{a b:UInt8}(d:T.op= .binOp .add t x y u)(j:aK l x=some (.int .u8 a.toNat))(hy:aK l y=some (.int .u8 b.toNat)):Y P w0 n l H T (.int .u8 (a+b).toNat):=Y.xI d j hy (Ph a b)
theorem Y.s0{x:Operand}{s d:TypeId}{k:IntKind}{a:Nat}{ds:TypeDesc}(j:T.op= .convert s d x)(ag:∀w,(underlying s).run P w= .ok ds w)(ah:∀w,(underlying d).run P w= .ok (.int .u8) w)(q:aK l x=some (.int k a)):Y P w0 n l H T (.int .u8 (UInt8.ofNat a).toNat):=by
 have h:=Y.conv (P:=P) (w0:=w0) (n:=n) (H:=H) j ag ah q
 rwa[Py]at h
theorem wrap_u32(n:Int):IntKind.u32.wrap n=n%4294967296:=by
 have d:IntKind.u32.signed=false:=rfl;have ab:(2^IntKind.u32.bits:Int)=4294967296:=by decide
 simp only[IntKind.wrap,d,ab,vB,lF,if_false]
theorem Pf(x y:UInt32):IntKind.u32.wrap ((x.toNat:Int)+y.toNat)=((x+y).toNat:Int):=by
 rw[wrap_u32,UInt32.toNat_add];omega
theorem Gv(a:Nat):IntKind.u32.wrap (a:Int)=((UInt32.ofNat a).toNat:Int):=by
 rw[wrap_u32,UInt32.toNat_ofNat'];omega
theorem uo(x:UInt32):BitVec.ofInt IntKind.u32.bits (x.toNat:Int)=x.toBitVec:=by
 apply BitVec.eq_of_toNat_eq;have:=x.toNat_lt;show(BitVec.ofInt 32 (x.toNat:Int)).toNat=x.toNat;rw[yL];omega
theorem w9(x:UInt32):IntKind.u32.wrap (x.toBitVec.toNat:Int)=(x.toNat:Int):=by
 have:=x.toNat_lt;rw[wrap_u32];show((x.toNat:Nat):Int)%_=_;omega
theorem Y.m6{x y:Operand}{t u:TypeId}{a b:UInt32}(d:T.op= .binOp .add t x y u)(j:aK l x=some (.int .u32 a.toNat))(hy:aK l y=some (.int .u32 b.toNat)):Y P w0 n l H T (.int .u32 (a+b).toNat):=Y.xI d j hy (Pf a b)
def q1(x:UInt32)(j:Nat):UInt32:=UInt32.ofNat (x.toNat*2^j)
def mi(x:UInt32)(j:Nat):UInt32:=UInt32.ofNat (x.toNat/2^j)
theorem Oc(x:UInt32)(j:Nat):(mi x j).toNat=x.toNat/2^j:=by
 have:=x.toNat_lt;rw[mi,UInt32.toNat_ofNat'];exact oT (Nat.lt_of_le_of_lt (yM _ _) this)
theorem Y.wO{x y:Operand}{t u:TypeId}{a_:IntKind}{a:UInt32}{aF:Int}(j:Nat)(r:T.op= .binOp .shl t x y u)(A:aK l x=some (.int .u32 a.toNat))(hy:aK l y=some (.int a_ aF))(d:aF=j)(q:j≤32):Y P w0 n l H T (.int .u32 (q1 a j).toNat):=by
 have h:=Y.shl (P:=P) (w0:=w0) (n:=n) (H:=H) r A hy J;rw[d,r0,show min j IntKind.u32.bits=j from kl q]at h;rw[show IntKind.u32.wrap ((a.toNat:Int)*2^j)=((q1 a j).toNat:Int)by rw[q1,←Gv];congr 1]at h;exact h
theorem Y.wP{x y:Operand}{t u:TypeId}{a_:IntKind}{a:UInt32}{aF:Int}(j:Nat)(r:T.op= .binOp .shr t x y u)(A:aK l x=some (.int .u32 a.toNat))(hy:aK l y=some (.int a_ aF))(d:aF=j)(q:j≤32):Y P w0 n l H T (.int .u32 (mi a j).toNat):=by
 have h:=Y.shr (P:=P) (w0:=w0) (n:=n) (H:=H) r A hy J;rw[d,r0,show min j IntKind.u32.bits=j from kl q]at h
 rw[show(a.toNat:Int).fdiv (2^j)=((mi a j).toNat:Int)by
  rw[Oc,Dy _ (by exact Int.le_of_lt (Int.pow_pos bc))];simp]at h
 exact h
theorem Y.Mi{x:Operand}{t:TypeId}{a:UInt32}(q:T.op= .unOp .xor t x)(r:aK l x=some (.int .u32 a.toNat)):Y P w0 n l H T (.int .u32 (~~~a).toNat):=by
 intro ac w j A;have d:(if IntKind.u32.signed then(-1:Int)else IntKind.u32.max)=((UInt32.ofNat 4294967295).toNat:Int):=by decide
 have ab:(BitVec.ofInt IntKind.u32.bits (if IntKind.u32.signed then(-1:Int)else IntKind.u32.max))^^^(BitVec.ofInt IntKind.u32.bits (a.toNat:Int))=(~~~a).toBitVec:=by
  rw[d,uo,uo];show BitVec.ofNat 32 4294967295^^^a.toBitVec= ~~~a.toBitVec;rw[show BitVec.ofNat 32 4294967295=BitVec.allOnes 32 by decide,BitVec.allOnes_xor]
 simp only[execOp,q,j.eval r,Op.unary,Op.intBits,ab,Sem.run_bind,Sem.run_pure,Result.andThen_ok];exact aI (fun v=>Result.ok (Next.value (Value.int .u32 v)) w) (w9 (~~~a))
theorem Y.sN{x y:Operand}{t u:TypeId}{a b:UInt32}(d:T.op= .binOp .and t x y u)(j:aK l x=some (.int .u32 a.toNat))(hy:aK l y=some (.int .u32 b.toNat)):Y P w0 n l H T (.int .u32 (a&&&b).toNat):=
 Y.bits .and _ d j hy bl (fun w=>by
  simp only[Op.intBits,uo];show(pure (Value.int .u32 (IntKind.u32.wrap ((a&&&b).toBitVec.toNat:Int))):Sem Value).run P w=_;rw[w9];rfl)
theorem Y.wv{x y:Operand}{t u:TypeId}{a b:UInt32}(d:T.op= .binOp .or t x y u)(j:aK l x=some (.int .u32 a.toNat))(hy:aK l y=some (.int .u32 b.toNat)):Y P w0 n l H T (.int .u32 (a|||b).toNat):=
 Y.bits .or _ d j hy bl (fun w=>by
  simp only[Op.intBits,uo];show(pure (Value.int .u32 (IntKind.u32.wrap ((a|||b).toBitVec.toNat:Int))):Sem Value).run P w=_;rw[w9];rfl)
theorem Y.nx{x y:Operand}{t u:TypeId}{a b:UInt32}(d:T.op= .binOp .xor t x y u)(j:aK l x=some (.int .u32 a.toNat))(hy:aK l y=some (.int .u32 b.toNat)):Y P w0 n l H T (.int .u32 (a^^^b).toNat):=
 Y.bits .xor _ d j hy bl (fun w=>by
  simp only[Op.intBits,uo];show(pure (Value.int .u32 (IntKind.u32.wrap ((a^^^b).toBitVec.toNat:Int))):Sem Value).run P w=_;rw[w9];rfl)
theorem Y.u7{x:Operand}{s d:TypeId}{k:IntKind}{a:Nat}{ds:TypeDesc}(j:T.op= .convert s d x)(ag:∀w,(underlying s).run P w= .ok ds w)(ah:∀w,(underlying d).run P w= .ok (.int .u32) w)(q:aK l x=some (.int k a)):Y P w0 n l H T (.int .u32 (UInt32.ofNat a).toNat):=by
 have h:=Y.conv (P:=P) (w0:=w0) (n:=n) (H:=H) j ag ah q
 rwa[Gv]at h
theorem wrap_u64(n:Int):IntKind.u64.wrap n=n%18446744073709551616:=by
 have d:IntKind.u64.signed=false:=rfl;have ab:(2^IntKind.u64.bits:Int)=18446744073709551616:=by decide
 simp only[IntKind.wrap,d,ab,vB,lF,if_false]
theorem Pg(x y:UInt64):IntKind.u64.wrap ((x.toNat:Int)+y.toNat)=((x+y).toNat:Int):=by
 rw[wrap_u64,UInt64.toNat_add];omega
theorem PH(x y:UInt64):IntKind.u64.wrap ((x.toNat:Int)-y.toNat)=((x-y).toNat:Int):=by
 have:=x.toNat_lt;have:=y.toNat_lt;rw[wrap_u64,yN];omega
theorem Px(x y:UInt64):IntKind.u64.wrap ((x.toNat:Int)*y.toNat)=((x*y).toNat:Int):=by
 rw[wrap_u64,UInt64.toNat_mul];rfl
theorem Gw(a:Nat):IntKind.u64.wrap (a:Int)=((UInt64.ofNat a).toNat:Int):=by
 rw[wrap_u64,l_];omega
theorem Gt(x:UInt64):BitVec.ofInt IntKind.u64.bits (x.toNat:Int)=x.toBitVec:=by
 apply BitVec.eq_of_toNat_eq;have:=x.toNat_lt;show(BitVec.ofInt 64 (x.toNat:Int)).toNat=x.toNat;rw[yL];omega
theorem Gs(x:UInt64):IntKind.u64.wrap (x.toBitVec.toNat:Int)=(x.toNat:Int):=by
 have:=x.toNat_lt;rw[wrap_u64];show((x.toNat:Nat):Int)%_=_;omega
theorem Y.GW{x y:Operand}{t u:TypeId}{a b:UInt64}(d:T.op= .binOp .add t x y u)(j:aK l x=some (.int .u64 a.toNat))(hy:aK l y=some (.int .u64 b.toNat)):Y P w0 n l H T (.int .u64 (a+b).toNat):=Y.xI d j hy (Pg a b)
theorem Y.wX{x y:Operand}{t u:TypeId}{a b:UInt64}(d:T.op= .binOp .sub t x y u)(j:aK l x=some (.int .u64 a.toNat))(hy:aK l y=some (.int .u64 b.toNat)):Y P w0 n l H T (.int .u64 (a-b).toNat):=Y.OP d j hy (PH a b)
theorem Y.LO{x y:Operand}{t u:TypeId}{a b:UInt64}(d:T.op= .binOp .mul t x y u)(j:aK l x=some (.int .u64 a.toNat))(hy:aK l y=some (.int .u64 b.toNat)):Y P w0 n l H T (.int .u64 (a*b).toNat):=Y.LP d j hy (Px a b)
def t_(x:UInt64)(j:Nat):UInt64:=UInt64.ofNat (x.toNat*2^j)
def iF(x:UInt64)(j:Nat):UInt64:=UInt64.ofNat (x.toNat/2^j)
theorem q2(x:UInt64)(j:Nat):(iF x j).toNat=x.toNat/2^j:=by
 have:=x.toNat_lt;rw[iF,l_];exact oT (Nat.lt_of_le_of_lt (yM _ _) this)
theorem Y.Ob{x y:Operand}{t u:TypeId}{a_:IntKind}{a:UInt64}{aF:Int}(j:Nat)(r:T.op= .binOp .shl t x y u)(A:aK l x=some (.int .u64 a.toNat))(hy:aK l y=some (.int a_ aF))(d:aF=j)(q:j≤64):Y P w0 n l H T (.int .u64 (t_ a j).toNat):=by
 have h:=Y.shl (P:=P) (w0:=w0) (n:=n) (H:=H) r A hy J;rw[d,r0,show min j IntKind.u64.bits=j from kl q]at h;rw[show IntKind.u64.wrap ((a.toNat:Int)*2^j)=((t_ a j).toNat:Int)by rw[t_,←Gw];congr 1]at h;exact h
theorem Y.ua{x y:Operand}{t u:TypeId}{a_:IntKind}{a:UInt64}{aF:Int}(j:Nat)(r:T.op= .binOp .shr t x y u)(A:aK l x=some (.int .u64 a.toNat))(hy:aK l y=some (.int a_ aF))(d:aF=j)(q:j≤64):Y P w0 n l H T (.int .u64 (iF a j).toNat):=by
 have h:=Y.shr (P:=P) (w0:=w0) (n:=n) (H:=H) r A hy J;rw[d,r0,show min j IntKind.u64.bits=j from kl q]at h
 rw[show(a.toNat:Int).fdiv (2^j)=((iF a j).toNat:Int)by
  rw[q2,Dy _ (by exact Int.le_of_lt (Int.pow_pos bc))];simp]at h
 exact h
theorem Y.xJ{x y:Operand}{t u:TypeId}{a b:UInt64}(d:T.op= .binOp .and t x y u)(j:aK l x=some (.int .u64 a.toNat))(hy:aK l y=some (.int .u64 b.toNat)):Y P w0 n l H T (.int .u64 (a&&&b).toNat):=
 Y.bits .and _ d j hy bl (fun w=>by
  simp only[Op.intBits,Gt];show(pure (Value.int .u64 (IntKind.u64.wrap ((a&&&b).toBitVec.toNat:Int))):Sem Value).run P w=_;rw[Gs];rfl)
theorem Y.ER{x y:Operand}{t u:TypeId}{a b:UInt64}(d:T.op= .binOp .or t x y u)(j:aK l x=some (.int .u64 a.toNat))(hy:aK l y=some (.int .u64 b.toNat)):Y P w0 n l H T (.int .u64 (a|||b).toNat):=
 Y.bits .or _ d j hy bl (fun w=>by
  simp only[Op.intBits,Gt];show(pure (Value.int .u64 (IntKind.u64.wrap ((a|||b).toBitVec.toNat:Int))):Sem Value).run P w=_;rw[Gs];rfl)
theorem Y.jm{x:Operand}{s d:TypeId}{k:IntKind}{a:Nat}{ds:TypeDesc}(j:T.op= .convert s d x)(ag:∀w,(underlying s).run P w= .ok ds w)(ah:∀w,(underlying d).run P w= .ok (.int .u64) w)(q:aK l x=some (.int k a)):Y P w0 n l H T (.int .u64 (UInt64.ofNat a).toNat):=by
 have h:=Y.conv (P:=P) (w0:=w0) (n:=n) (H:=H) j ag ah q
 rwa[Gw]at h
theorem cz.at{ad:Addr}{cs:List Value}{c:Value}(h:cz H ad cs)(j:Nat)(aq:cs[j]?=some c):cz H ⟨ad.block,ad.off+j,none⟩ [c]:=
 ⟨o,fun i d ah=>by
  match i,ah with
  |0,ah=>simp only[List.getElem?_cons_zero,kh]at ah;subst ah;exact h.cells j _ aq⟩
theorem Y.sP{x i:Operand}{t e:TypeId}{len:Nat}{k:IntKind}{aF:Int}{ad:Addr}{cs:List Value}(h:cz H ad cs)(j:Nat)(B:T.op= .indexAddr t x i)(C:∀w,(underlying t).run P w= .ok (.array len e) w)(ag:∀w,(sizeOf e).run P w= .ok 1 w)
 (E:aK l x=some (.pointer (some ad)))(q:aK l i=some (.int k aF))(r:aF=j)(A:j<len):Y P w0 n l H T (.pointer (some ⟨ad.block,ad.off+j,none⟩)):=by
 subst r;intro ac w d F;have:=add_eq h.spot j;simp[execOp,B,d.eval E,d.eval q,Instr.indexAt,asIntOf,Instr.sureAddr,C,ag,A,this]
theorem gA {x i : Operand} {t e : TypeId} {len : Nat} {k : IntKind} {aF : Int} {ad : Addr} {cs : List Value} (h : cz H ad cs) (j : Nat) (B : ∀w,(underlying t).run P w= .ok (.array len e) w) (ag : ∀w,(sizeOf e).run P w= .ok 1 w) (A : T.op= .indexAddr t x i := by exact rfl) (C : aK l x=some (.pointer (some ad)) := by exact rfl) (d : aK l i=some (.int k aF) := by exact rfl) (q : aF=j := by first|rfl|omega) (r : j<len := by first|omega|(simp;omega)|(simp;done)) : Y P w0 n l H T (.pointer (some ⟨ad.block,ad.off+j,none⟩)) := Y.sP h j A B ag C d q r
theorem Y.xR{x i:Operand}{t e:TypeId}{len:Nat}{k:IntKind}{aF:Int}{cs:Array Value}{c:Value}(j:Nat)(C:T.op= .index t x i)(E:∀w,(underlying t).run P w= .ok (.array len e) w)(ag:∀w,(sizeOf e).run P w= .ok 1 w)(q:∀w,(isAgg e).run P w= .ok false w)
 (F:aK l x=some (.agg cs))(r:aK l i=some (.int k aF))(A:aF=j)(B:j<len)(aq:cs[j]?=some c):Y P w0 n l H T c:=by
 subst A;intro ac w d G;simp[execOp,C,d.eval F,d.eval r,Instr.index,asIntOf,E,ag,q,B,part,aq]
theorem Y.zX{α:Type}{F:Nat→Prop}{f:α→List Value}{x:Operand}{B A:Option Operand}{t e:TypeId}{len:Nat}{ad:Addr}{cs:List Value}{xs:List α}(h:cz H ad cs)(N:F ad.block)(ao:ad.block<H.size)(ai:xs.length=len)(O:∀(i:Nat) (x:α),xs[i]?=some x→cs[i]?=(f x)[0]?∧(f x).length=1)(i j:Nat)
 (K:T.op= .slice t x B A none)(d:∀w,(underlying t).run P w= .ok (.array len e) w∨∃E,(underlying t).run P w= .ok (.pointer E) w∧(underlying E).run P w= .ok (.array len e) w)(ag:∀w,(sizeOf e).run P w= .ok 1 w)(M:aK l x=some (.pointer (some ad)))
 (R:B=none∧i=0∨∃p k aF,B=some p∧aK l p=some (.int k aF)∧aF=(i:Int))(Q:A=none∧j=len∨∃p k aF,A=some p∧aK l p=some (.int k aF)∧aF=(j:Int))(aa:i≤j)(ae:j≤len)(hm:len≤maxLen):
 (∀V,Y P w0 n l V T (.slice (some (if len=i then ad else⟨ad.block,ad.off+i,none⟩)) (j-i) (len-i)))∧Rd F H f 1 (.slice (some (if len=i then ad else⟨ad.block,ad.off+i,none⟩)) (j-i) (len-i)) ((xs.take j).drop i):=by
 constructor
 ·intro V ac w C Z
  have aP:∀w,(Instr.sliceBounds false len len (B.map ac.eval) (A.map ac.eval) none).run P w= .ok (i,j,len) w:=by
   intro w
   rcases R with⟨rfl,rfl⟩|⟨p,k,aF,rfl,G,rfl⟩<;>rcases Q with⟨rfl,rfl⟩|⟨eR,a_,ak,rfl,X,rfl⟩<;>
    simp[Instr.sliceBounds,Instr.sliceBound,asIntOf,C.eval, *]
  have I:=add_eq h.spot i;rcases d w with d|⟨E,d,W⟩
  ·simp[execOp,K,C.eval M,Instr.sliceAt,Instr.sureAddr,d,ag,aP,I]
  ·simp[execOp,K,C.eval M,Instr.sliceAt,Instr.slice,asAddr,d,W,ag,aP,I]
 ·have hlen:((xs.take j).drop i).length=j-i:=by simp;omega
  refine⟨_,_,by rw[hlen],by rw[hlen];omega,by omega,fun S=>?_⟩
  have af:i<j:=by
   apply k9;intro aq;exact S (mH (by rw[hlen];omega))
  rw[aA J];refine⟨_,o,o,N,ao,fun q y hy=>⟨o,fun r c L=>?_⟩⟩;rw[List.getElem?_drop,List.getElem?_take]at hy;split at hy
  ·obtain⟨G,ab⟩:=O (i+q) y hy
   have U:r=0:=by have:=(List.getElem?_eq_some_iff.1 L).1;omega
   subst U;have:=h.cells (i+q) c (by rw[G];exact L)
   simpa[rV]using this
  ·cases hy
theorem Y.uc{α:Type}{F:Nat→Prop}{f:α→List Value}{x:Operand}{q d:Option Operand}{t e:TypeId}{len:Nat}{ad:Addr}{cs:List Value}{xs:List α}(h:cz H ad cs)(B:F ad.block)(ao:ad.block<H.size)(O:xs.length=len)(C:∀(i:Nat) (x:α),xs[i]?=some x→cs[i]?=(f x)[0]?∧(f x).length=1)(i j:Nat)
 (L:T.op= .slice t x q d none)(M:∀w,(underlying t).run P w= .ok (.array len e) w∨∃r,(underlying t).run P w= .ok (.pointer r) w∧(underlying r).run P w= .ok (.array len e) w)(ag:∀w,(sizeOf e).run P w= .ok 1 w)(N:aK l x=some (.pointer (some ad)))
 (K:q=none∧i=0∨∃p k aF,q=some p∧aK l p=some (.int k aF)∧aF=(i:Int))(E:d=none∧j=len∨∃p k aF,d=some p∧aK l p=some (.int k aF)∧aF=(j:Int))(G:i≤j)(I:j≤len)(hm:len≤maxLen):
 ∃A,(∀V,Y P w0 n l V T A)∧Rd F H f 1 A ((xs.take j).drop i):=
 ⟨_,Y.zX h B ao O C i j L M ag N K E G I hm⟩
theorem NV{P:Program}(d:Nat){t e:TypeId}{len:Nat}{k:IntKind}{f:Nat→Int}{xs ys:List Int}(E:P.underlying t=some (.array len e))(he:P.underlying e=some (.int k))(ag:∀w,(sizeOf e).run P w= .ok 1 w)(A:∀w,(isAgg e).run P w= .ok false w)(F:xs.length=len)(hy:ys.length=len)(w:World):
 (Op.equalIn (d+2) t (.agg (xs.map (Value.int k)).toArray) (.agg (ys.map (Value.int k)).toArray)).run P w= .ok (decide (xs=ys)) w:=by
 have key:∀(m i:Nat),i+m=len→xs.take i=ys.take i→∀body:Nat→Option Bool×Unit→Sem (ForInStep (Option Bool×Unit)),
  (∀j (x:j<xs.length) (ab:j<ys.length) r,(body j r).run P w= .ok (if xs[j]=ys[j]then .yield (none,())else .done (some false,())) w)→
  (forIn (List.range' i m) (none,()) body).run P w= .ok (if xs=ys then(none,())else(some false,())) w:=by
  intro m
  induction m with
  |zero=>
   intro i B n body _;rw[eY J,eY J]at n
   simp[n]
  |succ m ih=>
   intro i B n body ao;rw[List.range'_succ,List.forIn_cons,Sem.run_bind,ao i J J];by_cases h:xs[i]' J=ys[i]' J
   ·simp only[h,if_true,Result.andThen_ok]
    exact ih (i+1) J (by rw[eP (show i<xs.length by omega),eP (show i<ys.length by omega),n,h]) body ao
   ·have C:xs≠ys:=fun e=>h (by subst e;rfl)
    simp only[h,if_false,Result.andThen_ok,C];rfl
 unfold Op.equalIn;simp only[Sem.run_bind,run_underlying E,Result.andThen_ok,ag];rw[Dz];simp only[Std.Legacy.Range.size,td,Nat.add_sub_cancel,Nat.div_one];rw[key len 0 J o _ (fun j x ab r=>?_)]
 ·by_cases h:xs=ys<;>simp[h,Result.andThen]
 ·have e9:∀(zs:List Int) (h:j<zs.length),(part e (zs.map (Value.int k)).toArray (j*1)).run P w= .ok (.int k zs[j]) w:=fun zs h=>by simp[part,A,h]
  have q:(Op.equalIn (d+1) e (.int k xs[j]) (.int k ys[j])).run P w= .ok (xs[j]==ys[j]) w:=run_equalIn_int w d e k k _ _ he;simp only[Sem.run_bind,e9 xs x,e9 ys ab,Result.andThen_ok,q];by_cases h:xs[j]=ys[j]<;>simp[h]
abbrev yC(l:List UInt8):Value:= .agg (l.map (fun b=>Value.int .u8 b.toNat)).toArray
theorem i_{P:Program}(d:Nat){t e:TypeId}{len:Nat}{xs ys:List UInt8}(q:P.underlying t=some (.array len e))(he:P.underlying e=some (.int .u8))(ag:∀w,(sizeOf e).run P w= .ok 1 w)(j:∀w,(isAgg e).run P w= .ok false w)(r:xs.length=len)(hy:ys.length=len)(w:World):
 (Op.equalIn (d+2) t (yC xs) (yC ys)).run P w= .ok (decide (xs=ys)) w:=by
 have h:=NV (P:=P) d (k:= .u8) (f:=fun _=>0) (xs:=xs.map (fun b=>(b.toNat:Int))) (ys:=ys.map (fun b=>(b.toNat:Int))) q he ag j (by simpa using r) (by simpa using hy) w;rw[l9,l9]at h
 have n:(xs.map (fun b=>(b.toNat:Int))=ys.map (fun b=>(b.toNat:Int)))↔xs=ys:=
  ⟨fun e=>(List.map_inj_right (fun a b h=>vC.1 J)).1 e,fun e=>by rw[e]⟩
 rw[decide_eq_decide.2 n]at h;exact h
end
section
variable {P : Program} {w0 : World} {n : Nat} {l : cm} {H : Heap} {T : Oper}
theorem Z.copy{α:Type}{F:Nat→Prop}{f:α→List Value}{d x:Operand}{t t2 e C:TypeId}{b off A N:Nat}{u:Value}{cs:List Value}{ys:List α}(M:Var e H b cs)(K:Rd F H f 1 u ys)(G:∀x,(f x).length=1)(ai:∀x,∀u∈f x,u.oneCell'=true)(af:T.op= .call {callee:= .builtin .copy,args:= #[d,x],argTypes:= #[t,t2]})
 (an:P.underlying t=some (.slice C)) (ag:∀w,(sizeOf C).run P w= .ok 1 w) (ah:aK l d=some (.slice (some ⟨b,off,none⟩) A N)) (ar:aK l x=some u) (av:off+A≤cs.length) (k:Nat) (X:k=min ys.length A):
 Z P w0 n l H T (fun r V=>r= .int .i64 k∧Var e V b (er cs off ((ys.take k).flatMap f))∧aa (fun g=>g=b) H V):=by
 intro a w E q;obtain⟨O,S,U⟩:=id M.row;have hlen:((ys.take k).flatMap f).length=k:=by rw[length_flatMap G,lE,eJ];omega
 have Q:∀c∈(ys.take k).flatMap f,c.oneCell'=true:=by
  intro c aq;obtain⟨y,_,hy⟩:=tf.1 aq;exact ai y c hy
 obtain⟨ad,cap,rfl,_,_,R⟩:=id K.ex;have Y:Nat.min ys.length A=k:=X.symm
 have W:(Builtin.firstCells 1 k (.slice ad ys.length cap)).run P w= .ok ((ys.take k).flatMap f).toArray w:=by
  cases ad with
  |none=>
   have B:ys=[]:=by
    apply k9;intro ae;obtain⟨ad,aB,_⟩:=R ae;cases aB
   subst B
   simp[Builtin.firstCells]
  |some ad=>
   have ak:=K.oY G o q
   exact run_firstCells_some (P:=P) w 1 k ad ys.length cap _ (by rw[hlen,lE]) (fun j v I=>ak j v (by
    have B:ys.flatMap f=(ys.take k).flatMap f++(ys.drop k).flatMap f:=by rw[←jq,hY]
    rw[B,List.getElem?_append_left (List.getElem?_eq_some_iff.1 I).1];exact I))
 have L:=qY P b off e O ((ys.take k).flatMap f) 0 cs.toArray w (by rw[q.heap];exact S) U (by rw[hlen];simp;omega) Q;simp only[mI]at L;refine⟨_,_,w.setRow b (er cs off ((ys.take k).flatMap f)).toArray,?_,q.row _ _,o,⟨wN q M.row (by simp[er,hlen];omega)⟩,tZ q _ _⟩;simp[execOp,af,E.eval ah,E.eval ar,resolve,invoke,builtin,Builtin.copy_,run_underlying an,Builtin.lenOf,ag,Y,W,L,er,goInt]
end
section
variable {P : Program} {w0 : World} {H : Heap} {n : Nat} {l : cm}
theorem Fp{ty:TypeId}{ad:Addr}{cs:List Value}{k:Nat}{w:World}(d:At w0 H w)(h:cz H ad cs)(q:∀w,(isAgg ty).run P w= .ok true w)(ag:∀w,(sizeOf ty).run P w= .ok k w)(n:cs.length=k):(loadVar ty ad).run P w= .ok (.agg cs.toArray) w:=by
 have:=run_loadCellsFrom (P:=P) (w:=w) h.spot k 0 cs #[] n (fun j c e=>by rw[d.cell];simpa using h.cells j c e);simp[loadVar,q,ag,loadCells,this]
theorem lg{fn:Func}{p:Nat}{ty:TypeId}{ad:Addr}{cs:List Value}{k:Nat}(h:fn.results= #[.cell p ty])(e:c6 l p=some (.pointer (some ad)))(x:cz H ad cs)(A:∀w,(isAgg ty).run P w= .ok true w)(ag:∀w,(sizeOf ty).run P w= .ok k w)(r:cs.length=k):
 ∀a w,Fr n l a→At w0 H w→(results fn a.tmps).run P w= .ok (.agg cs.toArray) w:=by
 intro a w q j;have d:=q.get p _ e;have ab:=Fp (P:=P) j x A ag r;simp only[results,h];simp[d,asAddr,ab]
theorem zP{fn:Func}{p u:Nat}{ty:TypeId}{ad:Addr}{cs:List Value}{k:Nat}{v:Value}(h:fn.results= #[.cell p ty,.tmp u])(e:c6 l p=some (.pointer (some ad)))(B:cz H ad cs)(C:∀w,(isAgg ty).run P w= .ok true w)(ag:∀w,(sizeOf ty).run P w= .ok k w)(A:cs.length=k)(j:c6 l u=some v):
 ∀a w,Fr n l a→At w0 H w→(results fn a.tmps).run P w= .ok (.tuple #[.agg cs.toArray,v]) w:=by
 intro a w d x;have q:=d.get p _ e;have r:=d.get u _ j;have ab:=Fp (P:=P) x B C ag A;simp only[results,h];simp[q,r,asAddr,ab]
end
end E
namespace E
def im(P:Program)(w0:World)(v:Value)(args:List Value)(H:Heap)(j:Value→Heap→Prop):Prop:=
 ∃f caps,v= .func (.func f) #[] caps∧(∀(d:Array Value) (w:World),(callFunc f d).run P w= .ok (.enter f d) w)∧aE P w0 f (args.toArray++caps) H j
section
variable {P : Program} {w0 : World} {Q : Exit → Act → World → Prop} {n : Nat} {l : cm} {H : Heap} {ops : Array Oper} {rest : List Oper} {T : Oper}
theorem im.of{f:FuncId}{caps:List Value}{args:List Value}{d:Value→Heap→Prop}(n:∀(j:Array Value) (w:World),(callFunc f j).run P w= .ok (.enter f j) w)(h:aE P w0 f (args++caps).toArray H d):im P w0 (.func (.func f) #[] caps.toArray) args H d:=
 ⟨f,caps.toArray,o,n,by simpa using h⟩
theorem G.qp{x:Value→Heap→Prop}{d:Nat}{c:Operand}{fl:Value}{args:List Operand}{B:Array TypeId}{j:List Value}(M:T.op= .call {callee:= .value c,args:=args.toArray,argTypes:=B})
 (L:aK l c=some fl) (O:iA l args=some j) (hw:dr ops l T) (ah:T.dst=some d) (aB:Nat.blt d n=true) (aq:im P w0 fl j H x)
 (h:∀v V,x v V→G false P w0 ops Q n ((d,v)::l) rest V):G false P w0 ops Q n l (T::rest) H:=by
 intro a w q E;simp only[lX];obtain⟨f,caps,rfl,I,K⟩:=aq
 have N:(execOp a.eval T).run P w= .ok (.enter f (j.toArray++caps)) w:=by
  have ab:=q.mC O;have S:(args.toArray.map a.eval)=j.toArray:=by rw[qC,ab]
  simp[execOp,M,resolve,Deferred.ofValue,q.eval L,invoke,I,ab]
 unfold wpList;rw[aM (hw n a q)];refine .inl ?_;unfold Oper.wp;rw[N];show Calls P f (j.toArray++caps) w _;refine(K w E).mono ?_;rintro e R ⟨r,V,rfl,F,C⟩;have A:=q.put aB r;rw[←ah]at A;exact h r V C _ R A F
theorem Y.makeFunc{f:FuncId}{caps:List Operand}{d:List Value}(q:T.op= .makeFunc (.func f) #[] caps.toArray)(r:iA l caps=some d):Y P w0 n l H T (.func (.func f) #[] d.toArray):=by
 intro a w j x;have ab:=j.mC r;simp[execOp,q,Instr.makeFunc,ab]
theorem Y.od{x y:Operand}{t u:TypeId}{a_:IntKind}{a:Nat}{aF:Int}(j:Nat)(r:T.op= .binOp .shl t x y u)(A:aK l x=some (.int .i64 a))(hy:aK l y=some (.int a_ aF))(d:aF=j)(q:j≤64)(ao:a*2^j≤9223372036854775807):Y P w0 n l H T (.int .i64 ((a*2^j:Nat):Int)):=by
 have h:=Y.shl (P:=P) (w0:=w0) (n:=n) (H:=H) r A hy J;rw[d,r0,show min j IntKind.i64.bits=j from kl q]at h;rw[show((a:Int)*2^j)=((a*2^j:Nat):Int)by simp,IntWalk.i64_in _ J]at h;exact h
theorem Y.u6{x:Operand}{s d:TypeId}{b:UInt8}{ds:TypeDesc}(j:T.op= .convert s d x)(ag:∀w,(underlying s).run P w= .ok ds w)(ah:∀w,(underlying d).run P w= .ok (.int .i64) w)(q:aK l x=some (.int .u8 b.toNat)):Y P w0 n l H T (.int .i64 (b.toNat:Nat)):=
 Y.qs j ag ah q (IntWalk.i64_in _ (by have:=b.toNat_lt;omega))
theorem EI{a:Nat}(h:a≤9223372036854775807):(BitVec.ofInt IntKind.i64.bits (a:Int)).toNat=a:=by
 show(BitVec.ofInt 64 (a:Int)).toNat=a;rw[yL];omega
theorem Y.mU{x y:Operand}{t u:TypeId}{a b:Nat}(j:T.op= .binOp .or t x y u)(q:aK l x=some (.int .i64 a))(hy:aK l y=some (.int .i64 b))(d:a≤9223372036854775807)(ab:b≤9223372036854775807):Y P w0 n l H T (.int .i64 ((a|||b:Nat):Int)):=by
 refine Y.bits .or _ j q hy bl (fun w=>?_);have r:a|||b<2^63:=Nat.or_lt_two_pow J J
 have e:(BitVec.ofInt IntKind.i64.bits (a:Int)|||BitVec.ofInt IntKind.i64.bits (b:Int)).toNat=a|||b:=by
  rw[BitVec.toNat_or,EI d,EI ab]
 show(pure (Value.int .i64 (IntKind.i64.wrap ((BitVec.ofInt IntKind.i64.bits (a:Int)|||BitVec.ofInt IntKind.i64.bits (b:Int)).toNat:Int))):Sem Value).run P w=_;rw[e,IntWalk.i64_in _ J];rfl
end
end E
namespace gK
def ck:Nat→UInt64→List UInt8
 |0,_=>[]
 |j+1,x=>UInt8.ofNat (iF x (8*j)).toNat::ck j x
theorem eQ:∀(n:Nat) (x:UInt64),(ck n x).length=n
 |0,_=>rfl
 |n+1,x=>by rw[ck,fx,eQ]
theorem pP(k:Nat)(v:Value)(xs:List UInt8)(n:Nat)(x:UInt64)(w0:World)(N:Heap)
 (d:aY k 5 N bd 1 v xs)(aB:n≤8)(aU:xs.length≤1099511627776):
 aE Tryz.prog w0 120 #[v,.int .i64 n,.int .u64 x.toNat] N (fun r L=>∃v2:Value,∃a_:Nat,r=v2∧aY a_ 5 L bd 1 v2 (xs++ck n x)∧ae k N.size a_∧aa (ay [k]) N L):=by
 refine aE.aP [v,.int .i64 n,.int .u64 x.toNat] Tryz.func120 ?_;intro aL aH;have E:aa (ay [k]) N N:=aa.refl _ _;have M:=ae.refl k N.size;have ad:=d.le;refine I.O (fun am=>?_);refine G.aj ?_;refine am (I.t1 (fun ai=>I.O (fun ap=>?_)));refine G.af ?_;refine G.v1 gq ?_;refine G.aj ?_;refine ap (I.aC (fun _ ak _=>?_))
 refine I.bb (fun(aJ:Nat×Value×Nat×(List UInt8))=>match aJ with|(j,C,B,ys)=>[(0,C),(2,.int .u64 x.toNat),(7,.int .i64 ((j:Int)-1))])
  (fun(j,C,B,ys) (H:Heap)=>(j≤n)∧aY B 5 H bd 1 C ys∧ys++ck j x=xs++ck n x∧ae k N.size B∧aa (ay [k]) N H)
  (fun(j,C,B,ys)=>j) (n,v,k,xs) ⟨o,o,o,trivial⟩ ?_ ?_
 ·
  exact⟨J,d,o,ae.refl _ _,aa.refl _ _⟩
 rintro⟨j,C,B,ys⟩ aN ar aK av a7;obtain⟨aS,d,F,ac,A⟩:=ar;have ax:=ae.O M ac E.size;obtain⟨E,_⟩:=c0 A E (an.r M);have ad:=d.le;have az:=ac;have aV:ys.length+j=xs.length+n:=by have:=aI List.length F;simpa[eQ]using this
 refine I.t2 (fun aC aD=>I.O (fun aG=>?_));refine G.af ?_;refine G.v1 eT (G.nil (aG ?_));refine a8 (fun P=>?_) (fun P=>?_)
 ·
  obtain⟨j,rfl⟩:∃q,j=q+1:=⟨j-1,by omega⟩;refine I.skip (aC (I.t1 (fun Q=>I.aC (fun R _ _=>I.region ?_))));refine G.av 3 ?_;refine G.v1 (Y.lJ o o o J) ?_;refine G.v1 (Y.ua (8*j) o o o gP J) ?_;refine G.v1 (Y.s0 o hA lP o) ?_;refine G.aU (Z.c2 (dE _ ([UInt8.ofNat (iF x (8*j)).toNat]) fw fM hh)) ?_;rintro aO aP ⟨W,X,_⟩;obtain⟨d,A,_⟩:=bO X d A;refine G.aU (eO d W.rd fw h0 h0) ?_;rintro S aQ ⟨U,O,af,K⟩;have K:=K.md;have V:=ae.O az af A.size;obtain⟨A,_⟩:=c0 K A (an.r az);have aR:=O.le;refine G.aj ?_;refine R (Q (I.region ?_));refine G.af ?_;refine G.v1 gq ?_;refine G.aj ?_;refine aT.sub (av (j,S,U,ys++[UInt8.ofNat (iF x (8*j)).toNat]) _ ?_ ?_) ⟨o,(aF J),(aF J),trivial⟩
  ·exact⟨J,O,by rw[←F,dA];rfl,V,A⟩
  ·first|omega|(simp only;omega)|(simp;omega)
 ·
  obtain rfl:j=0:=by omega
  rw[ck,hi]at F;subst F;refine I.exit (aD (a7 (ak ?_)));refine ai (I.O (fun ag=>?_));refine G.aZ 2 ?_;refine ag ?_;refine I.ret (aH ?_);exact⟨C,B,o,d,ax,E⟩
end gK
namespace uu
open gK
def k2(n:Nat):List UInt8:=[UInt8.ofNat (n/2^24),UInt8.ofNat (n/2^16),UInt8.ofNat (n/2^8),UInt8.ofNat n]
def m7(v:Nat)(l:List UInt8):Nat:=l.foldl (fun v x=>v*256+x.toNat) v
theorem sQ(n:Nat):(k2 n).length=4:=rfl
theorem Mp(n:Nat)(h:n<18446744073709551616):ck 4 (UInt64.ofNat n)=k2 n:=by
 have e:∀j,(iF (UInt64.ofNat n) j).toNat=n/2^j:=fun j=>by rw[q2,l_,oT h]
 simp only[ck,e,k2];simp
theorem Bv:∀(l:List UInt8) (v:Nat),m7 v l<(v+1)*256^l.length
 |[],v=>by simp[m7]
 |x::l,v=>by
  have d:=x.toNat_lt;have:=Bv l (v*256+x.toNat);have e:m7 v (x::l)=m7 (v*256+x.toNat) l:=rfl;rw[e,fx,Nat.pow_succ];refine l7 this ?_;have:v*256+x.toNat+1≤(v+1)*256:=by omega
  calc (v*256+x.toNat+1)*256^l.length≤((v+1)*256)*256^l.length:=kN _ this
   _=(v+1)*(256^l.length*256):=by rw[Nat.mul_assoc,qF 256]
theorem Ho(l:List UInt8)(h:l.length≤4):m7 0 l<4294967296:=by
 have:=Bv l 0;have ab:256^l.length≤256^4:=Nat.pow_le_pow_right bc h;omega
theorem zA(a:Nat)(x:UInt8):a*2^8|||x.toNat=a*256+x.toNat:=by
 rw[qF,←Nat.two_pow_add_eq_or_of_lt x.toNat_lt]
theorem Hp(n:Nat)(h:n<4294967296):m7 0 (k2 n)=n:=by
 simp only[m7,k2,gX,k_,qH];omega
end uu
namespace xA
def kv(x:UInt32)(j:Nat):UInt32:=mi x j|||q1 x (32-j)
theorem G1:∀j:Nat,j<32→0<j→(UInt64.ofNat (18446744073709551616-j)&&&UInt64.ofNat 31)=UInt64.ofNat (32-j):=by decide+kernel
theorem NM(x:UInt32)(j:Nat)(w0:World)(N:Heap)
 (A:0<j)(B:j<32):
 aE Tryz.prog w0 280 #[.int .u32 x.toNat,.int .i64 (-(j:Int))] N (fun r d=>r= .int .u32 (kv x j).toNat∧d=N):=by
 refine aE.aP [.int .u32 x.toNat,.int .i64 (-(j:Int))] Tryz.func280 ?_;intro E C;refine I.O (fun n=>?_);refine G.aj ?_;refine n (I.O (fun q=>?_));refine G.af ?_;refine G.v1 (Y.conv o gZ Ar o) ?_;rw[show IntKind.u64.wrap (-(j:Int))=((UInt64.ofNat (18446744073709551616-j)).toNat:Int)by rw[wrap_u64,l_];omega];refine G.v1 (Y.xJ (b:=(UInt64.ofNat 31)) o o o) ?_;rw[G1 j B A];refine G.aj ?_;refine q (I.O (fun ac=>?_));refine G.av 2 ?_;refine G.v1 (Y.wO (32-j) o o o (by rw[l_];omega) J) ?_;refine G.av 2 ?_;refine G.v1 (Y.wX (a:=(UInt64.ofNat 32)) o o o) ?_;rw[show UInt64.ofNat 32-UInt64.ofNat (32-j)=UInt64.ofNat j from ti.1 (by rw[yN,l_,l_,l_];omega)];refine G.v1 (Y.wP j o o o (by rw[l_];omega) J) ?_;refine G.v1 (Y.wv o o o) ?_;refine G.aj ?_;refine ac ?_;refine I.ret (C ?_);exact⟨by rw[kv,UInt32.or_comm],o⟩
theorem oh(x:UInt32)(j:Nat)(w0:World)(N:Heap)
 (A:0<j)(B:j<32):
 aE Tryz.prog w0 278 #[.int .u32 x.toNat,.int .i64 j] N (fun r d=>r= .int .u32 (kv x j).toNat∧d=N):=by
 refine aE.aP [.int .u32 x.toNat,.int .i64 j] Tryz.func278 ?_;intro F C;refine I.O (fun n=>?_);refine G.aj ?_;refine n (I.O (fun q=>?_));refine G.av 2 ?_;refine G.v1 (Y.neg o o) ?_;rw[IntWalk.i64_in _ J,Int.zero_sub];refine aW Ix (NM x j w0 N A B) ?_;rintro H E ⟨rfl,rfl⟩;refine G.aj ?_;refine q ?_;refine I.ret (C ?_);exact⟨o,o⟩
def sD(a b c d:UInt8):UInt32:=q1 (UInt32.ofNat a.toNat) 24|||q1 (UInt32.ofNat b.toNat) 16|||q1 (UInt32.ofNat c.toNat) 8|||UInt32.ofNat d.toNat
theorem PC(v:Value)(l:List UInt8)(w0:World)(N:Heap)
 (d:b7 N bd 1 v l)(M:4≤l.length):
 aE Tryz.prog w0 277 #[v] N (fun r j=>r= .int .u32 (sD l[0] l[1] l[2] l[3]).toNat∧j=N):=by
 refine aE.aP [v] Tryz.func277 ?_;intro E C;refine I.O (fun ac=>?_);refine G.aj ?_;refine ac (I.t1 (fun x=>?_));refine jk ?_;refine G.af ?_;refine G.cn (Y.indexAddr d (0) o dV dK o o gP ic) fun K A=>?_;refine G.v1 (bf A fE) ?_;refine G.v1 (Y.u7 o lP um o) ?_;refine G.v1 (Y.wO (24) o o o gP J) ?_;refine G.af ?_;refine G.cn (Y.indexAddr d (1) o dV dK o o gP ic) fun L B=>?_;refine G.v1 (bf B fE) ?_;refine G.v1 (Y.u7 o lP um o) ?_;refine G.v1 (Y.wO (16) o o o gP J) ?_;refine G.v1 (Y.wv o o o) ?_;refine G.af ?_;refine G.cn (Y.indexAddr d (2) o dV dK o o gP ic) fun F n=>?_;refine G.v1 (bf n fE) ?_;refine G.v1 (Y.u7 o lP um o) ?_;refine G.v1 (Y.wO (8) o o o gP J) ?_;refine G.v1 (Y.wv o o o) ?_;refine G.af ?_;refine G.cn (Y.indexAddr d (3) o dV dK o o gP ic) fun H q=>?_;refine G.v1 (bf q fE) ?_;refine G.v1 (Y.u7 o lP um o) ?_;refine G.v1 (Y.wv o o o) ?_;refine G.aj ?_;refine x ?_;refine I.ret (C ?_);exact⟨o,o⟩
end xA
namespace rj
open xA
abbrev gR(x:UInt32):Value:= .int .u32 x.toNat
abbrev jI(x:UInt8):Value:= .int .u8 x.toNat
structure hP where
 a:UInt32
 b:UInt32
 c:UInt32
 d:UInt32
 e:UInt32
 f:UInt32
 g:UInt32
 h:UInt32
abbrev hP.list(s:hP):List UInt32:=[s.a,s.b,s.c,s.d,s.e,s.f,s.g,s.h]
abbrev hP.cells(s:hP):List Value:=[gR s.a,gR s.b,gR s.c,gR s.d,gR s.e,gR s.f,gR s.g,gR s.h]
def EK(s:hP)(k w:UInt32):UInt32:=s.h+(kv s.e 6^^^kv s.e 11^^^kv s.e 25)+(s.e&&&s.f^^^ ~~~s.e&&&s.g)+k+w
def two(s:hP):UInt32:=(kv s.a 2^^^kv s.a 13^^^kv s.a 22)+(s.a&&&s.b^^^s.a&&&s.c^^^s.b&&&s.c)
def tV(s:hP)(k w:UInt32):hP:=⟨EK s k w+two s,s.a,s.b,s.c,s.d+EK s k w,s.e,s.f,s.g⟩
def grow(w:List UInt32):List UInt32:=w++[w.getD (w.length-16) 0+(kv (w.getD (w.length-15) 0) 7^^^kv (w.getD (w.length-15) 0) 18^^^mi (w.getD (w.length-15) 0) 3)+w.getD (w.length-7) 0+(kv (w.getD (w.length-2) 0) 17^^^kv (w.getD (w.length-2) 0) 19^^^mi (w.getD (w.length-2) 0) 10)]
def wJ(w0:List UInt32):Nat→List UInt32
 |0=>w0
 |n+1=>grow (wJ w0 n)
def rL(b:List UInt8)(n:Nat):List UInt32:=(List.range n).map (fun i=>sD (b.getD (4*i) 0) (b.getD (4*i+1) 0) (b.getD (4*i+2) 0) (b.getD (4*i+3) 0))
def mv:List UInt32:=[0x428a2f98,0x71374491,0xb5c0fbcf,0xe9b5dba5,0x3956c25b,0x59f111f1,0x923f82a4,0xab1c5ed5,0xd807aa98,0x12835b01,0x243185be,0x550c7dc3,0x72be5d74,0x80deb1fe,0x9bdc06a7,0xc19bf174,0xe49b69c1,0xefbe4786,0xfc19dc6,0x240ca1cc,0x2de92c6f,0x4a7484aa,0x5cb0a9dc,0x76f988da,0x983e5152,0xa831c66d,0xb00327c8,0xbf597fc7,0xc6e00bf3,0xd5a79147,0x6ca6351,0x14292967,0x27b70a85,0x2e1b2138,0x4d2c6dfc,0x53380d13,0x650a7354,0x766a0abb,0x81c2c92e,0x92722c85,0xa2bfe8a1,0xa81a664b,0xc24b8b70,0xc76c51a3,0xd192e819,0xd6990624,0xf40e3585,0x106aa070,0x19a4c116,0x1e376c08,0x2748774c,0x34b0bcb5,0x391c0cb3,0x4ed8aa4a,0x5b9cca4f,0x682e6ff3,0x748f82ee,0x78a5636f,0x84c87814,0x8cc70208,0x90befffa,0xa4506ceb,0xbef9a3f7,0xc67178f2]
def zR(s:hP)(w:List UInt32):Nat→hP
 |0=>s
 |n+1=>tV (zR s w n) (mv.getD n 0) (w.getD n 0)
def A_(s t:hP):hP:=⟨s.a+t.a,s.b+t.b,s.c+t.c,s.d+t.d,s.e+t.e,s.f+t.f,s.g+t.g,s.h+t.h⟩
def compress(s:hP)(b:List UInt8):hP:=A_ s (zR s (wJ (rL b 16) 48) 64)
theorem NN (w0:World)(N:Heap)
 :
 aE Tryz.prog w0 279 #[] N (fun r j=>r= .agg (mv.map gR).toArray∧al N j):=by
 refine aE.enter (args:=[]) Tryz.func279 o o o ?_;intro F B;refine I.O (fun q=>?_);refine G.aU (Z.nE o GG) ?_;rintro L n ⟨rfl,d,E,K,H⟩;have d:Var 335 n N.size (List.replicate 64 (gR 0)):=d;refine G.nil (q (I.O (fun A=>?_)));refine G.v1 (Y.build (v:= .agg (mv.map gR).toArray) o o fy) ?_;refine G.s1 (S.var d (mv.map gR) (mv.map gR) o o o o (by intro u hu;obtain⟨x,_,rfl⟩:=cN.1 hu;rfl) Fw o (iS o) bD) ?_;rintro ac ⟨d,C⟩;refine G.nil (A ?_);refine I.ret (B .ret (.inr o) _ _ _ (lg o o d.W GN Fw (by first|rfl|simp)) ?_);exact⟨o,E.trans C (fun _ _ e=>e) (fun b ao e=>by omega)⟩
end rj
namespace uA
open xA rj
theorem pN(w:List UInt32)(j:Nat)(h:j<w.length):(w.map gR)[j]?=some (gR (w.getD j 0)):=by simp[h]
theorem map_set(w:List UInt32)(j:Nat)(x:UInt32):(w.map gR).set (0+j) (gR x)=(w.set j x).map gR:=by rw[jL,vD]
theorem Aj{α:Type}(w:List α)(j:Nat)(x:α)(h:j<w.length):(w.set j x).take (j+1)=w.take j++[x]:=by
 rw[eP (by simpa using h),List.take_set];rw[tj b2];simp
theorem getD_take(w:List UInt32)(j k:Nat)(h:j<k):(w.take k).getD j 0=w.getD j 0:=by
 simp[List.getD,List.getElem?_take,h]
theorem Ka(b:List UInt8)(n:Nat):rL b (n+1)=rL b n++[sD (b.getD (4*n) 0) (b.getD (4*n+1) 0) (b.getD (4*n+2) 0) (b.getD (4*n+3) 0)]:=by
 unfold rL;rw[List.range_succ,gg];rfl
def qR(w:List UInt32)(i:Nat):UInt32:=w.getD (i-16) 0+(kv (w.getD (i-15) 0) 7^^^kv (w.getD (i-15) 0) 18^^^mi (w.getD (i-15) 0) 3)+w.getD (i-7) 0+(kv (w.getD (i-2) 0) 17^^^kv (w.getD (i-2) 0) 19^^^mi (w.getD (i-2) 0) 10)
theorem Kr(w:List UInt32)(i:Nat)(j:16≤i)(h:i≤w.length):grow (w.take i)=w.take i++[qR w i]:=by
 unfold grow qR;have d:(w.take i).length=i:=by simp;omega
 rw[d,getD_take w (i-16) i J,getD_take w (i-15) i J,getD_take w (i-7) i J,getD_take w (i-2) i J]
abbrev aq(s:List UInt32)(wt:List UInt8)(n:Nat)(az:UInt64):List Value:=s.map gR++wt.map jI++[.int .i64 n,.int .u64 az.toNat]
theorem oO{s:List UInt32}{wt:List UInt8}{n:Nat}{az:UInt64}(ag:s.length=8)(hw:wt.length=64):(aq s wt n az).length=74:=by simp[ag,hw]
theorem Dp{s:List UInt32}{wt:List UInt8}{n:Nat}{az:UInt64}(ag:s.length=8)(i:Nat)(x:UInt8)(h:wt[i]?=some x):((aq s wt n az).drop 8)[i]?=(bd x)[0]?∧(bd x).length=1:=by
 refine⟨?_,o⟩;have d:=(List.getElem?_eq_some_iff.1 h).1;have:(s.map gR).length=8:=by simpa using ag
 rw[aq,dA,ma this,List.getElem?_append_left (by simpa using d)];simp[h]
theorem vr{s:List UInt32}{wt:List UInt8}{n:Nat}{az:UInt64}(ag:s.length=8)(hw:wt.length=64):(aq s wt n az)[72]?=some (.int .i64 n):=by
 rw[aq,List.getElem?_append_right (by simp[ag,hw])];simp[ag,hw]
theorem Dm{s:List UInt32}{wt:List UInt8}{n:Nat}{az:UInt64}(ag:s.length=8)(hw:wt.length=64):(aq s wt n az)[73]?=some (.int .u64 az.toNat):=by
 rw[aq,List.getElem?_append_right (by simp[ag,hw])];simp[ag,hw]
theorem Dn{s:List UInt32}{wt:List UInt8}{n m:Nat}{az:UInt64}(ag:s.length=8)(hw:wt.length=64):(aq s wt n az).set 72 (.int .i64 m)=aq s wt m az:=by
 rw[aq,mJ _ _ (by simp[ag,hw])];simp[ag,hw]
theorem Ku{s:List UInt32}{wt:List UInt8}{n:Nat}{az be:UInt64}(ag:s.length=8)(hw:wt.length=64):(aq s wt n az).set 73 (.int .u64 be.toNat)=aq s wt n be:=by
 rw[aq,mJ _ _ (by simp[ag,hw])];simp[ag,hw]
theorem Kx{s:List UInt32}{wt:List UInt8}{n:Nat}{az:UInt64}(i:Nat)(d:i<s.length):(aq s wt n az)[i]?=some (gR (s.getD i 0)):=by
 rw[aq,dA,List.getElem?_append_left (by simpa using d)];simp[d]
theorem Kv{s:List UInt32}{wt:List UInt8}{n:Nat}{az:UInt64}(i:Nat)(d:i<s.length)(x:UInt32):(aq s wt n az).set (0+i) (gR x)=aq (s.set i x) wt n az:=by
 rw[aq,dA,yF _ _ (by simpa using d),jL,←dA,aq,vD]
theorem PB(wt:List UInt8)(i:Nat)(h:wt.length=64)(d:i<16)(q:4≤((wt.take 64).drop (4*i)).length):sD ((wt.take 64).drop (4*i))[0] ((wt.take 64).drop (4*i))[1] ((wt.take 64).drop (4*i))[2] ((wt.take 64).drop (4*i))[3]=sD (wt.getD (4*i) 0) (wt.getD (4*i+1) 0) (wt.getD (4*i+2) 0) (wt.getD (4*i+3) 0):=by
 have:∀j,j<4→∀(ab:j<((wt.take 64).drop (4*i)).length),((wt.take 64).drop (4*i))[j]=wt.getD (4*i+j) 0:=by
  intro j n ab;rw[List.getElem_drop,List.getElem_take];simp[List.getD,show 4*i+j<wt.length by omega]
 rw[this 0 J,this 1 J,this 2 J,this 3 J];rfl
def pq(a b:List UInt32)(i:Nat):List UInt32:=(List.zipWith (·+ ·) (a.take i) (b.take i))++a.drop i
theorem GS(a b:List UInt32)(i:Nat)(d:a.length=8)(ao:b.length=8)(j:i≤8):(pq a b i).length=8:=by simp[pq,d,ao];omega
theorem GR(a b:List UInt32)(i:Nat)(d:a.length=8)(ao:b.length=8)(n:i<8):(pq a b i).getD i 0=a.getD i 0:=by
 have j:(List.zipWith (·+ ·) (a.take i) (b.take i)).length=i:=by simp[d,ao];omega
 simp only[pq,List.getD];rw[List.getElem?_append_right J,j,vE,List.getElem?_drop,mI]
theorem GU(a b:List UInt32)(i:Nat)(d:a.length=8)(ao:b.length=8)(j:i<8):(pq a b i).set i (a.getD i 0+b.getD i 0)=pq a b (i+1):=by
 have n:(List.zipWith (·+ ·) (a.take i) (b.take i)).length=i:=by simp[d,ao];omega
 unfold pq;rw[mJ _ _ J,n,vE,oS (show i<a.length by omega),vx,eP (show i<a.length by omega),eP (show i<b.length by omega),List.zipWith_append b2,dA];simp[List.getD,d,ao,j]
theorem Ht(ao:Nat)(st:hP)(wt:List UInt8)(n:Nat)(az:UInt64)(w0:World)(N:Heap)
 (E:Var 356 N ao (aq st.list wt n az))(hw:wt.length=64):
 aE Tryz.prog w0 273 #[.pointer (some ⟨ao,0,none⟩)] N (fun r M=>r= .tuple #[]∧Var 356 M ao (aq (compress st wt).list wt 0 az)∧aa (fun c=>c=ao) N M):=by
 refine aE.enter (args:=[.pointer (some ⟨ao,0,none⟩)]) Tryz.func273 o o o ?_;intro cC ct;have dh:=E.lt;have cv:st.list.length=8:=rfl;refine I.O (fun ca=>?_);refine G.aU (Z.nE o GG) ?_;rintro v2 M ⟨rfl,C,ae,cZ,br⟩;have E:=E.aR ae;have C:Var 335 M N.size ((List.replicate 64 (0:UInt32)).map gR):=C;have c0:M.size=N.size+1:=by rw[br];simp
 refine G.nil (ca (I.t1 (fun bK=>I.O (fun cb=>?_))));refine G.af (G.nil (cb ?_));refine I.aC (fun _ cc _=>?_)
 refine I.bb (fun(W:Nat×(List UInt32))=>match W with|(i,w)=>[(0,.pointer (some ⟨ao,0,none⟩)),(2,.pointer (some ⟨N.size,0,none⟩)),(14,.int .i64 i)])
  (fun(i,w) (H:Heap)=>i≤16∧w.length=64∧w.take i=rL wt i∧Var 335 H N.size (w.map gR)∧aa (fun c=>c=N.size) M H)
  (fun(i,w)=>16-i) (0,List.replicate 64 0) ⟨o,o,o,trivial⟩ ?_ ?_
 ·
  exact⟨by omega,by simp,o,C,aa.refl _ _⟩
 rintro⟨i,w⟩ H1 bv cB cd cg;obtain⟨cm,ag,L,C,hm⟩:=bv;have E:=E.up hm J;refine I.O (fun ch=>?_);refine G.v1 bZ (G.nil (ch ?_));refine I.t2 (fun bF bG=>?_);refine a8 (fun bH=>?_) (fun bH=>?_)
 ·
  refine I.skip (bF (I.t1 (fun bJ=>I.aC (fun bL _ _=>I.O (fun bB=>?_)))));refine G.aZ 2 ?_;refine bB (I.region ?_);refine G.av 3 ?_;refine G.aV lo Fx ?_;refine G.af ?_;refine G.v1 (Y.lJ o o o J) ?_;refine G.aP (g:=fun v=>v) (Y.uc (F:=fun c=>c=ao) (f:=bd) (xs:=wt) (E.W.drop 8) o E.lt hw (fun i x h=>Dp cv i x h) (4*i) (64) o (fun w=> .inl (Gi w)) dK o (.inr ⟨_,_,_,o,o,by first|rfl|omega⟩) (.inl ⟨o,o⟩) J J bc) fun c2 cz=>?_;refine aW Iv (PC _ _ w0 H1 cz.any b2) ?_;rintro c3 c4 ⟨rfl,rfl⟩;rw[PB wt i hw J];refine G.v1 (gA C.W i p2 fS) ?_;refine G.s1 (du C (0+i) _ fS b2 (map_set w i _)) ?_;rintro cV ⟨C,ay⟩;have hm:=hm.trans ay (fun _ _ e=>e) (fun _ _ e=>e);refine G.nil (bL (bJ (I.region ?_)));refine G.v1 bN ?_;refine G.af (G.nil ?_);refine aT.sub (cd (i+1,w.set i (sD (wt.getD (4*i) 0) (wt.getD (4*i+1) 0) (wt.getD (4*i+2) 0) (wt.getD (4*i+3) 0))) _ ?_ ?_) ⟨o,o,(aF J),trivial⟩
  ·exact⟨by omega,by simp[ag],by rw[Aj _ _ _ J,Ka,L],C,hm⟩
  ·show 16-(i+1)<16-i;omega
 ·
  have cp:i=16:=by omega
  subst cp;refine I.exit (bG (cg (cc ?_)));refine bK (I.t1 (fun bC=>I.O (fun bD=>?_)));refine G.aj ?_;refine bD (I.aC (fun _ bE _=>?_))
  refine I.bb (fun(W:Nat×(List UInt32))=>match W with|(i,w)=>[(0,.pointer (some ⟨ao,0,none⟩)),(2,.pointer (some ⟨N.size,0,none⟩)),(4,.int .i64 i)])
   (fun(i,w) (H:Heap)=>16≤i∧i≤64∧w.length=64∧w.take i=wJ (rL wt 16) (i-16)∧Var 335 H N.size (w.map gR)∧aa (fun c=>c=N.size) H1 H)
   (fun(i,w)=>64-i) (16,w) ⟨o,o,o,trivial⟩ ?_ ?_
  ·
   exact⟨by omega,by omega,ag,L,C,aa.refl _ _⟩
  rintro⟨i,w⟩ R bM cH aP aQ;obtain⟨cn,cm,ag,L,C,V⟩:=bM;have E:=E.up V J;refine I.t2 (fun aR aS=>I.O (fun aU=>?_));refine G.af ?_;refine G.v1 bZ (G.nil (aU ?_));refine a8 (fun bP=>?_) (fun bP=>?_)
  ·
   refine I.skip (aR (I.t1 (fun aV=>I.aC (fun aX _ _=>I.t1 (fun aZ=>?_)))));refine jk ?_;refine G.af ?_;refine G.v1 gq ?_;refine G.v1 (Y.sP C.W (i-15) o p2 fS o o J ic) ?_;refine G.v1 (bf (C.W.at (i-15) (pN w (i-15) J)) gM) ?_;refine G.af ?_;refine G.v1 gq ?_;refine G.v1 (Y.sP C.W (i-2) o p2 fS o o J ic) ?_;refine G.v1 (bf (C.W.at (i-2) (pN w (i-2) J)) gM) ?_;refine G.aZ 2 ?_;refine aZ ?_;refine eA (fun j=>al R j) [29] ?_;have A:=al.refl R;refine U.af 0 o A ?_;refine U.af 1 o A ?_;refine U.t1 2 o (fun j d=>gq) A ?_;refine U.t1 3 o (fun j d=>Y.sP (C.W.aR d) (i-16) o p2 fS o o J ic) A ?_;refine U.t1 4 o (fun j d=>bf ((C.W.at (i-16) (pN w (i-16) J)).aR d) gM) A ?_;refine U.af 5 o A ?_;refine U.af 7 o A ?_;refine U.af 10 o A ?_;refine U.t1 11 o (fun j d=>Y.wP (3) o o o gP J) A ?_;refine U.af 14 o A ?_;refine U.t1 15 o (fun j d=>gq) A ?_;refine U.t1 16 o (fun j d=>Y.sP (C.W.aR d) (i-7) o p2 fS o o J ic) A ?_;refine U.t1 17 o (fun j d=>bf ((C.W.at (i-7) (pN w (i-7) J)).aR d) gM) A ?_;refine U.af 19 o A ?_;refine U.af 21 o A ?_;refine U.af 24 o A ?_;refine U.t1 25 o (fun j d=>Y.wP (10) o o o gP J) A ?_;refine U.bg 6 ?_;refine cP nJ (oh _ 7 w0 _ J J) ?_;rintro cI bQ ⟨rfl,rfl⟩;have a6:=al.refl bQ;have aD:=A.O a6;refine⟨.inr aD,?_⟩;refine U.bg 8 ?_;refine cP nJ (oh _ 18 w0 _ J J) ?_;rintro cJ bR ⟨rfl,rfl⟩;have a_:=al.refl bR;have ac:=aD.O a_;refine⟨.inr ac,?_⟩;refine U.t1 9 o (fun j d=>Y.nx o o o) ac ?_;refine U.t1 12 o (fun j d=>Y.nx o o o) ac ?_;refine U.t1 13 o (fun j d=>Y.m6 o o o) ac ?_;refine U.t1 18 o (fun j d=>Y.m6 o o o) ac ?_;refine U.bg 20 ?_;refine cP nJ (oh _ 17 w0 _ J J) ?_;rintro cK bS ⟨rfl,rfl⟩;have bb:=al.refl bS;have am:=ac.O bb;refine⟨.inr am,?_⟩;refine U.bg 22 ?_;refine cP nJ (oh _ 19 w0 _ J J) ?_;rintro cL bT ⟨rfl,rfl⟩;have bg:=al.refl bT;have ad:=am.O bg;refine⟨.inr ad,?_⟩;refine U.t1 23 o (fun j d=>Y.nx o o o) ad ?_;refine U.t1 26 o (fun j d=>Y.nx o o o) ad ?_;refine U.t1 27 o (fun j d=>Y.m6 o o o) ad ?_;refine U.t1 28 o (fun j d=>gA (C.W.aR d) i p2 fS) ad ?_;refine U.bg 29 ?_;refine iK o (du C (0+i) _ fS b2 (map_set w i _)) ?_;rintro cG ⟨C,ay⟩;refine⟨.inl o,?_⟩;refine dB ?_;have aJ:=ad;refine aX (aV (I.region ?_));refine G.af ?_;refine G.v1 bN ?_;refine G.aj ?_;refine aT.sub (aP (i+1,w.set i (qR w i)) _ ?_ ?_) ⟨o,o,(aF J),trivial⟩
   ·exact⟨by omega,by omega,by simp[ag],by rw[Aj _ _ _ J,L,show i+1-16=(i-16)+1 by omega,wJ,←L,Kr w i cn J],C,V.trans ay (fun _ _ e=>e) (fun _ _ e=>e)⟩
   ·show 64-(i+1)<64-i;omega
  ·
   have ax:i=64:=by omega
   subst ax;rw[eY J]at L;refine I.exit (aS (aQ (bE ?_)));refine bC (I.O (fun bj=>?_));refine G.av 2 ?_;refine G.aV lo o0 ?_;refine G.v1 (ba (E.W.take 8) xE o0 o) ?_;have di:=C.lt;refine G.aU (Z.nE o PK) ?_;rintro dj cA ⟨rfl,B,a7,cN,cO⟩;obtain⟨E,C,_⟩:=bO a7 E C;refine G.s1 (S.var B st.cells st.cells o o o o (by simp[Value.oneCell']) o0 o (iS o) o) ?_;rintro c9 ⟨B,Q⟩;have E:=E.up Q J;have C:=C.up Q J;refine G.nil (bj (I.t1 (fun bk=>I.O (fun bl=>?_))));refine aW Iw (NN w0 _) ?_;rintro cQ bU ⟨rfl,X⟩;obtain⟨E,C,B,_⟩:=cf X E C B;refine G.af (G.nil (bl ?_));refine I.aC (fun _ bm _=>?_)
   refine I.bb (fun(W:Nat×hP)=>match W with|(i,q)=>[(0,.pointer (some ⟨ao,0,none⟩)),(2,.pointer (some ⟨N.size,0,none⟩)),(7,.pointer (some ⟨R.size,0,none⟩)),(72,.agg (mv.map gR).toArray),(73,.int .i64 i)])
    (fun(i,q) (H:Heap)=>i≤64∧q=zR st w i∧Var 336 H R.size q.cells∧aa (fun c=>c=R.size) bU H)
    (fun(i,q)=>64-i) (0,st) ⟨o,o,o,o,o,trivial⟩ ?_ ?_
   ·
    exact⟨by omega,o,B,aa.refl _ _⟩
   rintro⟨i,q⟩ ai bV cT bn bo;obtain⟨dg,ak,B,O⟩:=bV;have E:=E.up O J;have C:=C.up O J;refine I.O (fun bp=>?_);refine G.v1 bZ (G.nil (bp ?_));refine I.t2 (fun bq bt=>?_);refine a8 (fun bX=>?_) (fun bX=>?_)
   ·
    refine I.skip (bq (I.t1 (fun bu=>I.aC (fun bw _ _=>I.O (fun a0=>?_)))));refine G.af ?_;refine G.v1 (Y.xR i o p2 fS gM o o gP J (by rw[List.getElem?_toArray];exact pN mv i (by simp[mv];omega))) ?_;refine G.aZ 2 ?_;refine a0 (I.t1 (fun a2=>?_));refine eA (fun j=>al ai j) [] ?_;have A:=al.refl ai;refine U.t1 0 o (fun j d=>gA (B.W.aR d) (7) hM fS) A ?_;refine U.t1 1 o (fun j d=>bf ((B.W.drop 7).aR d) gM) A ?_;refine U.t1 2 o (fun j d=>gA (B.W.aR d) (4) hM fS) A ?_;refine U.t1 3 o (fun j d=>bf ((B.W.drop 4).aR d) gM) A ?_;refine U.t1 5 o (fun j d=>gA (B.W.aR d) (4) hM fS) A ?_;refine U.t1 6 o (fun j d=>bf ((B.W.drop 4).aR d) gM) A ?_;refine U.t1 9 o (fun j d=>gA (B.W.aR d) (4) hM fS) A ?_;refine U.t1 10 o (fun j d=>bf ((B.W.drop 4).aR d) gM) A ?_;refine U.t1 14 o (fun j d=>gA (B.W.aR d) (4) hM fS) A ?_;refine U.t1 15 o (fun j d=>bf ((B.W.drop 4).aR d) gM) A ?_;refine U.t1 16 o (fun j d=>gA (B.W.aR d) (5) hM fS) A ?_;refine U.t1 17 o (fun j d=>bf ((B.W.drop 5).aR d) gM) A ?_;refine U.t1 18 o (fun j d=>Y.sN o o o) A ?_;refine U.t1 19 o (fun j d=>gA (B.W.aR d) (4) hM fS) A ?_;refine U.t1 20 o (fun j d=>bf ((B.W.drop 4).aR d) gM) A ?_;refine U.t1 21 o (fun j d=>Y.Mi o o) A ?_;refine U.t1 22 o (fun j d=>gA (B.W.aR d) (6) hM fS) A ?_;refine U.t1 23 o (fun j d=>bf ((B.W.drop 6).aR d) gM) A ?_;refine U.t1 24 o (fun j d=>Y.sN o o o) A ?_;refine U.t1 25 o (fun j d=>Y.nx o o o) A ?_;refine U.af 27 o A ?_;refine U.af 29 o A ?_;refine U.t1 30 o (fun j d=>gA (C.W.aR d) i p2 fS) A ?_;refine U.t1 31 o (fun j d=>bf ((C.W.at i (pN w i J)).aR d) gM) A ?_;refine U.bg 4 ?_;refine cP nJ (oh _ 6 w0 _ J J) ?_;rintro cU bY ⟨rfl,rfl⟩;have a3:=al.refl bY;have aG:=A.O a3;refine⟨.inr aG,?_⟩;refine U.bg 7 ?_;refine cP nJ (oh _ 11 w0 _ J J) ?_;rintro c5 b0 ⟨rfl,rfl⟩;have a4:=al.refl b0;have ar:=aG.O a4;refine⟨.inr ar,?_⟩;refine U.t1 8 o (fun j d=>Y.nx o o o) ar ?_;refine U.bg 11 ?_;refine cP nJ (oh _ 25 w0 _ J J) ?_;rintro db a5 ⟨rfl,rfl⟩;have aL:=al.refl a5;have K:=ar.O aL;refine⟨.inr K,?_⟩;refine U.t1 12 o (fun j d=>Y.nx o o o) K ?_;refine U.t1 13 o (fun j d=>Y.m6 o o o) K ?_;refine U.t1 26 o (fun j d=>Y.m6 o o o) K ?_;refine U.t1 28 o (fun j d=>Y.m6 o o o) K ?_;refine U.t1 32 o (fun j d=>Y.m6 o o o) K ?_;refine U.t1 33 o (fun j d=>gp) K ?_;refine dB ?_;have aJ:=K;refine a2 (I.t1 (fun aN=>?_));refine eA (fun j=>al a5 j) [] ?_;have A:=al.refl a5;refine U.t1 0 o (fun j d=>gA (B.W.aR d) (0) hM fS) A ?_;refine U.t1 1 o (fun j d=>bf (B.W.aR d) gM) A ?_;refine U.t1 3 o (fun j d=>gA (B.W.aR d) (0) hM fS) A ?_;refine U.t1 4 o (fun j d=>bf (B.W.aR d) gM) A ?_;refine U.t1 7 o (fun j d=>gA (B.W.aR d) (0) hM fS) A ?_;refine U.t1 8 o (fun j d=>bf (B.W.aR d) gM) A ?_;refine U.t1 11 o (fun j d=>gA (B.W.aR d) (0) hM fS) A ?_;refine U.t1 12 o (fun j d=>bf (B.W.aR d) gM) A ?_;refine U.t1 13 o (fun j d=>gA (B.W.aR d) (1) hM fS) A ?_;refine U.t1 14 o (fun j d=>bf ((B.W.drop 1).aR d) gM) A ?_;refine U.t1 15 o (fun j d=>Y.sN o o o) A ?_;refine U.t1 16 o (fun j d=>gA (B.W.aR d) (0) hM fS) A ?_;refine U.t1 17 o (fun j d=>bf (B.W.aR d) gM) A ?_;refine U.t1 18 o (fun j d=>gA (B.W.aR d) (2) hM fS) A ?_;refine U.t1 19 o (fun j d=>bf ((B.W.drop 2).aR d) gM) A ?_;refine U.t1 20 o (fun j d=>Y.sN o o o) A ?_;refine U.t1 21 o (fun j d=>Y.nx o o o) A ?_;refine U.t1 22 o (fun j d=>gA (B.W.aR d) (1) hM fS) A ?_;refine U.t1 23 o (fun j d=>bf ((B.W.drop 1).aR d) gM) A ?_;refine U.t1 24 o (fun j d=>gA (B.W.aR d) (2) hM fS) A ?_;refine U.t1 25 o (fun j d=>bf ((B.W.drop 2).aR d) gM) A ?_;refine U.t1 26 o (fun j d=>Y.sN o o o) A ?_;refine U.t1 27 o (fun j d=>Y.nx o o o) A ?_;refine U.bg 2 ?_;refine cP nJ (oh _ 2 w0 _ J J) ?_;rintro cW aO ⟨rfl,rfl⟩;have ap:=al.refl aO;have aB:=A.O ap;refine⟨.inr aB,?_⟩;refine U.bg 5 ?_;refine cP nJ (oh _ 13 w0 _ J J) ?_;rintro cX a9 ⟨rfl,rfl⟩;have bz:=al.refl a9;have an:=aB.O bz;refine⟨.inr an,?_⟩;refine U.t1 6 o (fun j d=>Y.nx o o o) an ?_;refine U.bg 9 ?_;refine cP nJ (oh _ 22 w0 _ J J) ?_;rintro cY bx ⟨rfl,rfl⟩;have bA:=al.refl bx;have P:=an.O bA;refine⟨.inr P,?_⟩;refine U.t1 10 o (fun j d=>Y.nx o o o) P ?_;refine U.t1 28 o (fun j d=>Y.m6 o o o) P ?_;refine U.t1 29 o (fun j d=>gp) P ?_;refine dB ?_;have aJ:=P;refine aN (I.region ?_);refine G.av 2 ?_;refine G.v1 (Y.m6 o o o) ?_;refine G.v1 (gA B.W (0) hM fS) ?_;refine G.v1 (bf B.W gM) ?_;refine G.v1 (gA B.W (1) hM fS) ?_;refine G.v1 (bf (B.W.drop 1) gM) ?_;refine G.v1 (gA B.W (2) hM fS) ?_;refine G.v1 (bf (B.W.drop 2) gM) ?_;refine G.v1 (gA B.W (3) hM fS) ?_;refine G.v1 (bf (B.W.drop 3) gM) ?_;refine G.af ?_;refine G.v1 (Y.m6 o o o) ?_;refine G.v1 (gA B.W (4) hM fS) ?_;refine G.v1 (bf (B.W.drop 4) gM) ?_;refine G.v1 (gA B.W (5) hM fS) ?_;refine G.v1 (bf (B.W.drop 5) gM) ?_;refine G.v1 (gA B.W (6) hM fS) ?_;refine G.v1 (bf (B.W.drop 6) gM) ?_;refine G.v1 (Y.build (v:= .agg (tV q (mv.getD i 0) (w.getD i 0)).cells.toArray) o o fy) ?_;refine G.s1 (S.var B ((tV q (mv.getD i 0) (w.getD i 0)).cells) ((tV q (mv.getD i 0) (w.getD i 0)).cells) o o o o (by simp[Value.oneCell']) o0 o (iS o) o) ?_;rintro c6 ⟨B,cx⟩;refine G.nil (bw (bu (I.region ?_)));refine G.v1 bN ?_;refine G.af (G.nil ?_);refine aT.sub (bn (i+1,tV q (mv.getD i 0) (w.getD i 0)) _ ?_ ?_) ⟨o,o,o,o,(aF J),trivial⟩
    ·exact⟨by omega,by rw[ak];rfl,B,O.trans cx (fun _ _ e=>e) (fun _ _ e=>e)⟩
    ·show 64-(i+1)<64-i;omega
   ·
    have ax:i=64:=by omega
    subst ax;rw[L]at ak;have cl:(A_ st q).list=(compress st wt).list:=by rw[ak];rfl
    refine I.exit (bt (bo (bm ?_)));refine bk (I.t1 (fun b3=>I.O (fun b4=>?_)));refine G.v1 (ba B.W xE o0 o) ?_;refine G.af (G.nil (b4 ?_));refine I.aC (fun _ cR _=>?_)
    refine I.bb (fun(i:Nat)=>[(0,.pointer (some ⟨ao,0,none⟩)),(160,.agg q.cells.toArray),(161,.int .i64 i)])
     (fun(i:Nat) (H:Heap)=>i≤8∧Var 356 H ao (aq (pq st.list q.list i) wt n az)∧aa (fun c=>c=ao) ai H)
     (fun(i:Nat)=>8-i) 0 ⟨o,o,o,trivial⟩ ?_ ?_
    ·
     exact⟨by omega,E,aa.refl _ _⟩
    intro i dc b1 de be cD;obtain⟨cq,E,af⟩:=b1;have av:=GS st.list q.list i o o cq;refine I.O (fun b5=>?_);refine G.v1 bZ (G.nil (b5 ?_));refine I.t2 (fun b6 bi=>?_);refine a8 (fun b7=>?_) (fun b7=>?_)
    ·
     refine I.skip (b6 (I.t1 (fun aC=>I.aC (fun b9 _ _=>I.O (fun b_=>?_)))));refine G.af ?_;refine G.v1 (Y.xR i o hM fS gM o o gP J (by rw[List.getElem?_toArray];exact pN q.list i b2)) ?_;refine G.aZ 2 ?_;refine b_ ?_;refine ka 11 (fun cF ck=>?_);refine G.av 3 ?_;refine G.aV lo o0 ?_;refine G.v1 (gA E.W i hM fS) ?_;refine G.v1 (bf (E.W.at i (Kx i J)) gM) ?_;rw[GR st.list q.list i o o J];refine G.af ?_;refine G.v1 (Y.m6 o o o) ?_;refine G.bs ?_;refine G.aV lo o0 ?_;refine G.v1 (gA E.W i hM fS) ?_;refine G.nil (ck _ ?_);refine G.s1 (du E (0+i) _ fS (by rw[oO av hw];omega) (Kv i J _)) ?_;rintro c8 ⟨E,cy⟩;refine G.nil (b9 (aC (I.region ?_)));refine G.v1 bN ?_;refine G.af (G.nil ?_);refine aT.sub (be (i+1) _ ?_ ?_) ⟨o,o,(aF J),trivial⟩
     ·exact⟨by omega,by rw[←GU st.list q.list i o o J];exact E,af.trans cy (fun _ _ e=>e) (fun _ _ e=>e)⟩
     ·omega
    ·
     have cr:i=8:=by omega
     subst cr;refine I.exit (bi (cD (cR ?_)));refine b3 (I.region ?_);refine G.av 2 ?_;refine G.aV lo b8 ?_;refine G.s1 (du E 72 _ b8 (by rw[oO av hw];omega) (Dn (m:=0) av hw)) ?_;rintro da ⟨E,aK⟩;refine G.nil ?_;refine ct .normal (.inl o) _ _ _ (jt o) ?_;refine⟨o,by rw[←cl];exact E,⟨by have:=ae.size;have:=hm.size;have:=V.size;have:=a7.size;have:=Q.size;have:=X.size;have:=O.size;have:=af.size;have:=aK.size;omega,fun b df aH=>?_⟩⟩;have bh:=ae.size;have bW:=hm.size;have cw:=V.size;have ep:=a7.size;have gT:=Q.size;have j6:=X.size;have n4:=O.size;have tP:=af.size;rw[aK.same b J aH,af.same b J aH,O.same b J J,X.same b J (fun e=>e),Q.same b J J,a7.same b J (fun e=>e),V.same b J J,hm.same b J J,ae.same b J (fun e=>e)]
end uA
namespace E
open Go.ChangeShapes Go.WideShapes Go.ChangeAt Go.RowKit Go.Deep
theorem HD{H:Type}(l r:List (DataW H)):Rows.uptoBulkAll (l++r)=Rows.uptoBulkAll l+Rows.uptoBulkAll r:=by
 induction l with
 |nil=>simp[Rows.uptoBulkAll]
 |cons x l ih=>simp only[kO,Rows.uptoBulkAll,ih];omega
theorem DV{α:Type}{n:Nat}{p:Nat→α→Prop}(h:∀i,i<n→∃x,p i x):∃l:List α,l.length=n∧∀i x,l[i]?=some x→p i x:=by
 induction n with
 |zero=>exact⟨[],o,fun i x h=>by simp at h⟩
 |succ n ih=>
  obtain⟨l,j,q⟩:=ih (fun i d=>h i J);obtain⟨x,r⟩:=h n J;refine⟨l++[x],by simp[j],fun i y hy=>?_⟩;by_cases d:i<l.length
  ·rw[List.getElem?_append_left d]at hy;exact q i y hy
  ·rw[List.getElem?_append_right J]at hy
   have:i-l.length=0:=by have:=(List.getElem?_eq_some_iff.1 hy).1;simp at this;omega
   rw[this]at hy;simp only[List.getElem?_cons_zero,kh]at hy;subst hy;have:i=n:=by omega
   subst this;exact r
theorem OQ{α:Type}{H:Type}(B:α→Nat)(D:Nat→DataW H)(l:List α)(h:∀i x,l[i]?=some x→B x≤Rows.uptoBulk (D i)):∀k,k≤l.length→((l.take k).map B).sum≤Rows.uptoBulkAll ((List.range k).map D):=by
 intro k
 induction k with
 |zero=>intro _;simp
 |succ k ih=>
  intro d;rw[List.range_succ,gg,HD,eP (show k<l.length from d),gg,r3];have j:=ih J;have ab:=h k l[k] (by simp[show k<l.length from d]);simp only[dk,lG,ib,vF,Rows.uptoBulkAll];omega
section
variable {H : Type} {enc : TypeId × Value → H} {P : Program} {cE : World} {base : Nat} {sp : Nat → Bool} {held : Bool}
theorem ss{α:Type}(f:α→List Value)(sz:Nat)(B:α→Nat)(Φ:α→Prop){t e:TypeId}{v:Value}{d:DataW H}{p:List MemPlace}(ai:v.cells= #[v])(af:P.underlying t=some (.slice e))(aq:P.cellsOf e=sz)(av:∀x,(f x).length=sz)(ay:0<sz)
 (elem:∀n q y dh,DataW.trod enc P cE base sp held n e q=some (y,dh)→q.length=sz→∃x,q=f x∧Φ x∧B x≤Rows.uptoBulk y)(h:DataW.Trod enc P cE base sp held t v d p):
 ∃l:List α,b7 cE.heap f sz v l∧(∀x∈l,Φ x)∧(l.map B).sum+1≤Rows.uptoBulk d:=by
 obtain⟨fuel,h⟩:=h;rw[ai]at h;rcases open_slice af h with⟨A,ab⟩|⟨a,len,cap,m,n,D,ak,A,ab,an,O,Q,G,R⟩
 ·simp only[Array.toList,jC,and_true]at A
  simp only[hI]at ab;obtain⟨rfl,rfl⟩:=ab;subst A;exact⟨[],Rd.nil _ _ _ _,by simp,by simp[Rows.uptoBulk]⟩
 ·simp only[jC,and_true]at A
  simp only[hI]at G;obtain⟨rfl,rfl⟩:=G;subst A;have hm:len≤m:=by rw[Q];split<;>omega
  have:∀i,i<len→∃x:α,∃q,cE.cells? base (a.add (i*sz)) sz=some q∧q=f x∧Φ x∧B x≤Rows.uptoBulk (D i):=by
   intro i K;obtain⟨q,F,ag⟩:=R i J;rw[aq]at F;obtain⟨_,C,_⟩:=World.cells?_some F;obtain⟨x,r⟩:=elem n q _ _ ag C;exact⟨x,q,F,r⟩
  obtain⟨l,C,E⟩:=DV this;refine⟨l,⟨some a,cap,by rw[C],by omega,O,fun ae=>?_⟩,fun x r=>?_,?_⟩
  ·have hlen:0<l.length:=vG.2 ae
   obtain⟨N,Y,ar,_⟩:=E 0 l[0] (by simp[hlen]);obtain⟨_,ax,W⟩:=World.cells?_some Y;have I:=W 0 J
   have bz:cE.cell? a=some (N[0]' J):=by
    simp only[te]at I;rw[←List.getElem?_eq_getElem,←I];simp[Addr.add]
   have M:a.spot=none:=World.cell?_spot bz;refine⟨a,o,M,trivial,World.block_lt_of_cell? cE a bz,fun i x r=>⟨o,fun j c L=>?_⟩⟩;obtain⟨q,X,rfl,_,_⟩:=E i x r;obtain⟨_,aa,V⟩:=World.cells?_some X;have Z:=(List.getElem?_eq_some_iff.1 L).1;have:=V j (by rw[←aa];exact Z);rw[L]at this;rw[add_eq M,add_eq rfl]at this;show cell cE.heap _=_;rw[←(At.cell (w0:=cE) ⟨o,o,o,o,dz _⟩ _)];exact this
  ·obtain⟨i,K⟩:=List.mem_iff_getElem?.1 r
   obtain⟨_,_,_,S,_⟩:=E i x K;exact S
  ·have:=OQ B D l (fun i x r=>by obtain⟨_,_,_,_,U⟩:=E i x r;exact U) l.length (dz _)
   rw[eD,C]at this;simp only[Rows.uptoBulk];omega
theorem wZ{α:Type}(B:α→Nat)(d:∀x,1≤B x):∀(l:List α),l.length≤(l.map B).sum
 |[]=>by simp
 |y::l=>by simp only[dk,ib,fx];have:=d y;have:=wZ B d l;omega
theorem PZ{t e:TypeId}{v:Value}{d:DataW H}{p:List MemPlace}(x:v.cells= #[v])(r:P.underlying t=some (.slice e))(he:P.underlying e=some .string)(aq:P.cellsOf e=1)(h:DataW.Trod enc P cE base sp held t v d p):
 ∃l:List (List UInt8),b7 cE.heap ft 1 v l∧(l.map (fun s=>s.length+1)).sum+1≤Rows.uptoBulk d:=by
 obtain⟨l,q,_,ab⟩:=ss ft 1 (fun s=>s.length+1) (fun _=>True) x r aq oL J (fun n A y dh hy B=>by
  obtain⟨s,rfl,j⟩:=DataW.trod_string he hy;simp only[hI]at j;refine⟨s.data.toList,o,trivial,?_⟩;rw[j.1.1];simp[Rows.uptoBulk]) h
 exact⟨l,q,ab⟩
theorem Nj{k:IntKind}{t e:TypeId}{v:Value}{d:DataW H}{p:List MemPlace}(C:v.cells= #[v])(B:P.underlying t=some (.slice e))(he:P.underlying e=some (.int k))(aq:P.cellsOf e=1)(h:DataW.Trod enc P cE base sp held t v d p):
 ∃l:List Int,b7 cE.heap (fun x=>[Value.int k x]) 1 v l∧(∀x∈l,(Lit.int k x).wf=true)∧l.length+1≤Rows.uptoBulk d:=by
 obtain⟨l,r,q,ab⟩:=ss (fun x=>[Value.int k x]) 1 (fun _=>1) (fun x=>(Lit.int k x).wf=true) C B aq (fun _=>rfl) J (fun n E y dh hy F=>by
  obtain⟨x,rfl,j,A⟩:=DataW.trod_int he hy;simp only[hI]at j;refine⟨x,o,A,?_⟩;rw[j.1];simp[Rows.uptoBulk]) h
 exact⟨l,r,q,by have:=wZ (fun _:Int=>1) (fun _=>by omega) l;omega⟩
theorem Gj{x:Int}(h:(Lit.int .u8 x).wf=true):∃b:UInt8,x=b.toNat:=by
 simp only[Lit.wf,nW,km,show IntKind.u8.min=0 by decide,show IntKind.u8.max=255 by decide]at h;refine⟨UInt8.ofNat x.toNat,?_⟩;rw[qH];omega
theorem Dq{x:Int}(h:(Lit.int .i64 x).wf=true): -9223372036854775808≤x∧x≤9223372036854775807:=by
 simpa only[Lit.wf,nW,km,show IntKind.i64.min= -9223372036854775808 by decide,show IntKind.i64.max=9223372036854775807 by decide]using h
theorem Ni{t e:TypeId}{v:Value}{d:DataW H}{p:List MemPlace}(B:v.cells= #[v])(A:P.underlying t=some (.slice e))(he:P.underlying e=some (.int .u8))(aq:P.cellsOf e=1)(h:DataW.Trod enc P cE base sp held t v d p):
 ∃l:List UInt8,b7 cE.heap bd 1 v l∧l.length+1≤Rows.uptoBulk d:=by
 obtain⟨l,q,_,ab⟩:=ss bd 1 (fun _=>1) (fun _=>True) B A aq fM J (fun n C y dh hy E=>by
  obtain⟨x,rfl,j,r⟩:=DataW.trod_int he hy;obtain⟨b,rfl⟩:=Gj r;simp only[hI]at j;refine⟨b,o,trivial,?_⟩;rw[j.1];simp[Rows.uptoBulk]) h
 exact⟨l,q,by have:=wZ (fun _:UInt8=>1) (fun _=>by omega) l;omega⟩
abbrev vh(b:Bool):List Value:=[.bool b]
theorem Nh{t e:TypeId}{v:Value}{d:DataW H}{p:List MemPlace}(A:v.cells= #[v])(r:P.underlying t=some (.slice e))(he:P.underlying e=some .bool)(aq:P.cellsOf e=1)(h:DataW.Trod enc P cE base sp held t v d p):
 ∃l:List Bool,b7 cE.heap vh 1 v l∧l.length+1≤Rows.uptoBulk d:=by
 obtain⟨l,q,_,ab⟩:=ss vh 1 (fun _=>1) (fun _=>True) A r aq (fun _=>rfl) J (fun n B y dh hy C=>by
  obtain⟨x,rfl,j⟩:=DataW.trod_bool he hy;simp only[hI]at j;refine⟨x,o,trivial,?_⟩;rw[j.1];simp[Rows.uptoBulk]) h
 exact⟨l,q,by have:=wZ (fun _:Bool=>1) (fun _=>by omega) l;omega⟩
abbrev kI{β:Type}(x:aO×β):List Value:=[x.1.v]
theorem rI{β:Type}(x:aO×β):(kI x).length=1:=rfl
theorem rJ{β:Type}(x:aO×β):∀u∈kI x,u.oneCell'=true:=by intro u hu;simp only[eU]at hu;subst hu;rfl
end
end E
namespace uB
open rj uA
def fL:hP:=⟨0x6a09e667,0xbb67ae85,0x3c6ef372,0xa54ff53a,0x510e527f,0x9b05688c,0x1f83d9ab,0x5be0cd19⟩
def run(s:hP)(b:List UInt8):hP×List UInt8:=if h:b.length<64 then(s,b)else run (compress s (b.take 64)) (b.drop 64)
termination_by b.length
decreasing_by simp; omega
theorem ob(s:hP)(b:List UInt8)(h:b.length<64):run s b=(s,b):=by rw[run,dif_pos h]
theorem tX(s:hP)(b:List UInt8)(h:64≤b.length):run s b=run (compress s (b.take 64)) (b.drop 64):=by rw[run,dif_neg J]
theorem NX:∀(n:Nat) (s:hP) (b:List UInt8),b.length≤n→(run s b).2.length<64:=by
 intro n
 induction n with
 |zero=>intro s b h;rw[ob s b J];simp;omega
 |succ n ih=>
  intro s b h;by_cases ao:b.length<64
  ·rw[ob s b ao];exact ao
  ·rw[tX s b J];exact ih _ _ b2
theorem NS:∀(n:Nat) (s:hP) (a b:List UInt8),a.length≤n→run s (a++b)=run (run s a).1 ((run s a).2++b):=by
 intro n
 induction n with
 |zero=>intro s a b h;rw[ob s a J]
 |succ n ih=>
  intro s a b h;by_cases d:a.length<64
  ·rw[ob s a d]
  ·rw[tX s a J,tX s (a++b) b2,r1 J,vz J]
   exact ih _ _ _ b2
theorem Ft(s:hP)(a b:List UInt8):run s (a++b)=run (run s a).1 ((run s a).2++b):=NS _ s a b (dz _)
theorem Fu(s:hP)(b:List UInt8):(run s b).2.length<64:=NX _ s b (dz _)
theorem Kw{s:List UInt32}{wt xs:List UInt8}{n m:Nat}{az:UInt64}(ag:s.length=8)(hw:wt.length=64)(h:m+xs.length≤64):er (aq s wt n az) (8+m) (xs.flatMap bd)=aq s (wt.take m++xs++wt.drop (m+xs.length)) n az:=by
 have d:(s.map gR).length=8:=by simpa using ag
 have j:(xs.flatMap bd).length=xs.length:=by rw[length_flatMap fM,lE]
 have e:∀(wt:List UInt8),aq s wt n az=s.map gR++(wt.map jI++[.int .i64 n,.int .u64 az.toNat]):=fun wt=>by rw[aq,dA]
 rw[er,j,e,e,vA,eY J,d,show 8+m-8=m by omega,List.drop_append,th J,d,hq,show 8+m+xs.length-8=m+xs.length by omega];rw[r1 b2,vz b2,rO];simp[gg,tk,vH]
structure lW (H:Heap) (ao:Nat) (m:List UInt8) (az:UInt64):Prop where
 ex:∃wt:List UInt8,wt.length=64∧Var 356 H ao (aq (run fL m).1.list wt (run fL m).2.length az)∧wt.take (run fL m).2.length=(run fL m).2
theorem lW.aR{H V:Heap}{ao:Nat}{m:List UInt8}{az:UInt64}(h:lW H ao m az)(s:al H V):lW V ao m az:=let⟨wt,d,ab,j⟩:=h.ex;⟨wt,d,ab.aR s,j⟩
theorem lW.up{H V:Heap}{ao:Nat}{m:List UInt8}{az:UInt64}{S:Nat→Prop}(h:lW H ao m az)(s:aa S H V)(n:¬S ao):lW V ao m az:=let⟨wt,d,ab,j⟩:=h.ex;⟨wt,d,ab.up s n,j⟩
theorem lW.lt{H:Heap}{ao:Nat}{m:List UInt8}{az:UInt64}(h:lW H ao m az):ao<H.size:=let⟨_,_,ab,_⟩:=h.ex;ab.lt
def cat(l:List (aO×List UInt8)):List UInt8:=l.flatMap (·.2)
theorem Cf(l:List (aO×List UInt8))(k:Nat)(h:k<l.length):cat (l.take (k+1))=cat (l.take k)++(l[k]).2:=by
 unfold cat;rw[eP h,jq];simp
theorem wj (w0:World)(N:Heap)
 :
 aE Tryz.prog w0 256 #[] N (fun r d=>r= .pointer (some ⟨N.size,0,none⟩)∧lW d N.size [] 0∧al N d∧d.size=N.size+1):=by
 refine aE.aP [] Tryz.func256 ?_;intro B A;refine I.O (fun q=>?_);refine G.aj ?_;refine q (I.O (fun x=>?_));refine G.v1 (Y.build (v:= .agg (fL.list.map gR).toArray) o o fy) ?_;refine G.v1 (Y.build (v:= .agg (aq fL.list (List.replicate 64 0) 0 0).toArray) o o fy) ?_;refine G.aU (Z.rp o o) ?_;rintro v3 n ⟨rfl,j,ac,C,ad⟩;have j:Var 356 n N.size (aq fL.list (List.replicate 64 0) 0 0):=j;refine G.aj ?_;refine x ?_;refine I.ret (A ?_);exact⟨o,⟨List.replicate 64 0,by simp,by rw[ob fL [] bl];exact j,by rw[ob fL [] bl];rfl⟩,ac,by rw[ad];simp⟩
theorem N0{c x wt:List UInt8}{n:Nat}(aB:(run fL c).2.length=n)(ao:wt.take n=(run fL c).2)(hw:wt.length=64)(h:n+x.length<64):run fL (c++x)=((run fL c).1,wt.take n++x):=by
 rw[Ft,ob _ _ b2,ao]
theorem NW{c x wt:List UInt8}{n:Nat}(aB:(run fL c).2.length=n)(ao:wt.take n=(run fL c).2)(hw:wt.length=64)(h:n+x.length=64):run fL (c++x)=(compress (run fL c).1 (wt.take n++x++wt.drop (n+x.length)),[]):=by
 have d:(wt.take n++x).length=64:=by simp;omega
 rw[Ft,←ao,tX _ _ J,eY J,th J,ob _ _ bl,th (show wt.length≤n+x.length by omega),hi]
theorem KP{wt x:List UInt8}{n:Nat}(hw:wt.length=64)(h:n+x.length≤64):(wt.take n++x++wt.drop (n+x.length)).length=64∧(wt.take n++x++wt.drop (n+x.length)).take (n+x.length)=wt.take n++x:=by
 have d:(wt.take n++x).length=n+x.length:=by simp;omega
 exact⟨by simp;omega,kP d⟩
theorem w_(ao:Nat)(O:Value)(m:List UInt8)(az:UInt64)(l:List (aO×List UInt8))(w0:World)(N:Heap)
 (K:lW N ao m az)(S:Rd (fun b=>b≠ao) N kI 1 O l)(bj:∀x∈l,Rd (fun b=>b≠ao) N bd 1 x.1.v x.2):
 aE Tryz.prog w0 257 #[.pointer (some ⟨ao,0,none⟩),O] N (fun r U=>r= .tuple #[]∧lW U ao (m++cat l) (az+UInt64.ofNat (cat l).length)∧aa (fun c=>c=ao) N U):=by
 refine aE.enter (args:=[.pointer (some ⟨ao,0,none⟩),O]) Tryz.func257 o o o ?_;intro bl bb;have bE:=S.len;refine I.O (fun aU=>?_);refine G.af ?_;refine G.v1 (bu S jO) ?_;refine G.af (G.nil (aU ?_));refine I.aC (fun _ aV _=>?_)
 refine I.bb (fun(k:Nat)=>[(0,.pointer (some ⟨ao,0,none⟩)),(7,O),(8,.int .i64 l.length),(9,.int .i64 k)])
  (fun(k:Nat) (H:Heap)=>k≤l.length∧lW H ao (m++cat (l.take k)) (az+UInt64.ofNat (cat (l.take k)).length)∧aa (fun c=>c=ao) N H)
  (fun(k:Nat)=>l.length-k) 0 ⟨o,o,o,o,trivial⟩ ?_ ?_
 ·
  exact⟨by omega,by simpa[cat]using K,aa.refl _ _⟩
 intro k bp aX pb aZ ag;obtain⟨bC,K,hm⟩:=aX;obtain⟨wt,j,d,E⟩:=K.ex;have Q:=S.up hm (fun _ _ q ab=>q ab);refine I.O (fun ai=>?_);refine G.v1 bZ (G.nil (ai ?_));refine I.t2 (fun ak an=>?_);refine a8 (fun ar=>?_) (fun ar=>?_)
 ·
  refine I.skip (ak (I.t1 (fun av=>I.aC (fun ax _ _=>I.O (fun ay=>?_)))));refine G.cn (Y.indexAddr Q k o jO dt o o gP ic) fun bn aJ=>?_;refine G.v1 (bf aJ fe) ?_;have C:=(bj l[k] (cU _)).up hm (fun _ _ q ab=>q ab);have bg:=C.len;refine G.aj ?_;refine ay (I.O (fun aC=>?_));refine G.av 2 ?_;refine G.aV lo wH ?_;refine G.v1 (bf (d.W.at 73 (Dm o j)) A5) ?_;refine G.af ?_;refine G.v1 (bu C dV) ?_;refine G.v1 (Y.jm o gZ hA o) ?_;refine G.v1 (Y.GW o o o) ?_;refine G.bs ?_;refine G.aV lo wH ?_;refine G.s1 (du d 73 _ wH (by rw[oO o j];omega) (Ku o j)) ?_;rintro bB ⟨d,af⟩;have hm:=hm.trans af (fun _ _ e=>e) (fun _ _ e=>e);have C:=C.up af (fun _ _ q ab=>q ab);refine G.nil (aC (I.aC (fun _ aK _=>?_)))
  refine I.bb (fun(bk:Value×(List UInt8)×(List UInt8)×(List UInt8))=>match bk with|(v,r,c,wt)=>[(0,.pointer (some ⟨ao,0,none⟩)),(5,v),(7,O),(8,.int .i64 l.length),(9,.int .i64 k)])
   (fun(v,r,c,wt) (H:Heap)=>wt.length=64∧Var 356 H ao (aq (run fL c).1.list wt (run fL c).2.length (az+UInt64.ofNat (cat (l.take k)).length+UInt64.ofNat (l[k]).2.length))∧wt.take (run fL c).2.length=(run fL c).2∧Rd (fun b=>b≠ao) H bd 1 v r∧c++r=m++cat (l.take k)++(l[k]).2∧aa (fun c=>c=ao) N H)
   (fun(v,r,c,wt)=>r.length) ((l[k]).1.v,(l[k]).2,m++cat (l.take k),wt) ⟨o,o,o,o,o,trivial⟩ ?_ ?_
  ·
   exact⟨j,d,E,C,o,hm⟩
  rintro⟨v,r,c,wt⟩ bq aD bt V aL;obtain⟨j,d,E,A,P,hm⟩:=aD;have bg:=A.len;refine I.t2 (fun aN aP=>I.O (fun aQ=>?_));refine G.af ?_;refine G.v1 (bu A dV) ?_;refine G.v1 fA (G.nil (aQ ?_));refine a8 (fun aG=>?_) (fun aG=>?_)
  ·
   refine I.skip (aN (I.aC (fun W _ _=>I.t1 (fun am=>?_))));have ba:=Fu fL c;obtain⟨n,aB⟩:∃n,(run fL c).2.length=n:=⟨_,o⟩;rw[aB]at d E ba;obtain⟨fG,bD⟩:∃fG,min r.length (64-n)=fG:=⟨_,o⟩;have R:(r.take fG).length=fG:=by simp;omega
   obtain⟨B,a_⟩:=KP (x:=r.take fG) (n:=n) j J;refine ka 9 (fun bm a6=>?_);refine G.av 2 ?_;refine G.aV lo Fx ?_;refine G.av 2 ?_;refine G.aV lo b8 ?_;refine G.v1 (bf (d.W.at 72 (vr o j)) cX) ?_;refine G.v1 ((Y.zX (F:=fun c=>c=ao) (f:=bd) (xs:=wt) (d.W.drop 8) o d.lt j (fun i x h=>Dp o i x h) n (64) o (fun w=> .inl (Gi w)) dK o (.inr ⟨_,_,_,o,o,by first|rfl|omega⟩) (.inl ⟨o,o⟩) J J bc).1 _) ?_;rw[aA J];refine G.af ?_;refine G.nil (a6 _ ?_);refine G.aU (Z.copy (off:=8+n) d A fM hh o Tryz.underlying57 dK o o (by rw[oO o j];omega) fG J) ?_;rintro bw bx ⟨rfl,d,ac⟩;rw[Kw o j J]at d;have A:=A.up ac (fun _ _ q ab=>q ab);have hm:=hm.trans ac (fun _ _ e=>e) (fun _ _ e=>e);refine G.aj ?_;refine am (I.O (fun aR=>?_));refine G.av 2 ?_;refine G.aV lo b8 ?_;refine G.v1 (bf (d.W.at 72 (vr o B)) cX) ?_;refine G.af ?_;refine G.v1 bN ?_;refine G.bs ?_;refine G.aV lo b8 ?_;refine G.s1 (du d 72 (aq (run fL c).1.list (wt.take n++r.take fG++wt.drop (n+(r.take fG).length)) (n+fG) (az+UInt64.ofNat (cat (l.take k)).length+UInt64.ofNat (l[k]).2.length)) b8 (by rw[oO o B];omega) (by rw[←Dn (m:=n+fG) (n:=n) o B,Int.natCast_add])) ?_;rintro bo ⟨d,ae⟩;have A:=A.up ae (fun _ _ q ab=>q ab);have hm:=hm.trans ae (fun _ _ e=>e) (fun _ _ e=>e);refine G.nil (aR (I.O (fun ap=>?_)));refine G.av 2 ?_;refine G.aP (g:=fun v=>v) (Y.slice A fG _ o dV dK o (.inr ⟨_,_,_,o,o,by first|rfl|omega⟩) (.inl ⟨o,o⟩) J J) fun a7 M=>?_;rw[eD]at M;refine G.aj ?_;refine ap (I.O (fun aS=>?_));refine G.av 2 ?_;refine G.aV lo b8 ?_;refine G.v1 (bf (d.W.at 72 (vr o B)) cX) ?_;refine G.v1 cC (G.nil (aS ?_));refine a8 (fun aH=>?_) (fun aH=>?_)
   ·
    refine I.region ?_;refine G.af ?_;refine aW Iu (Ht ao _ _ _ _ w0 _ d B) ?_;rintro bz bA ⟨rfl,d,X⟩;have M:=M.up X (fun _ _ q ab=>q ab);have hm:=hm.trans X (fun _ _ e=>e) (fun _ _ e=>e);refine G.nil (W ?_);have L:=NW (x:=r.take fG) (c:=c) (wt:=wt) aB E j J;refine aT.sub (V (a7,r.drop fG,c++r.take fG,wt.take n++r.take fG++wt.drop (n+(r.take fG).length)) _ ?_ ?_) ⟨o,o,o,(aF J),(aF J),trivial⟩
    ·exact⟨B,by rw[L];exact d,by rw[L];rfl,M,by rw[dA,hY];exact P,hm⟩
    ·show(r.drop fG).length<r.length;rw[ia];omega
   ·
    refine I.skip (W ?_);have L:=N0 (x:=r.take fG) (c:=c) (wt:=wt) aB E j J;have Q:(wt.take n++r.take fG).length=n+fG:=by rw[bT,eJ];omega
    refine aT.sub (V (a7,r.drop fG,c++r.take fG,wt.take n++r.take fG++wt.drop (n+(r.take fG).length)) _ ?_ ?_) ⟨o,o,o,(aF J),(aF J),trivial⟩
    ·exact⟨B,by rw[L];simp only;rw[Q];exact d,by rw[L];simp only;rw[Q];simpa only[R]using a_,M,by rw[dA,hY];exact P,hm⟩
    ·show(r.drop fG).length<r.length;rw[ia];omega
  ·
   have C:r=[]:=mH J;subst C;rw[hi]at P;subst P;refine I.exit (aP (aL (aK ?_)));refine ax (av (I.region ?_));refine G.v1 bN ?_;refine G.af (G.nil ?_);refine aT.sub (aZ (k+1) _ ?_ ?_) ⟨o,o,(aF J),(aF J),trivial⟩
   ·exact⟨by omega,⟨wt,j,by rw[Cf l k J,←dA,bT,UInt64.ofNat_add,←UInt64.add_assoc];exact d,by rw[Cf l k J,←dA];exact E⟩,hm⟩
   ·omega
 ·
  refine I.exit (an (ag (aV ?_)));refine bb .normal (.inl o) _ _ _ (jt o) ?_;have R:k=l.length:=by omega
  subst R;rw[eD]at K;exact⟨o,K,hm⟩
end uB
namespace xB
def ck:Nat→UInt64→List UInt8
 |0,_=>[]
 |j+1,x=>UInt8.ofNat (iF x (8*j)).toNat::ck j x
theorem eQ:∀(n:Nat) (x:UInt64),(ck n x).length=n
 |0,_=>rfl
 |n+1,x=>by rw[ck,fx,eQ]
end xB
namespace uC
open rj uA uB xB
def pS(n:Nat):Nat:=(119-n%64)%64
def ld(n:Nat):List UInt8:=0x80::(List.replicate (pS n) 0++ck 8 (UInt64.ofNat (8*n)))
def oX(s:List UInt32):List UInt8:=(List.range 32).map (fun i=>UInt8.ofNat (mi (s.getD (i/4) 0) (24-8*(i%4))).toNat)
theorem ES(s:List UInt32):(oX s).length=32:=by simp[oX]
def sumOf(m:List UInt8):List UInt8:=oX (run fL (m++ld m.length)).1.list
theorem o3(m:List UInt8):(sumOf m).length=32:=ES _
theorem Lx(w:List UInt8)(j:Nat)(x:UInt8):(w.map jI).set (0+j) (jI x)=(w.set j x).map jI:=by rw[jL,vD]
theorem OS(w r:List UInt8)(i:Nat)(x:UInt8)(h:w.take i=r.take i)(n:i<w.length)(q:r[i]?=some x):(w.set i x).take (i+1)=r.take (i+1):=by
 have ab:=(List.getElem?_eq_some_iff.1 q);obtain⟨d,j⟩:=ab;rw[Aj _ _ _ n,h,eP d,j]
theorem MH(s:List UInt32)(i:Nat)(h:i<32):(oX s)[i]?=some (UInt8.ofNat (mi (s.getD (i/4) 0) (24-8*(i%4))).toNat):=by
 simp[oX,h]
end uC
namespace A1
open rj uA uB xB uC
theorem PU:∀w,(zeroValue 356).run Tryz.prog w= .ok (.agg (aq (List.replicate 8 0) (List.replicate 64 0) 0 0).toArray) w:=fun w=>by kernel_rfl
theorem Oo{cs d:List Value}(h:cs.length=d.length):er cs 0 d=d:=by simp[er,←h]
theorem Kt(s:List UInt32)(wt:List UInt8)(n:Nat)(az:UInt64):∀u∈aq s wt n az,u.oneCell'=true:=by
 intro u hu;simp only[aq,gG,cN,dU,nf,or_false]at hu;rcases hu with(⟨x,_,rfl⟩|⟨x,_,rfl⟩)|rfl|rfl<;>rfl
theorem NZ:∀(n:Nat) (s:hP) (b:List UInt8),b.length≤n→(run s b).2.length=b.length%64:=by
 intro n
 induction n with
 |zero=>intro s b h;rw[ob s b J];simp only;omega
 |succ n ih=>
  intro s b h;by_cases ao:b.length<64
  ·rw[ob s b ao];simp only;omega
  ·rw[tX s b J,ih _ _ b2];simp;omega
theorem NY(s:hP)(b:List UInt8):(run s b).2.length=b.length%64:=NZ _ s b (dz _)
theorem MO(z:Nat):(List.replicate (1+z) (0:UInt8)).set 0 0x80=0x80::List.replicate z 0:=by rw[vw,yO,vx]
theorem MG(s:List UInt32)(i k:Nat)(d:i<8)(j:k<4):(oX s)[4*i+k]?=some (UInt8.ofNat (mi (s.getD i 0) (24-8*k)).toNat):=by
 rw[MH s _ J,show(4*i+k)/4=i by omega,show(4*i+k)%4=k by omega]
theorem M3(ao:Nat)(m:List UInt8)(w0:World)(N:Heap)
 (aN:lW N ao m (UInt64.ofNat m.length))(cT:m.length≤1099511627776):
 aE Tryz.prog w0 258 #[.pointer (some ⟨ao,0,none⟩)] N (fun r U=>r= .agg ((sumOf m).map jI).toArray∧aa (fun c=>False) N U):=by
 refine aE.enter (args:=[.pointer (some ⟨ao,0,none⟩)]) Tryz.func258 o o o ?_;intro b4 b1;obtain⟨wt,W,F,aQ⟩:=aN.ex;have bY:=Fu fL m;have b0:=NY fL m;obtain⟨n,aB⟩:∃n,(run fL m).2.length=n:=⟨_,o⟩;have bW:=aQ;rw[aB]at F aQ bY b0;have b_:=F.lt;have ca:=aN.lt;have B:aa (fun c=>False) N N:=aa.refl _ _;refine I.O (fun bF=>?_);refine G.aU (Z.a7 o7) ?_;rintro v2 U ⟨rfl,C,an,_⟩;have F:=F.aR an;have B:=B.trans an (fun b A d=>d) (fun b A d=>d.elim);have ch:=an.size;have b7:=C.lt;have C:Var 26 U N.size ((List.replicate 32 (0:UInt8)).map jI):=C;refine G.nil (bF (I.O (fun cR=>?_)));refine G.av 2 ?_;refine G.v1 (ba F.W GO Fy (oO o W)) ?_;refine G.aU (Z.ey (Z.nE o PU)) ?_;rintro v3 aS ⟨rfl,E,ar,_⟩;have F:=F.aR ar;have B:=B.trans ar (fun b A d=>d) (fun b A d=>d.elim);obtain⟨C,_⟩:=b6 ar C;have b9:=E.lt;have E:Var 356 aS U.size (aq (List.replicate 8 0) (List.replicate 64 0) 0 0):=E;refine G.s1 (S.var E (aq (run fL m).1.list wt n (UInt64.ofNat m.length)) (aq (run fL m).1.list wt n (UInt64.ofNat m.length)) o o o o (Kt _ _ _ _) Fy (oO o W) (iS o) (Oo (by rw[oO bl bl,oO o W]))) ?_;rintro av ⟨E,ag⟩;have F:=F.up ag J;have B:=B.trans ag (fun b A d=>d) (fun b A d=>by omega);have C:=C.up ag J;have cl:=ag.size;refine G.nil (cR (I.t1 (fun be=>?_)));have cU:pS m.length=(119-m.length%64)%64:=rfl;refine I.region ?_;refine G.aV lo b8 ?_;refine G.v1 (bf (E.W.at 72 (vr o W)) cX) ?_;refine G.v1 gq ?_;refine G.v1 (Y.Nv o o o J) ?_;refine G.v1 bN ?_;refine G.aU (Z.c2 (Z.Lw (1+pS m.length) ((0:UInt8)) o fw AA o fM hh o o gP J J)) ?_;rintro cD cm ⟨ac,az,_⟩;have F:=F.aR az;have B:=B.trans az (fun b A d=>d) (fun b A d=>d.elim);obtain⟨C,E,_⟩:=bO az C E;have bC:=ac.le;refine G.aj ?_;refine be (I.O (fun bG=>?_));refine G.af ?_;refine G.v1 (mo ac (0) dV dK) ?_;refine G.s1 (S.MN ac (0) 0 ((0x80:UInt8)) o o o o dK ic bc o) ?_;rintro aG ⟨ac,ad⟩;have F:=F.up ad J;have B:=B.trans ad (fun b A d=>d) (fun b A d=>by omega);have C:=C.up ad J;have E:=E.up ad J;have cn:=ad.size;rw[MO]at ac;refine G.nil (bG (I.t1 (fun bH=>I.O (fun bi=>?_))));refine G.aj ?_;refine bi (I.aC (fun _ bJ _=>?_))
 refine I.bb (fun(ae:Nat×Value×Nat×(List UInt8))=>match ae with|(j,O,R,ys)=>[(0,.pointer (some ⟨ao,0,none⟩)),(2,.pointer (some ⟨N.size,0,none⟩)),(3,.pointer (some ⟨U.size,0,none⟩)),(4,O),(5,.int .i64 (8*(j:Int)-8))])
  (fun(j,O,R,ys) (H:Heap)=>(j≤8)∧aY R 5 H bd 1 O ys∧(R=0∨R=av.size+1∨aG.size<R)∧ys++ck j (UInt64.ofNat (8*m.length))=(0x80::List.replicate (pS m.length) (0:UInt8))++ck 8 (UInt64.ofNat (8*m.length))∧aa (fun c=>c=av.size) aG H)
  (fun(j,O,R,ys)=>j) (8,cD,av.size+1,(0x80::List.replicate (pS m.length) (0:UInt8))) ⟨o,o,o,o,o,trivial⟩ ?_ ?_
 ·
  exact⟨J,ac,J,o,aa.refl _ _⟩
 rintro⟨j,O,R,ys⟩ cp aC b3 bL bM;obtain⟨cP,ac,cQ,X,L⟩:=aC;have F:=F.up L J;have B:=B.trans L (fun b A d=>d) (fun b A d=>by omega);have C:=C.up L J;have E:=E.up L J;have cq:=L.size;have bC:=ac.le;have cY:ys.length+j=pS m.length+9:=by have:=aI List.length X;simpa[eQ]using this
 have cV:pS m.length<64:=by rw[pS];omega
 refine I.t2 (fun bP bQ=>I.O (fun aZ=>?_));refine G.af ?_;refine G.v1 eT (G.nil (aZ ?_));refine a8 (fun bR=>?_) (fun bR=>?_)
 ·
  obtain⟨j,rfl⟩:∃q,j=q+1:=⟨j-1,by omega⟩;refine I.skip (bP (I.t1 (fun a6=>I.aC (fun a7 _ _=>I.region ?_))));refine G.av 3 ?_;refine G.aV lo wH ?_;refine G.v1 (bf (F.W.at 73 (Dm o W)) A5) ?_;refine G.v1 (Y.cast (v2:= .int .u64 (UInt64.ofNat (8*m.length)).toNat) (Y.LO (b:=(UInt64.ofNat 8)) o o o) (by rw[←UInt64.ofNat_mul,qF])) ?_;refine G.af ?_;refine G.v1 (Y.ua (8*j) o o o gP J) ?_;refine G.v1 (Y.s0 o hA lP o) ?_;refine G.aU (Z.c2 (dE _ ([UInt8.ofNat (iF (UInt64.ofNat (8*m.length)) (8*j)).toNat]) fw fM hh)) ?_;rintro cr ct ⟨aH,ai,_⟩;have B:=B.trans ai (fun b A d=>d) (fun b A d=>d.elim);have ac:=ac.aR ai
  try have L:=L.trans ai (fun b A d=>d) (fun b A d=>d.elim)
  have cv:=ai.size;have cb:=aH.le;refine G.aU (eO ac aH.rd fw h0 h0) ?_;rintro bS cw ⟨br,aJ,bK,am⟩;have B:=B.trans am (fun b A d=>d) (fun b A d=>by omega)
  try have L:=L.trans am (fun b A d=>d) (fun b A d=>by omega)
  have cx:=am.size;have cc:=aJ.le;refine G.aj ?_;refine a7 (a6 (I.region ?_));refine G.af ?_;refine G.v1 gq ?_;refine G.aj ?_;refine aT.sub (bL (j,bS,br,ys++[UInt8.ofNat (iF (UInt64.ofNat (8*m.length)) (8*j)).toNat]) _ ?_ ?_) ⟨o,o,o,o,(aF J),trivial⟩
  ·exact⟨J,aJ,J,by rw[←X,dA];rfl,L⟩
  ·first|omega|(simp only;omega)|(simp;omega)
 ·
  obtain rfl:j=0:=by omega
  rw[ck,hi]at X;have X:ys=ld m.length:=by rw[X];rfl
  subst X;refine I.exit (bQ (bM (bJ ?_)));refine bH (I.O (fun a_=>?_));refine G.af ?_;refine G.aU (Z.c2 (Z.DW _ ([((cF O,ld m.length):aO×List UInt8)]) o rT o o o bc bc rI rJ (by simp only[dk,lG,kI];rw[ac.bA,ac.rd.I_]))) ?_;rintro cy cz ⟨aK,ay,_⟩;have B:=B.trans ay (fun b A d=>d) (fun b A d=>d.elim);obtain⟨C,E,ac,_⟩:=cf ay C E ac;have b5:=aK.le;refine aW B2 (w_ U.size _ m (UInt64.ofNat m.length) [((cF O,ld m.length):aO×List UInt8)] w0 _ ⟨wt,W,aB▸E,bW⟩ (aK.rd.imp (fun b _ h=>by omega)) (by intro x aR;simp only[eU]at aR;subst aR;simp only;rw[ac.bA];exact ac.rd.imp (fun b _ h=>by omega))) ?_;rintro cA P ⟨rfl,aP,ap⟩;have bX:m++cat [((cF O,ld m.length):aO×List UInt8)]=m++ld m.length:=by simp[cat]
  rw[bX]at aP;obtain⟨c0,cW,E,cL⟩:=aP.ex;have B:=B.trans ap (fun b A d=>d) (fun b A d=>by omega);have C:=C.up ap J;have cJ:=ap.size;refine G.nil (a_ (I.O (fun bb=>?_)));refine G.aU (Z.a7 o7) ?_;rintro v6 ax ⟨rfl,K,aL,_⟩;have B:=B.trans aL (fun b A d=>d) (fun b A d=>d.elim);obtain⟨C,E,_⟩:=bO aL C E;have aD:=K.lt;have K:Var 26 ax P.size ((List.replicate 32 (0:UInt8)).map jI):=K;refine G.nil (bb (I.t1 (fun bg=>I.O (fun bj=>?_))));refine G.aV lo o0 ?_;refine G.v1 (Y.cast (v2:= .agg ((run fL (m++ld m.length)).1.list.map gR).toArray) (ba (E.W.take 8) xE o0 o) o) ?_;refine G.af (G.nil (bj ?_));refine I.aC (fun _ bk _=>?_)
  refine I.bb (fun(ae:Nat×(List UInt8))=>match ae with|(i,T)=>[(2,.pointer (some ⟨N.size,0,none⟩)),(6,.pointer (some ⟨P.size,0,none⟩)),(40,.agg ((run fL (m++ld m.length)).1.list.map gR).toArray),(41,.int .i64 i)])
   (fun(i,T) (H:Heap)=>(i≤8)∧T.length=32∧T.take (4*i)=(oX (run fL (m++ld m.length)).1.list).take (4*i)∧Var 26 H P.size (T.map jI)∧aa (fun c=>c=P.size) ax H)
   (fun(i,T)=>8-i) (0,List.replicate 32 0) ⟨o,o,o,o,trivial⟩ ?_ ?_
  ·
   exact⟨J,by simp,by simp,K,aa.refl _ _⟩
  rintro⟨i,T⟩ bT bv cB bm bn;obtain⟨cO,ak,Q,K,M⟩:=bv;have B:=B.trans M (fun b A d=>d) (fun b A d=>by omega);have C:=C.up M J;have cK:=M.size;have aD:=K.lt;refine I.O (fun bo=>?_);refine G.v1 bZ (G.nil (bo ?_));refine I.t2 (fun bp bq=>?_);refine a8 (fun bU=>?_) (fun bU=>?_)
  ·
   refine I.skip (bp (I.t1 (fun bt=>I.aC (fun bu _ _=>I.O (fun bw=>?_)))));refine G.af ?_;refine G.v1 (Y.xR i o hM fS gM o o gP J ((by rw[List.getElem?_toArray];exact pN (run fL (m++ld m.length)).1.list i b2))) ?_;refine G.aZ 2 ?_;refine bw (I.O (fun bz=>?_));refine G.af (G.nil (bz ?_));refine I.aC (fun _ bA _=>?_)
   refine I.bb (fun(ae:Nat×(List UInt8))=>match ae with|(k,T)=>[(2,.pointer (some ⟨N.size,0,none⟩)),(6,.pointer (some ⟨P.size,0,none⟩)),(7,.int .i64 i),(8,.int .u32 ((run fL (m++ld m.length)).1.list.getD i 0).toNat),(40,.agg ((run fL (m++ld m.length)).1.list.map gR).toArray),(41,.int .i64 i),(45,.int .i64 k)])
    (fun(k,T) (H:Heap)=>(k≤4)∧T.length=32∧T.take (4*i+k)=(oX (run fL (m++ld m.length)).1.list).take (4*i+k)∧Var 26 H P.size (T.map jI)∧aa (fun c=>c=P.size) bT H)
    (fun(k,T)=>4-k) (0,T) ⟨o,o,o,o,o,o,o,trivial⟩ ?_ ?_
   ·
    exact⟨J,ak,Q,K,aa.refl _ _⟩
   rintro⟨k,T⟩ cC bV cG a0 a2;obtain⟨cH,ak,Q,K,V⟩:=bV;have B:=B.trans V (fun b A d=>d) (fun b A d=>by omega)
   try have M:=M.trans V (fun b A d=>d) (fun b A d=>by omega)
   have cd:=V.size;have aD:=K.lt;refine I.O (fun a3=>?_);refine G.v1 bZ (G.nil (a3 ?_));refine I.t2 (fun a4 a5=>?_);refine a8 (fun bE=>?_) (fun bE=>?_)
   ·
    refine I.skip (a4 (I.t1 (fun aU=>I.aC (fun aV _ _=>I.O (fun aX=>?_)))));refine G.aZ 2 ?_;refine aX (I.region ?_);refine G.af ?_;refine G.v1 (Y.lJ o o o J) ?_;refine G.af ?_;refine G.v1 bN ?_;refine G.av 2 ?_;refine G.v1 (Y.lJ o o o J) ?_;refine G.v1 gq ?_;refine G.v1 (Y.wP (24-8*k) o o o J J) ?_;refine G.v1 (Y.s0 o um lP o) ?_;refine G.v1 (gA K.W (4*i+k) nv dK) ?_;refine G.s1 (du K (0+(4*i+k)) _ dK b2 (Lx T (4*i+k) _)) ?_;rintro a9 ⟨K,af⟩;have B:=B.trans af (fun b A d=>d) (fun b A d=>by omega)
    try have M:=M.trans af (fun b A d=>d) (fun b A d=>by omega)
    try have V:=V.trans af (fun b A d=>d) (fun b A d=>by omega)
    have cg:=af.size;refine G.nil (aV (aU (I.region ?_)));refine G.v1 bN ?_;refine G.af (G.nil ?_);refine aT.sub (a0 (k+1,T.set (4*i+k) (UInt8.ofNat (mi ((run fL (m++ld m.length)).1.list.getD i 0) (24-8*k)).toNat)) _ ?_ ?_) ⟨o,o,(aF J),(aF J),o,(aF J),(aF J),trivial⟩
    ·exact⟨J,by simp[ak],OS T _ (4*i+k) _ Q J (MG _ i k J J),K,V⟩
    ·first|omega|(simp only;omega)|(simp;omega)
   ·
    obtain rfl:k=4:=by omega
    rw[show 4*i+4=4*(i+1)by omega]at Q;refine I.exit (a5 (a2 (bA ?_)));refine bu (bt (I.region ?_));refine G.v1 bN ?_;refine G.af (G.nil ?_);refine aT.sub (bm (i+1,T) _ ?_ ?_) ⟨o,o,o,(aF J),trivial⟩
    ·exact⟨J,ak,Q,K,M⟩
    ·first|omega|(simp only;omega)|(simp;omega)
  ·
   obtain rfl:i=8:=by omega
   rw[eY J,eY (by rw[ES];omega),show oX (run fL (m++ld m.length)).1.list=sumOf m from rfl]at Q;subst Q;refine I.exit (bq (bn (bk ?_)));refine bg (I.O (fun bB=>?_));refine G.v1 (ba K.W cZ bx o) ?_;refine G.s1 (S.var C ((sumOf m).map jI) ((sumOf m).map jI) o o o o (by intro u hu;obtain⟨x,_,rfl⟩:=cN.1 hu;rfl) bx o (by simp[o3]) (by simp[er,o3])) ?_;rintro cI ⟨C,bD⟩;have B:=B.trans bD (fun b A d=>d) (fun b A d=>by omega);refine G.nil (bB ?_);refine I.ret (b1 .ret (.inr o) _ _ _ (lg o o C.W cZ bx (by first|rfl|simp)) ?_);exact⟨o,B⟩
theorem Mt(n:Nat):(0:UInt64)+UInt64.ofNat n=UInt64.ofNat n:=by simp
theorem M0(M:Value)(l:List (aO×List UInt8))(w0:World)(N:Heap)
 (B:b7 N kI 1 M l)(C:∀x∈l,b7 N bd 1 x.1.v x.2)(W:(cat l).length≤1099511627776):
 aE Tryz.prog w0 224 #[M] N (fun r F=>r= .agg ((sumOf (cat l)).map jI).toArray∧aa (fun c=>False) N F):=by
 refine aE.enter (args:=[M]) Tryz.func224 o o o ?_;intro ag X;have B:=B.lt;have C:=fun x A=>(C x A).lt;have q:aa (fun c=>False) N N:=aa.refl _ _;refine I.O (fun Q=>?_);refine G.aU (Z.a7 o7) ?_;rintro v2 F ⟨rfl,j,ac,_⟩;have B:=B.aR ac;have C:=fun x A=>(C x A).up ac (fun b n d L=>L);have q:=q.trans ac (fun b n d=>d) (fun b n d=>d.elim);have ai:=ac.size;have ad:=j.lt;have j:Var 26 F N.size ((List.replicate 32 (0:UInt8)).map jI):=j;refine G.nil (Q (I.O (fun R=>?_)));refine aW Is (wj w0 _) ?_;rintro v4 Y ⟨rfl,E,H,U⟩;have B:=B.aR H;have C:=fun x A=>(C x A).up H (fun b n d L=>L);have q:=q.trans H (fun b n d=>d) (fun b n d=>d.elim);obtain⟨j,_⟩:=b6 H j;refine G.aj ?_;refine R (I.O (fun V=>?_));refine G.av 2 ?_;have ak:=E.lt;refine aW B2 (w_ F.size _ [] 0 l w0 _ E (B.imp (fun b _ h=>by omega)) (fun x A=>(C x A).imp (fun b _ h=>by omega))) ?_;rintro an ae ⟨rfl,E,K⟩;rw[hq,Mt]at E;have q:=q.trans K (fun b n d=>d) (fun b n d=>by omega);have j:=j.up K J;have ap:=K.size;refine G.nil (V (I.O (fun az=>?_)));refine G.af ?_;refine aW It (M3 _ (cat l) w0 _ E W) ?_;rintro v9 af ⟨rfl,O⟩;have q:=q.trans O (fun b n d=>d) (fun b n d=>d.elim);obtain⟨j,U⟩:=b6 O j;refine G.s1 (S.var j ((sumOf (cat l)).map jI) ((sumOf (cat l)).map jI) o o o o (by intro u hu;obtain⟨x,_,rfl⟩:=cN.1 hu;rfl) bx o (by simp[o3]) (by simp[er,o3])) ?_;rintro am ⟨j,P⟩;have q:=q.trans P (fun b n d=>d) (fun b n d=>by omega);refine G.nil (az ?_);refine I.ret (X .ret (.inr o) _ _ _ (lg o o j.W cZ bx (by first|rfl|simp)) ?_);exact⟨o,q⟩
end A1
namespace E
open Go.MapKept
structure cW {κ β:Type} (H:Heap) (aX:κ→Value) (fv:β→Value) (b:Nat) (m:List (κ×β)):Prop where
 fX:jy (fun x=>x=b) H aX fv (.map (some b)) m
section
variable {κ β : Type} {H V : Heap} {aX : κ → Value} {fv : β → Value} {b k : Nat} {m : List (κ × β)} {ks : List Nat}
theorem cW.lt(h:cW H aX fv b m):b<H.size:=h.fX.Hs
theorem cW.up{S:Nat→Prop}(h:cW H aX fv b m)(s:aa S H V)(d:¬S b):cW V aX fv b m:=⟨h.fX.up s (fun x _ e ab=>d (by rw[←e];exact ab))⟩
theorem cW.aR(h:cW H aX fv b m)(s:al H V):cW V aX fv b m:=⟨h.fX.aR s⟩
theorem cW.aJ(x:cW H aX fv b m)(s:aa (ay ks) H V)(d:au (b+1) ks):cW V aX fv b m:=x.up s (fun ab=>d (b+1) ab b o o)
instance:cr (cW H aX fv b m) H V (cW V aX fv b m):=⟨fun s h=>h.aR s⟩
instance:ct (cW H aX fv b m) H V (cW V aX fv b m) (ak (b+1)):=⟨fun s h d=>h.aJ s (au.T d)⟩
end
section
variable {P : Program} {w0 : World} {n : Nat} {l : cm} {H : Heap} {T : Oper} {κ β : Type} [DecidableEq κ] {aX : κ → Value} {fv : β → Value} {b : Nat} {m : List (κ × β)} {d : TypeDesc}
theorem Z.qL(aX:κ→Value)(fv:β→Value){t:TypeId}(j:T.op= .makeMap t none):Z P w0 n l H T (fun r V=>r= .map (some H.size)∧cW V aX fv H.size ([]:List (κ×β))∧al H V∧∃q,V=H.push q):=by
 intro a w x d;refine⟨.map (some w.heap.size),H.push (.map #[] 0),w.alloc (.map #[] 0),?_,d.alloc _,by rw[d.heap],⟨H.size,#[],0,o,o,by simp,stamped_empty 0,o⟩,al.pu _ _,_,o⟩;simp[execOp,j,Instr.makeMap]
theorem S.oZ{t gH j:TypeId}{x i y:Operand}{k:κ}(z:β)(h:cW H aX fv b m)(r:ou d aX)(C:T.op= .mapUpdate t x i y)(hm:∀w,(underlying t).run P w= .ok (.map gH j) w)(B:P.underlying gH=some d)
 (E:aK l x=some (.map (some b)))(A:aK l i=some (aX k))(hy:aK l y=some (fv z)):S P w0 n l H T (fun V=>cW V aX fv b (hk m k z)∧aa (fun c=>c=b) H V):=
 (S.mapUpdate h.fX r C hm B E A hy).mono fun V ⟨q,ab⟩=>⟨⟨q⟩,ab⟩
end
theorem nn{κ β:Type}[DecidableEq κ](m:List (κ×β))(k:κ)(b:β)(q:κ):aH (hk m k b) q=if q=k then some b else aH m q:=by
 have n:∀m:List (κ×β),aH (m.map (fun p=>if p.1=k then(p.1,b)else p)) q=if q=k then(aH m q).map (fun _=>b)else aH m q:=by
  intro m
  induction m with
  |nil=>simp[aH]
  |cons p m ih=>
   simp only[dk];by_cases j:p.1=k
   ·rw[aM j]
    by_cases d:q=p.1
    ·have:q=k:=d.trans j
     simp[aH,d,j]
    ·simp only[aH]
     rw[aA d,ih,aA d]
   ·rw[aA j]
    by_cases d:q=p.1
    ·have:¬q=k:=fun e=>j (by rw[←d,e])
     simp[aH,d,j]
    ·simp only[aH]
     rw[aA d,ih,aA d]
 have ab:∀m:List (κ×β),aH (m++[(k,b)]) q=(aH m q).or (if q=k then some b else none):=by
  intro m
  induction m with
  |nil=>simp[aH]
  |cons p m ih=>
   simp only[kO,aH];split
   ·simp
   ·exact ih
 unfold hk;split
 ·rename_i h
  rw[n];by_cases d:q=k
  ·subst d
   obtain⟨z,r⟩:=tl.1 h;simp[r]
  ·simp[d]
 ·rename_i h
  rw[ab];by_cases d:q=k
  ·subst d
   have:aH m q=none:=by simpa using h
   simp[this]
  ·simp[d]
section
variable {P : Program} {w0 : World} {Q : Exit → Act → World → Prop} {n : Nat} {l : cm} {H : Heap} {ops : Array Oper} {rest : List Oper} {T : Oper}
theorem G.xd{j:Value→Heap→Prop}(C:Z P w0 n l H T j)(hw:dr ops l T)(ah:T.dst=none)
 (h:∀v V,j v V→G false P w0 ops Q n l rest V):G false P w0 ops Q n l (T::rest) H:=by
 intro a w d x;obtain⟨v,V,q,B,A,r⟩:=C a w d x;have bz:=h v V r a q d A;simp only[lX]at bz⊢;unfold wpList;rw[aM (hw n a d)];refine .inl ?_;unfold Oper.wp;rw[B];show wpList P ops Q rest (a.put T.dst v) q;rw[ah];exact bz
end
section
variable {P : Program} {w0 : World} {Q : Exit → Act → World → Prop} {ca : Heap → Prop} {X : List Nat} {n k : Nat} {l : cm} {H : Heap} {ops : Array Oper} {T : Oper} {dn : List Nat}
end
end E
end Go.Proofs.YtfjmpninmdjcaaaGreatDoor
