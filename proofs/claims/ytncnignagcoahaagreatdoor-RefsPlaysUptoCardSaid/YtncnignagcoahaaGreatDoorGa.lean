/-
  Contracts of functions of the program, and plain laws: put together of several texts.
-/
import Derived.WalkKit
import Derived.StillTail
import Derived.OrdersHeld
import Derived.Deep.RegionHeld3
import Derived.MapKept
import Derived.Lib.ConvBytes
import Derived.Lib.AppendStr
import Derived.Laws.Pointers
import Derived.Laws.Cover3
import Derived.Test.YtncnignagcoahaaGreatDoorRows
import Derived.Lib.BytesEntry
import Derived.Maps.RangeRun
import Derived.Lib.Bytealg
import Derived.RangeFuncLeaves
import Derived.RangeFuncRecord
import Derived.RangeFuncSeq
import Derived.TacticsIn
import Derived.Lib.SplitLaws
import Derived.Test.YtncnignagcoahaaGreatDoorShelf
set_option linter.unusedVariables false
set_option linter.unusedSimpArgs false
set_option linter.unusedSectionVars false
set_option linter.defProp false
set_option maxHeartbeats 8000000
set_option maxRecDepth 100000
namespace Go.Proofs.YtncnignagcoahaaGreatDoor.E
open Go.RowKit Go.Proofs.Tryz
variable{n k vq7z vq28z:Nat}{P:Program}{args hv:List Value}{F ki:Nat->Prop}{wt:List UInt8}{aZ:Exit->Act->World->Prop}{aE:Array Oper}{bY:List Oper}{aP oC:Type}{eO:Func}{nM:Array TypeId}{jt:List Operand}{vq14z:Array Value}{bL:Addr}{cI:IntKind}{rW:TypeDesc}{vq24z:Int}{ju:Array Field}{vq33z bQ:List Nat}{gS:TypeId}{bW:List aP}{gp:aP->Value}{ly:oC->Value}
def au:= @if_neg
def aD:= @if_pos
def bn:= @congrArg
def b2:= @List.length_append
def cS:= @List.getElem_mem
def dp:= @List.mem_map
def dF:= @Nat.le_refl
def dI:= @List.mem_cons
def dK:= @List.length_map
def dQ:= @List.map_cons
def ev:= @Nat.le_trans
def ew:= @List.append_assoc
def eC:= @List.length_take
def eQ:= @List.take_length
def e5:= @List.take_of_length_le
def fc:= @List.take_succ_eq_append_getElem
def fm:= @List.mem_singleton
def fA:= @List.length_cons
def fB:= @decide_eq_true
def fG:= @decide_eq_false
def fZ:= @List.mem_cons_self
def gw:= @List.nil_append
def gx:= @List.mem_cons_of_mem
def gH:= @Nat.zero_le
def gR:= @List.mem_append
def hc:= @List.map_append
def hB:= @Decidable.byContradiction
def hC:= @Nat.le_of_ble_eq_true
def hD:= @List.append_nil
def hY:= @List.take_append_drop
def h6:= @List.length_drop
def ie:= @List.length_nil
def ig:= @Prod.mk.injEq
def ij:= @Subtype.ext
def ik:= @List.length_singleton
def iw:= @Nat.add_mul
def iB:= @List.sum_cons
def iK:= @List.mem_filter
def jS:= @of_decide_eq_true
def jT:= @Nat.lt_of_lt_of_le
def jU:= @List.pairwise_cons
def j5:= @List.flatMap_append
def j6:= @List.cons.injEq
def ku:= @Ne.symm
def kv:= @Nat.zero_add
def kx:= @Nat.min_eq_left
def ky:= @List.mem_of_mem_take
def kN:= @List.not_mem_nil
def kO:= @List.foldl_cons
def kP:= @List.take_left'
def kQ:= @Classical.byContradiction
def ld:= @Option.some.injEq
def lf:= @decide_eq_true_eq
def lT:= @List.eq_nil_of_length_eq_zero
def mc:= @Nat.mul_le_mul_right
def me:= @List.cons_append
def mf:= @List.drop_zero
def mG:= @Option.some.inj
def mH:= @List.flatMap_cons
def mI:= @List.drop_left'
def mJ:= @List.map_nil
def m_:= @Nat.mul_one
def na:= @List.drop_eq_getElem_cons
def nb:= @Bool.false_eq_true
def nc:= @List.drop_drop
def nA:= @Nat.eq_of_beq_eq_true
def nB:= @Nat.not_lt_zero
def nC:= @Nat.le_succ
def nD:= @List.length_filter_le
def n4:= @Nat.le_succ_of_le
def n6:= @Nat.add_zero
def n8:= @List.set_append_right
def n9:= @UInt64.toNat_ofNat'
def n_:= @List.filter_cons_of_neg
def oa:= @List.filter_cons_of_pos
def ob:= @Bool.and_eq_true
def oc:= @List.foldl_append
def od:= @List.getElem_map
def oT:= @Array.length_toList
def oU:= @List.map_map
def oV:= @List.nodup_cons
def oW:= @List.map_congr_left
def oX:= @Decidable.not_not
def oY:= @Nat.succ_ne_zero
def pK:= @List.size_toArray
def pL:= @List.drop_of_length_le
def pM:= @List.getElem_cons_zero
def pN:= @List.take_zero
def pO:= @List.filter_filter
def qu:= @Nat.eq_zero_or_pos
def qv:= @List.length_replicate
def qw:= @List.any_eq_true
def qx:= @UInt8.toNat.inj
def qy:= @List.nodup_append
def qz:= @Nat.zero_lt_succ
def qA:= @Nat.succ_lt_succ
def rl:= @List.length_set
def rm:= @List.take_append_of_le_length
def rn:= @List.filter_eq_nil_iff
def rp:= @Nat.max_le
def sm:= @Nat.add_assoc
def sn:= @Nat.lt_or_ge
def sq:= @List.all_eq_true
def sr:= @List.take_left
def ss:= @Nat.mul_comm
def su:= @List.pairwise_map
def sv:= @List.take_take
def sw:= @Nat.mod_eq_of_lt
def sx:= @Option.map_some
def sy:= @Nat.shiftLeft_eq
def sA:= @Nat.lt_succ_iff_lt_or_eq
def sB:= @Classical.not_not
def sC:= @Nat.sub_self
def tF:= @List.map_toArray
def tG:= @Int.toNat_natCast
def tH:= @UInt8.toNat_ofNat'
def tI:= @Bool.not_eq_true'
def tJ:= @UInt8.lt_iff_toNat_lt
def tK:= @List.Pairwise.filter
def tL:= @Nat.lt_succ_of_lt
def tM:= @List.filter_congr
def tN:= @Option.getD_some
def tO:= @Nat.sub_lt
def vw:= @Nat.sub_zero
def vx:= @Bool.or_eq_true
def vy:= @Nat.add_comm
def vz:= @Nat.zero_mul
def vA:= @List.mem_flatMap
def vB:= @List.nodup_iff_pairwise_ne
def vC:= @List.drop_append_of_le_length
def vD:= @List.take_append
def vE:= @Option.isSome_iff_exists
def vF:= @Nat.lt_of_le_of_lt
def vG:= @Bool.not_true
def vH:= @List.take_succ_cons
def vI:= @List.reverse_reverse
def vJ:= @List.length_reverse
def vK:= @List.sum_append
def vL:= @List.ext_getElem
def vM:= @List.nodup_nil
def vN:= @Nat.le_add_right
def vO:= @List.mem_map_of_mem
def vP:= @List.map_take
def vQ:= @List.filter_append
def vR:= @List.set_eq_of_length_le
def vS:= @Int.emod_nonneg
def vT:= @List.getElem_of_mem
def x8:= @Array.getD_eq_getD_getElem?
def x9:= @List.set_cons_zero
def x_:= @List.set_append_left
def ya:= @List.flatMap_nil
def yb:= @List.flatMap_def
def yc:= @List.mem_of_getElem?
def yd:= @Array.toList_inj
def ye:= @Bool.false_and
def yf:= @Nat.add_sub_cancel
def yg:= @UInt8.toNat_inj
def yh:= @Bool.true_and
def yi:= @List.filter_eq_self
def yj:= @List.length_pos_iff
def yk:= @List.getD_cons_zero
def yl:= @Bool.and_eq_false_iff
def ym:= @Bool.or_true
def yn:= @List.getElem_drop
def yo:= @List.dropWhile_suffix
def yp:= @Nat.pow_le_pow_right
def yq:= @List.suffix_refl
def yr:= @List.map_set
def yt:= @List.map_drop
def yu:= @Int.lt_tmod_of_pos
def yv:= @Nat.mul_add
def yw:= @List.length_eq_one_iff
def Bh:= @ByteArray.ext
def Bi:= @List.drop_take
def Bj:= @List.set_cons_succ
def Bk:= @Array.toList_setIfInBounds
def Bl:= @Array.toList_append
def Bm:= @List.ext_getElem?
def Bn:= @BitVec.toNat_ofInt
def Bo:= @UInt64.toNat_sub
def Bp:= @List.mem_iff_getElem
def Bq:= @UInt8.ofNat_toNat
def Br:= @Bool.false_or
def Bs:= @Bool.or_eq_false_iff
def Bt:= @List.pairwise_singleton
def Bu:= @Option.not_isSome_iff_eq_none
def Bv:= @Bool.eq_iff_iff
def Bw:= @Nat.min_le_left
def Bx:= @Nat.mul_le_mul_left
def By:= @List.reverse_append
def Bz:= @List.mem_reverse
def BA:= @List.takeWhile_append_of_pos
def BB:= @Nat.sub_add_cancel
def BC:= @List.mem_append_left
def BD:= @UInt64.toNat_inj
def BE:= @List.drop_eq_nil_of_le
def BF:= @List.pairwise_iff_getElem
def BG:= @List.mem_of_mem_drop
def BH:= @Nat.lt_of_succ_lt_succ
def BI:= @Int.emod_lt_of_pos
def BJ:= @Int.toNat_of_nonneg
def BK:= @Int.tmod_lt_of_pos
def BL:= @List.take_nil
def BM:= @Nat.lt_trichotomy
def Hf:= @Int.tmod_eq_emod_of_nonneg
def Hg:= @Int.fdiv_eq_ediv_of_nonneg
def Hh:= @Std.Legacy.Range.forIn_eq_forIn_range'
def Hi:= @List.length_eq_zero_iff
def Hj:= @List.length_erase_of_mem
def Hk:= @List.mem_take_iff_getElem
def Hl:= @Nat.shiftLeft_or_distrib
def Hm:= @Option.isNone_iff_eq_none
def o{α:Sort _}{a:α}:a=a:=rfl
def I{p:Prop}(h:p:=by omega):p:=h
def aO{p:Prop}(h:p:=by decide):p:=h
def aW{p:Prop}(h:p:=by kernel_rfl):p:=h
def a_{p:Prop}(h:p:=by simp):p:=h
def bU{p:Prop}(h:p:=by simp;omega):p:=h
def ch{p:Prop}(h:p:=by assumption):p:=h
def eN{p:Prop}(h:p:=by intro w;kernel_rfl):p:=h
def gm{p:Prop}(h:p:=by first|omega|(simp;omega)):p:=h
def gj{p:Prop}(h:p:=by first|omega|(simp;omega)|·simp):p:=h
def hd{p:Prop}(h:p:=by first|rfl|omega):p:=h
def iN{p:Prop}(h:p:=by simp_all):p:=h
def rB{p:Prop}(h:p:=by simp<;>omega):p:=h
def yS{p:Prop}(h:p:=by first|rfl|simp):p:=h
abbrev Heap:=Array Obj
variable{H V lx:Heap}{R:Value->Heap->Prop}{c3:Heap->Prop}
abbrev az:=List (Nat×Value)
variable{l':az}
def dh:az->Nat->Option Value
 |[],_=>none
 |(s,v)::l,t=>match Nat.beq s t with
  |true=>some v
  |false=>dh l t
structure Fr (n:Nat) (l:az) (a:Act):Prop where
 defers:a.defers=[]
 size:a.tmps.size=n
 get:∀t v,dh l t=some v->a.tmps[t]?=some v
def aI(l:az):Operand->Option Value
 | .tmp t=>dh l t
 | .const v=>some v
 | .global g=>some (.pointer (some ⟨g,0,none⟩))
 | .func f=>some (.func (.func f) #[] #[])
def jb(l:az):List Operand->Option (List Value)
 |[]=>some []
 |x::r=>match aI l x,jb l r with
  |some v,some vs=>some (v::vs)
  |_,_=>none
def Fr.eval{n:Nat}{l:az}{a:Act}(h:Fr n l a){x:Operand}{v:Value}(e:aI l x=some v):a.eval x=v:=by
 cases x with
 |tmp t=>have:=h.get t v e;simp[Act.eval,x8,this]
 |const c=>simpa[aI,Act.eval]using e
 |global g=>simpa[aI,Act.eval]using e
 |func f=>simpa[aI,Act.eval]using e
def Fr.oM{n:Nat}{l:az}{a:Act}(h:Fr n l a):∀{xs:List Operand} {vs:List Value},jb l xs=some vs->xs.map a.eval=vs
 |[],vs,e=>by simpa[jb]using e
 |x::r,vs,e=>by
  simp only[jb]at e;cases k:aI l x with
  |none=>simp[k]at e
  |some v=>
   cases af:jb l r with
   |none=>simp[k,af]at e
   |some A=>
    simp only[k,af,ld]at e;subst e;simp[h.eval k,h.oM af]
def Fr.put{l:az}{a:Act}(h:Fr n l a){d:Nat}(ab:Nat.blt d n=true)(v:Value):Fr n ((d,v)::l) (a.put (some d) v):=by
 have r:d<n:=by simpa[Nat.blt_eq]using ab
 refine⟨h.defers,by simp[Act.put,h.size],fun t u e=>?_⟩;simp only[Act.put,Array.getElem?_setIfInBounds];simp only[dh]at e;by_cases k:d=t;subst k;have:Nat.beq d d=true:=by simp
 simp only[this]at e;simp[h.size,r,<-mG e];have:Nat.beq d t=false:=by
  cases hb:Nat.beq d t with
  |true=>exact absurd (nA hb) k
  |false=>rfl
 simp only[this]at e;simp[k,h.get t u e]
def Sub:az->az->Prop
 |[],_=>True
 |(t,v)::r,l=>dh l t=some v/\Sub r l
def Sub.dh{l:az}:∀{l':az},Sub l' l->∀t v,dh l' t=some v->dh l t=some v
 |[],_,t,v,e=>by simp[E.dh]at e
 |(s,u)::r,⟨k,n⟩,t,v,e=>by
  simp only[E.dh]at e;cases hb:Nat.beq s t with
  |true=>
   simp only[hb,ld]at e;have:=nA hb;subst this;subst e;exact k
  |false=>simp only[hb]at e;exact Sub.dh n t v e
def Fr.sub{l:az}{a:Act}(h:Fr n l a)(Y:Sub l' l):Fr n l' a:=
 ⟨h.defers,h.size,fun t v e=>h.get t v (Y.dh t v e)⟩
structure At (w0:World) (H:Heap) (w:World):Prop where
 heap:w.heap=H
 os:w.os=w0.os
 tape:w.tape=w0.tape
 output:w.output=w0.output
 hK:w0.drawn<=w.drawn
def At.drew{w0 w:World}(h:At w0 H w):At w0 H {w with drawn:=w.drawn+1}:=⟨h.heap,h.os,h.tape,h.output,n4 h.hK⟩
def At.set{w0 w:World}(h:At w0 H w):At w0 V {w with heap:=V}:=⟨rfl,h.os,h.tape,h.output,h.hK⟩
def M(P:Program)(w0:World)(n:Nat)(l:az)(H:Heap)(J:Oper)(v:Value):Prop:=
 ∀a w,Fr n l a->At w0 H w->(execOp a.eval J).run P w= .ok (.value v) w
def ns(m:Bool)(P:Program)(ops:Array Oper)(k:Exit->Act->World->Prop)(rest:List Oper)(a:Act)(w:World):Prop:=match m with
 |true=>wpStill P ops w (fun n=>k .normal n w) rest a
 |false=>wpList P ops k rest a w
def bm(m:Bool)(P:Program)(w0:World)(ops:Array Oper)(k:Exit->Act->World->Prop)(n:Nat)(l:az)(rest:List Oper)(H:Heap):Prop:=
 ∀a w,Fr n l a->At w0 H w->ns m P ops k rest a w
def jy(w0:World)(k:Exit->Act->World->Prop)(n:Nat)(l:az)(H:Heap):Prop:=∀a w,Fr n l a->At w0 H w->k .normal a w
def kq(w0:World)(k:Exit->Act->World->Prop)(e:Exit)(n:Nat)(l:az)(H:Heap):Prop:=∀a w,Fr n l a->At w0 H w->k e a w
def b6(P:Program)(w0:World)(k:Exit->Act->World->Prop)(n:Nat)(l:az)(c:Code)(H:Heap):Prop:=
 ∀a w,Fr n l a->At w0 H w->c.wp P k a w
def bm.nil{w0:World}{l:az}{m:Bool}(h:jy w0 aZ n l H):bm m P w0 aE aZ n l [] H:=by
 intro a w r k;cases m;exact h a w r k;exact h a w r k
def T4{w0:World}{l:az}{J:Oper}{m:Bool}{a:Act}{w:World}{v:Value}(A:Fr n l a)(r:At w0 H w)(hw:Region.wanted J (yielded aE a.tmps)=true)(af:(execOp a.eval J).run P w= .ok (.value v) w){d:Nat}(ab:J.dst=some d)(ar:Nat.blt d n=true)(h:bm m P w0 aE aZ n ((d,v)::l) bY H):ns m P aE aZ (J::bY) a w:=by
 have k:=A.put ar v;rw[<-ab]at k;have bP:=h _ w k r;cases m;simp only[ns]at bP⊢;unfold wpList;rw[aD hw];exact .inl (by unfold Oper.wp;rw[af];exact bP);simp only[ns]at bP⊢;unfold wpStill;rw[aD hw];unfold Oper.still;rw[af];exact⟨o,bP⟩
def eB(ops:Array Oper)(l:az)(J:Oper):Prop:=∀n a,Fr n l a->Region.wanted J (yielded ops a.tmps)=true
def DV{l:az}{a:Act}(r:Fr n l a){j d:Nat}{b:Bool}(A:(aE[j]?).bind (·.dst)=some d)(aj:dh l d=some (.bool b)):yielded aE a.tmps j=some b:=by
 have k:=r.get d _ aj;have:(aE[j]?).bind (fun J=>J.dst)=some d:=A;unfold yielded;rw[this];simp[k]
def eB.u{l:az}{J:Oper}(k:J.guard=none):eB aE l J:=fun _ _ _=>by simp[Region.wanted,k]
def fE{l:az}{J:Oper}(k : J.guard=none := by exact rfl): eB aE l J := eB.u k
def eB.g{l:az}{J:Oper}{j e:Nat}{b:Bool}(n:J.guard=some (j,b))(r:(aE[j]?).bind (·.dst)=some e)(aj:dh l e=some (.bool b)):eB aE l J:=
 fun _ _ k=>by simp[Region.wanted,n,DV k r aj]
def cp{l:az}{J:Oper}{j e : Nat}{b : Bool}(k : J.guard=some (j,b) := by exact rfl)(n : (aE[j]?).bind (·.dst)=some e := by exact rfl)(aj : dh l e=some (.bool b) := by exact rfl): eB aE l J := eB.g k n aj
def bm.v{w0:World}{l:az}{J:Oper}{m:Bool}{v:Value}{d:Nat}(hy:M P w0 n l H J v)(hw:eB aE l J)(ab:J.dst=some d)(ar:Nat.blt d n=true)(h:bm m P w0 aE aZ n ((d,v)::l) bY H):bm m P w0 aE aZ n l (J::bY) H:=
 fun a w k r=>T4 k r (hw n a k) (hy a w k r) ab ar h
def bm.e{w0:World}{l:az}{J:Oper}{m:Bool}{g:aP->Value}{φ:aP->Prop}{d:Nat}(hy:∃x,(∀aa,M P w0 n l aa J (g x))/\φ x)(hw:eB aE l J)(ab:J.dst=some d)(ar:Nat.blt d n=true)(h:∀x,φ x->bm m P w0 aE aZ n ((d,g x)::l) bY H):bm m P w0 aE aZ n l (J::bY) H:=
 let⟨x,k,r⟩:=hy
 bm.v (k H) hw ab ar (h x r)
def bm.gs{w0:World}{l:az}{J:Oper}{m:Bool}{d j e:Nat}{b c:Bool}(B:J.guard=some (j,b))(C:(aE[j]?).bind (·.dst)=some e)(aj:dh l e=some (.bool c))(E:(c==b)=false)(ab:J.dst=some d)(ar:Nat.blt d n=true)(h:bm m P w0 aE aZ n ((d,undef)::l) bY H):bm m P w0 aE aZ n l (J::bY) H:=by
 intro a w k A;have hw:Region.wanted J (yielded aE a.tmps)=false:=by
  have F:c≠b:=by intro e;subst e;simp at E
  simp[Region.wanted,B,DV k C aj,F]
 have r:=k.put ar undef;rw[<-ab]at r;have bP:=h _ w r A;cases m;simp only[ns]at bP⊢;unfold wpList;rw[au (by simp[hw])];exact bP;simp only[ns]at bP⊢;unfold wpStill;rw[au (by simp[hw])];exact bP
def Fr.same{l:az}{a:Act}(k:Fr n l a){d:Nat}{v:Value}(aj:dh l d=some v):Fr n ((d,v)::l) a:=by
 refine⟨k.defers,k.size,fun t u e=>?_⟩;simp only[dh]at e;cases hb:Nat.beq d t with
 |true=>
  have:=nA hb;subst this;simp only[hb]at e;exact k.get d u (by rw[aj];exact e)
 |false=>simp only[hb]at e;exact k.get t u e
def bm.mQ{w0:World}{l:az}{m:Bool}{d:Nat}{p:Prop}[Decidable p](aj:dh l d=some (.bool (decide p)))(B:p->bm m P w0 aE aZ n ((d,.bool true)::l) bY H)(he:¬p->bm m P w0 aE aZ n ((d,.bool false)::l) bY H):bm m P w0 aE aZ n l bY H:=by
 intro a w A r;by_cases k:p;rw[fB k]at aj;exact B k a w (A.same aj) r;rw[fG k]at aj;exact he k a w (A.same aj) r
def bm.split{w0:World}{l:az}{m:Bool}{d:Nat}{b:Bool}(aj:dh l d=some (.bool b))(A:b=true->bm m P w0 aE aZ n ((d,.bool true)::l) bY H)(he:b=false->bm m P w0 aE aZ n ((d,.bool false)::l) bY H):bm m P w0 aE aZ n l bY H:=by
 intro a w r k;cases b;exact he o a w (r.same aj) k;exact A o a w (r.same aj) k
def jy.sub{w0:World}{l:az}(h:jy w0 aZ n l' H)(Y:Sub l' l):jy w0 aZ n l H:=fun a w r k=>h a w (r.sub Y) k
def b6.region{w0:World}{l:az}(h:bm false P w0 bY.toArray aZ n l bY H):b6 P w0 aZ n l (.region k bY.toArray false) H:=
 fun a w A r=>wp_region_lit (h a w A r)
def b6.Sv{w0:World}{l:az}(hm:P.follows .mixedOrders=true)(r:Region.lexB .any bY.toArray=true)(h:bm true P w0 bY.toArray aZ n l bY H):b6 P w0 aZ n l (.region k bY.toArray true) H:=
 fun a w B A=>wp_region_still_lit hm r (h a _ B A.drew)
def b6.seq{w0:World}{l:az}{x y:Code}(h:∀K:Exit->Act->World->Prop,(∀l' aa,b6 P w0 aZ n l' y aa->jy w0 K n l' aa)->(∀e,e≠ .normal->∀l' aa,kq w0 aZ e n l' aa->kq w0 K e n l' aa)->b6 P w0 K n l x H):b6 P w0 aZ n l (.seq x y) H:=by
 intro a w E C;refine wp_seq<|h (Exit.then (y.wp P aZ) aZ) (fun l' aa hy k B A r=>hy k B A r) ?_ a w E C;intro e he l' aa F k B A r;cases e<;>first|exact absurd o he|exact (F k B A r)
def b6.skip{w0:World}{l:az}(h:jy w0 aZ n l H):b6 P w0 aZ n l .skip H:=fun a w r k=>wp_skip (h a w r k)
def b6.label{w0:World}{l:az}(h:jy w0 aZ n l H):b6 P w0 aZ n l (.label k) H:=fun a w A r=>wp_label (h a w A r)
def b6.exit{w0:World}{l:az}(h:kq w0 aZ (.exit k) n l H):b6 P w0 aZ n l (.exit k) H:=fun a w A r=>wp_exit (h a w A r)
def b6.ret{w0:World}{l:az}(h:kq w0 aZ .ret n l H):b6 P w0 aZ n l .ret H:=fun a w r k=>wp_ret (h a w r k)
def b6.cond{w0:World}{l:az}{c:Operand}{x y:Code}{b:Bool}(aj:aI l c=some (.bool b))(A:b=true->b6 P w0 aZ n l x H)(he:b=false->b6 P w0 aZ n l y H):b6 P w0 aZ n l (.cond c x y) H:=
 fun a w k r=>wp_cond_split (k.eval aj) (fun h=>A h a w k r) (fun h=>he h a w k r)
def b6.Og{w0:World}{l:az}{c:Operand}{x y:Code}{p:Prop}[Decidable p](aj:aI l c=some (.bool (decide p)))(k:p->b6 P w0 aZ n l x H)(he:¬p->b6 P w0 aZ n l y H):b6 P w0 aZ n l (.cond c x y) H:=
 b6.cond aj (fun h=>k (jS h)) (fun h=>he (of_decide_eq_false h))
def b6.Of{w0:World}{l:az}{c:Operand}{x y:Code}(aj:aI l c=some (.bool false))(he:b6 P w0 aZ n l y H):b6 P w0 aZ n l (.cond c x y) H:=
 b6.cond aj (fun h=>by cases h) (fun _=>he)
def b6.block{w0:World}{l:az}{c:Code}(h:∀K:Exit->Act->World->Prop,(∀l' aa,jy w0 aZ n l' aa->jy w0 K n l' aa)->(∀l' aa,jy w0 aZ n l' aa->kq w0 K (.exit vq7z) n l' aa)->(∀e,e≠ .normal->e≠ .exit vq7z->∀l' aa,kq w0 aZ e n l' aa->kq w0 K e n l' aa)->b6 P w0 K n l c H):b6 P w0 aZ n l (.block vq7z c) H:=by
 intro a w L F;refine wp_block<|h (Exit.inBlock vq7z aZ) (fun l' aa hy r A C B=>hy r A C B) (fun l' aa hy r A C B=>?_) ?_ a w L F
 show(if vq7z=vq7z then aZ .normal r A else aZ (.exit vq7z) r A);rw[aD rfl];exact hy r A C B
 intro e he M l' aa E r A C B;cases e with
 |normal=>exact absurd o he
 |exit k=>
  show(if k=vq7z then aZ .normal r A else aZ (.exit k) r A)
  rw[au (fun e=>M (by rw[e]))];exact E r A C B
 |goto k=>exact E r A C B
 |ret=>exact E r A C B
 |panic k=>exact E r A C B
 |outgrown=>exact E r A C B
def b6.loop{w0:World}{l:az}{c:Code}(aG:aP->az)(F:aP->Heap->Prop)(μ:aP->Nat)(Q:aP)(Z:Sub (aG Q) l)(R:F Q H)(round:∀s H,F s H->∀K:Exit->Act->World->Prop,(∀A aa,F A aa->μ A<μ s->jy w0 K n (aG A) aa)->(∀e,e≠ .normal->∀l' aa,kq w0 aZ e n l' aa->kq w0 K e n l' aa)->b6 P w0 K n (aG s) c H):b6 P w0 aZ n l (.loop c) H:=by
 intro a w W U b k cs
 have key:∀bZ s H a w,μ s=bZ->F s H->Fr n (aG s) a->At w0 H w->
  ∃e B C,aZ e B C/\Arrives P (lone (b.at a (.code c:: .inLoop c::k)) cs w) b k cs e B C:=by
  intro bZ;induction bZ using Nat.strongRecOn with
  |_ bZ ih=>
   intro s H a w T S X V
   have af:=round s H S (Exit.then (fun B C=>∃A aa,Fr n (aG A) B/\At w0 aa C/\F A aa/\μ A<μ s) aZ)
    (fun A aa N O B C M L=>⟨A,aa,M,L,N,O⟩) (fun e he l' aa r B C M L=>by have r:=r B C M L;cases e<;>first|exact absurd o he|exact r) a w X V
   obtain⟨e,a₁,w₁,r,E⟩:=af b (.inLoop c::k) cs;cases e with
   |normal=>
    obtain⟨A,aa,M,L,N,O⟩:=r;obtain⟨e₂,a₂,w₂,hq₂,harr₂⟩:=ih (μ A) (T▸O) A aa a₁ w₁ o N M L;exact⟨e₂,a₂,w₂,hq₂,.of_steps (Steps.trans E (.one step_inLoop)) harr₂⟩
   |exit id=>exact⟨_,a₁,w₁,r,.pass (x:= .inLoop c) o (fun _ _=> .inl a_) E⟩
   |goto l=>exact⟨_,a₁,w₁,r,.pass (x:= .inLoop c) o (fun _ _=> .inl a_) E⟩
   |ret=>exact⟨_,a₁,w₁,r,.pass (x:= .inLoop c) o (fun _ _=> .inl a_) E⟩
   |panic gG=>exact⟨_,a₁,w₁,r,.pass (x:= .inLoop c) o (fun _ _=> .inl a_) E⟩
   |outgrown=>exact⟨_,a₁,w₁,r,.pass (x:= .inLoop c) o (fun _ _=> .inl a_) E⟩
 obtain⟨e,B,C,r,E⟩:=key _ Q H a w o R (W.sub Z) U;exact⟨e,B,C,r,.of_steps (.one step_loop) E⟩
def a8(P:Program)(w0:World)(f:FuncId)(args:Array Value)(H:Heap)(R:Value->Heap->Prop):Prop:=
 ∀w,At w0 H w->Calls P f args w (fun e k=>∃r aa,e= .returned r/\At w0 aa k/\R r aa)
def r1(w0:World)(R:Value->Heap->Prop):Ending->World->Prop:=fun e k=>∃r aa,e= .returned r/\At w0 aa k/\R r aa
def oI(args:List Value)(k:Nat):az:=match args with
 |[]=>[]
 |v::r=>(k,v)::oI r (k+1)
def xf:∀(args:List Value) (k t:Nat) (v:Value),dh (oI args k) t=some v->k<=t/\args[t-k]?=some v
 |[],_,_,_,e=>by simp[oI,dh]at e
 |x::r,k,t,v,e=>by
  simp only[oI,dh]at e;cases hb:Nat.beq k t with
  |true=>
   have:=nA hb;subst this;simp only[hb,ld]at e;simp[e]
  |false=>
   simp only[hb]at e;obtain⟨A,n⟩:=xf r (k+1) t v e;refine⟨by omega,?_⟩;have:t-k=(t-(k+1))+1:=by omega
   rw[this];simpa using n
def a8.enter{w0:World}{f:FuncId}{c:Code}(F:P.funcs[f]?=some eO)(hb:eO.body=some c)(ar:eO.ntmps=n)(K:Nat.ble args.length n=true)(h:∀r:Exit->Act->World->Prop,(∀e,(e= .normal\/e= .ret)->∀l aa v,(∀a w,Fr n l a->At w0 aa w->(results eO a.tmps).run P w= .ok v w)->R v aa->kq w0 r e n l aa)->b6 P w0 r n (oI args 0) c H):
 a8 P w0 f args.toArray H R:=by
 intro w E;have O:args.length<=n:=hC K;refine calls_of_wp F hb<|h (bodyPost P eO<|r1 w0 R) ?_ _ w ⟨o,?_,?_⟩ E;intro e he l aa v M C a N B A;rcases he with rfl|rfl<;>exact⟨B.defers,v,M a N B A,v,aa,o,A,C⟩;simp[ar];omega;intro t v e;obtain⟨_,k⟩:=xf args 0 t v e;simp only[vw]at k;simp only;have L:=(List.getElem?_eq_some_iff.1 k).1;rw[Array.getElem?_append_left (by simpa using L)];simpa using k
def CU{w0:World}{t:Nat}{l:az}{v:Value}(h:eO.results= #[.tmp t])(e:dh l t=some v):∀a w,Fr n l a->At w0 H w->(results eO a.tmps).run P w= .ok v w:=by
 intro a w k _;rw[results_tmp h];simp[x8,k.get t v e]
def Jo{w0:World}{t u:Nat}{l:az}{v x:Value}(h:eO.results= #[.tmp t,.tmp u])(e:dh l t=some v)(r:dh l u=some x):∀a w,Fr n l a->At w0 H w->(results eO a.tmps).run P w= .ok (.tuple #[v,x]) w:=by
 intro a w k _;rw[results_tmp2 h];simp[x8,k.get t v e,k.get u x r]
def Jp{w0:World}{t u s:Nat}{l:az}{v x y:Value}(h:eO.results= #[.tmp t,.tmp u,.tmp s])(e:dh l t=some v)(r:dh l u=some x)(A:dh l s=some y):∀a w,Fr n l a->At w0 H w->(results eO a.tmps).run P w= .ok (.tuple #[v,x,y]) w:=by
 intro a w k _;rw[results_tmp3 h];simp[x8,k.get t v e,k.get u x r,k.get s y A]
def Jn{w0:World}{l:az}(h:eO.results= #[]):∀a w,Fr n l a->At w0 H w->(results eO a.tmps).run P w= .ok (.tuple #[]) w:=by
 intro a w _ _;exact results_none h _ _ _
def Z(P:Program)(w0:World)(n:Nat)(l:az)(H:Heap)(J:Oper)(R:Value->Heap->Prop):Prop:=
 ∀a w,Fr n l a->At w0 H w->∃v aa k,(execOp a.eval J).run P w= .ok (.value v) k/\At w0 aa k/\R v aa
def bm.z{w0:World}{l:az}{J:Oper}{d:Nat}(E:Z P w0 n l H J R)(hw:eB aE l J)(ab:J.dst=some d)(ar:Nat.blt d n=true)(h:∀v aa,R v aa->bm false P w0 aE aZ n ((d,v)::l) bY aa):bm false P w0 aE aZ n l (J::bY) H:=by
 intro a w k B;obtain⟨v,aa,F,af,C,A⟩:=E a w k B;have r:=k.put ar v;rw[<-ab]at r;have bP:=h v aa A _ F r C;simp only[ns]at bP⊢;unfold wpList;rw[aD (hw n a k)];exact .inl (by unfold Oper.wp;rw[af];exact bP)
def S(P:Program)(w0:World)(n:Nat)(l:az)(H:Heap)(J:Oper)(R:Heap->Prop):Prop:=
 ∀a w,Fr n l a->At w0 H w->∃aa k,(execOp a.eval J).run P w= .ok .skip k/\At w0 aa k/\R aa
def bm.s{w0:World}{l:az}{J:Oper}(E:S P w0 n l H J c3)(hw:eB aE l J)(ab:J.dst=none)(h:∀aa,c3 aa->bm false P w0 aE aZ n l bY aa):bm false P w0 aE aZ n l (J::bY) H:=by
 intro a w k B;obtain⟨aa,r,af,C,A⟩:=E a w k B;have bP:=h aa A a r k C;simp only[ns]at bP⊢;unfold wpList;rw[aD (hw n a k)];refine .inl ?_;unfold Oper.wp;rw[af];show wpList P aE aZ bY (a.put J.dst undef) r;rw[ab];exact bP
def JG{J:Oper}{ρ:Operand->Value}{f:FuncId}{args:Array Operand}{w:World}(n:J.op= .call {callee:= .value (.func f),args:=args,argTypes:=nM})(hρ:ρ (.func f)= .func (.func f) #[] #[])(k:∀(vs:Array Value) (w:World),(callFunc f vs).run P w= .ok (.enter f vs) w):(execOp ρ J).run P w= .ok (.enter f (args.map ρ)) w:=by
 simp[execOp,n,resolve,Deferred.ofValue,hρ,invoke,k]
def bm.call{w0:World}{l:az}{J:Oper}{f d:Nat}(K:J.op= .call {callee:= .value (.func f),args:=jt.toArray,argTypes:=nM})(F:∀(hv:Array Value) (w:World),(callFunc f hv).run P w= .ok (.enter f hv) w)(L:jb l jt=some hv)(hw:eB aE l J)(ab:J.dst=some d)(ar:Nat.blt d n=true)(aj:a8 P w0 f hv.toArray H R)(h:∀v aa,R v aa->bm false P w0 aE aZ n ((d,v)::l) bY aa):bm false P w0 aE aZ n l (J::bY) H:=by
 intro a w k C;simp only[ns];have af:=JG (P:=P) (ρ:=a.eval) (w:=w) K o F;rw[tF,k.oM L]at af;unfold wpList;rw[aD (hw n a k)];refine .inl ?_;unfold Oper.wp;rw[af];show Calls P f hv.toArray w _;refine(aj w C).mono ?_;rintro e M ⟨r,aa,rfl,E,B⟩;have A:=k.put ar r;rw[<-ab]at A;exact h r aa B _ M A E
def a8.mono{w0:World}{f:FuncId}{k:Value->Heap->Prop}(h:a8 P w0 f vq14z H R)(af:∀v aa,R v aa->k v aa):a8 P w0 f vq14z H k:=
 fun w A=>(h w A).mono fun _ _ ⟨r,aa,he,B,n⟩=>⟨r,aa,he,B,af r aa n⟩
def aJ(l:List UInt8):Value:= .string ⟨l.toArray⟩
def cell(H:Heap)(a:Addr):Option Value:=match H[a.block]? with
 |some (.cells c _ _)=>if a.spot.isSome then none else c[a.off]?
 |_=>none
def At.cell{w0 w:World}(h:At w0 H w)(a:Addr):w.cell? a=E.cell H a:=by
 unfold World.cell? E.cell;rw[h.heap];rfl
structure cL (H:Heap) (ad:Addr) (cs:List Value):Prop where
 spot:ad.spot=none
 cells:∀j c,cs[j]?=some c->cell H ⟨ad.block,ad.off+j,none⟩=some c
def add_eq(h:bL.spot=none)(j:Nat):bL.add j=⟨bL.block,bL.off+j,none⟩:=by
 obtain⟨b,J,s⟩:=bL;simp only at h;subst h;unfold Addr.add;split;subst_vars;rfl;rfl
def cL.drop{cs:List Value}(h:cL H bL cs)(k:Nat):cL H (bL.add k) (cs.drop k):=by
 rw[add_eq h.spot];refine⟨o,fun j c e=>?_⟩;rw[List.getElem?_drop]at e;have:=h.cells (k+j) c e;simpa[sm]using this
def cL.take{cs:List Value}(h:cL H bL cs)(k:Nat):cL H bL (cs.take k):=by
 refine⟨h.spot,fun j c e=>h.cells j c ?_⟩;rw[List.getElem?_take]at e;split at e;exact e;cases e
structure Rd {α:Type} (F:Nat->Prop) (H:Heap) (f:α->List Value) (sz:Nat) (v:Value) (l:List α):Prop where
 ex:∃a cap,v= .slice a l.length cap/\l.length<=cap/\cap<=maxLen/\(l≠[]->∃ad:Addr,a=some ad/\ad.spot=none/\F ad.block/\ad.block<H.size/\∀i x,l[i]?=some x->cL H ⟨ad.block,ad.off+i*sz,none⟩ (f x))
structure W (S:Nat->Prop) (H aa:Heap):Prop where
 size:H.size<=aa.size
 same:∀b,b<H.size->¬S b->aa[b]?=H[b]?
def W.refl(S:Nat->Prop)(H:Heap):W S H H:=⟨dF _,fun _ _ _=>rfl⟩
def W.trans{fW:Nat->Prop}(h:W F H V)(k:W ki V lx)(Y:∀b,b<H.size->F b->fW b)(n:∀b,b<H.size->ki b->fW b):W fW H lx:=
 ⟨ev h.size k.size,fun b hb hu=>(k.same b (jT hb h.size) (fun e=>hu (n b hb e))).trans (h.same b hb (fun e=>hu (Y b hb e)))⟩
def W.weaken(h:W F H V)(Y:∀b,b<H.size->F b->ki b):W ki H V:=⟨h.size,fun b hb hu=>h.same b hb (fun e=>hu (Y b hb e))⟩
def W.push(S:Nat->Prop)(H:Heap)(J:Obj):W S H (H.push J):=⟨by simp,fun b hb _=>by rw[Array.getElem?_push,au I]⟩
abbrev an(H aa:Heap):Prop:=W (fun _=>False) H aa
def an.refl(H:Heap):an H H:=W.refl _ H
def an.al(h:an H V)(k:an V lx):an H lx:=W.trans h k (fun _ _ e=>e) (fun _ _ e=>e)
def an.pu(H:Heap)(J:Obj):an H (H.push J):=W.push _ H J
def NZ{a:Addr}(h:V[a.block]?=H[a.block]?):cell V a=cell H a:=by unfold cell;rw[h]
def NY{a:Addr}{v:Value}(h:cell H a=some v):a.block<H.size:=by
 unfold cell at h;cases hb:H[a.block]? with
 |none=>simp[hb]at h
 |some J=>exact(Array.getElem?_eq_some_iff.1 hb).1
def cL.up{cs:List Value}(h:cL H bL cs)(s:W F H V)(k:¬F bL.block):cL V bL cs:=
 ⟨h.spot,fun j c e=>by
  have aj:=h.cells j c e;have n:bL.block<H.size:=NY (a:=⟨bL.block,bL.off+j,none⟩) aj;exact(NZ (a:=⟨bL.block,bL.off+j,none⟩) (s.same bL.block n k)).trans aj⟩
def cL.aL{cs:List Value}(h:cL H bL cs)(s:an H V):cL V bL cs:=h.up s (fun e=>e)
def Rd.up{f:aP->List Value}{v:Value}{l:List aP}(h:Rd F H f n v l)(s:W ki H V)(L:∀b,b<H.size->F b->¬ki b):Rd F V f n v l:=by
 obtain⟨a,cap,N,C,E,K⟩:=h.ex;refine⟨a,cap,N,C,E,fun M=>?_⟩;obtain⟨ad,bc,A,k,r,B⟩:=K M;exact⟨ad,bc,A,k,jT r s.size,fun i x O=>(B i x O).up s (L _ r k)⟩
def Rd.aL{f:aP->List Value}{v:Value}{l:List aP}(h:Rd F H f n v l)(s:an H V):Rd F V f n v l:=h.up s (fun _ _ _ e=>e)
def Rd.imp{f:aP->List Value}{v:Value}{l:List aP}(h:Rd F H f n v l)(L:∀b,b<H.size->F b->ki b):Rd ki H f n v l:=by
 obtain⟨a,cap,N,C,E,K⟩:=h.ex;refine⟨a,cap,N,C,E,fun M=>?_⟩;obtain⟨ad,bc,r,A,k,B⟩:=K M;exact⟨ad,bc,r,L _ k A,k,B⟩
def Rd.len{f:aP->List Value}{v:Value}{l:List aP}(h:Rd F H f n v l):l.length<=9223372036854775807:=by
 obtain⟨a,cap,B,r,k,A⟩:=h.ex;unfold maxLen at k;omega
def Rd.nil(F:Nat->Prop)(H:Heap)(f:aP->List Value)(sz:Nat):Rd F H f sz (.slice none 0 0) []:=⟨none,0,o,dF _,gH _,fun h=>absurd o h⟩
def M.move{w0:World}{l:az}{J:Oper}{x:Operand}{v:Value}(r:J.op= .move x)(A:aI l x=some v):M P w0 n l H J v:=by
 intro a w k B;simp[execOp,r,k.eval A]
def gh{w0:World}{l:az}{J:Oper}{x : Operand}{v : Value}(k : J.op= .move x := by exact rfl)(r : aI l x=some v := by exact rfl): M P w0 n l H J v := M.move k r
def M.assign{w0:World}{l:az}{J:Oper}{x:Operand}{v:Value}(r:J.op= .assign x)(A:aI l x=some v):M P w0 n l H J v:=by
 intro a w k B;simp[execOp,r,k.eval A]
def fl{w0:World}{l:az}{J:Oper}{x : Operand}{v : Value}(k : J.op= .assign x := by exact rfl)(r : aI l x=some v := by exact rfl): M P w0 n l H J v := M.assign k r
def M.CK{w0:World}{l:az}{J:Oper}{c x y:Operand}{v:Value}(r:J.op= .pick c x y)(aj:aI l c=some (.bool true))(A:aI l x=some v):M P w0 n l H J v:=by
 intro a w k B;simp[execOp,r,k.eval A,k.eval aj,asBool]
def kj{w0:World}{l:az}{J:Oper}{c x y : Operand}{v : Value}(k : J.op= .pick c x y := by exact rfl)(aj : aI l c=some (.bool true) := by exact rfl)(r : aI l x=some v := by exact rfl): M P w0 n l H J v := M.CK k aj r
def M.CJ{w0:World}{l:az}{J:Oper}{c x y:Operand}{v:Value}(r:J.op= .pick c x y)(aj:aI l c=some (.bool false))(A:aI l y=some v):M P w0 n l H J v:=by
 intro a w k B;simp[execOp,r,k.eval A,k.eval aj,asBool]
def jO{w0:World}{l:az}{J:Oper}{c x y : Operand}{v : Value}(k : J.op= .pick c x y := by exact rfl)(aj : aI l c=some (.bool false) := by exact rfl)(r : aI l y=some v := by exact rfl): M P w0 n l H J v := M.CJ k aj r
def M.extract{w0:World}{l:az}{J:Oper}{x:Operand}{v:Value}(A:J.op= .extract x k)(C:aI l x=some (.tuple vq14z))(B:vq14z[k]?=some v):M P w0 n l H J v:=by
 intro a w r E;simp[execOp,A,r.eval C,Instr.extract,B]
def M.nilCheck{w0:World}{l:az}{J:Oper}{x:Operand}(r:J.op= .nilCheck x)(A:aI l x=some (.pointer (some bL))):M P w0 n l H J (.pointer (some bL)):=by
 intro a w k B;simp[execOp,r,k.eval A]
def mu{w0:World}{l:az}{J:Oper}{x : Operand}(k : J.op= .nilCheck x := by exact rfl)(r : aI l x=some (.pointer (some bL)) := by exact rfl): M P w0 n l H J (.pointer (some bL)) := M.nilCheck k r
def M.ji{w0:World}{l:az}{J:Oper}{p:Prop}[Decidable p](h:M P w0 n l H J (.bool (decide p)))(k:p):M P w0 n l H J (.bool true):=by rwa[fB k]at h
def M.hp{w0:World}{l:az}{J:Oper}{p:Prop}[Decidable p](h:M P w0 n l H J (.bool (decide p)))(k:¬p):M P w0 n l H J (.bool false):=by rwa[fG k]at h
def M.add{w0:World}{l:az}{J:Oper}{x y:Operand}{t u:TypeId}{a b:Int}(r:J.op= .binOp .add t x y u)(A:aI l x=some (.int cI a))(hy:aI l y=some (.int cI b)):M P w0 n l H J (.int cI (cI.wrap (a+b))):=by
 intro a w k B;simp[execOp,r,k.eval A,k.eval hy,binOp,Op.intArith,eqGuard]
def M.sub{w0:World}{l:az}{J:Oper}{x y:Operand}{t u:TypeId}{a b:Int}(r:J.op= .binOp .sub t x y u)(A:aI l x=some (.int cI a))(hy:aI l y=some (.int cI b)):M P w0 n l H J (.int cI (cI.wrap (a-b))):=by
 intro a w k B;simp[execOp,r,k.eval A,k.eval hy,binOp,Op.intArith,eqGuard]
def M.mul{w0:World}{l:az}{J:Oper}{x y:Operand}{t u:TypeId}{a b:Int}(r:J.op= .binOp .mul t x y u)(A:aI l x=some (.int cI a))(hy:aI l y=some (.int cI b)):M P w0 n l H J (.int cI (cI.wrap (a*b))):=by
 intro a w k B;simp[execOp,r,k.eval A,k.eval hy,binOp,Op.intArith,eqGuard]
def M.zV{w0:World}{l:az}{J:Oper}{x y:Operand}{t u:TypeId}{a b c:Int}(k:J.op= .binOp .add t x y u)(r:aI l x=some (.int cI a))(hy:aI l y=some (.int cI b))(aj:cI.wrap (a+b)=c):M P w0 n l H J (.int cI c):=by
 subst aj;exact M.add k r hy
def M.T_{w0:World}{l:az}{J:Oper}{x y:Operand}{t u:TypeId}{a b c:Int}(k:J.op= .binOp .sub t x y u)(r:aI l x=some (.int cI a))(hy:aI l y=some (.int cI b))(aj:cI.wrap (a-b)=c):M P w0 n l H J (.int cI c):=by
 subst aj;exact M.sub k r hy
def M.QX{w0:World}{l:az}{J:Oper}{x y:Operand}{t u:TypeId}{a b c:Int}(k:J.op= .binOp .mul t x y u)(r:aI l x=some (.int cI a))(hy:aI l y=some (.int cI b))(aj:cI.wrap (a*b)=c):M P w0 n l H J (.int cI c):=by
 subst aj;exact M.mul k r hy
def M.zU{w0:World}{l:az}{J:Oper}{x y:Operand}{t u:TypeId}{a b:Int}(k:J.op= .binOp .add t x y u)(r:aI l x=some (.int .i64 a))(hy:aI l y=some (.int .i64 b))(hb: -9223372036854775808<=a+b/\a+b<=9223372036854775807):M P w0 n l H J (.int .i64 (a+b)):=by
 have h:=M.add (P:=P) (w0:=w0) (n:=n) (H:=H) k r hy;rwa[IntWalk.i64_in _ hb]at h
def bB{w0:World}{l:az}{J:Oper}{x y : Operand}{t u : TypeId}{a b : Int}(k : J.op= .binOp .add t x y u := by exact rfl)(r : aI l x=some (.int .i64 a) := by exact rfl)(hy : aI l y=some (.int .i64 b) := by exact rfl)(hb : -9223372036854775808<=a+b/\a+b<=9223372036854775807 := by omega): M P w0 n l H J (.int .i64 (a+b)) := M.zU k r hy hb
def M.zy{w0:World}{l:az}{J:Oper}{x y:Operand}{t u:TypeId}{a b:Int}(k:J.op= .binOp .sub t x y u)(r:aI l x=some (.int .i64 a))(hy:aI l y=some (.int .i64 b))(hb: -9223372036854775808<=a-b/\a-b<=9223372036854775807):M P w0 n l H J (.int .i64 (a-b)):=by
 have h:=M.sub (P:=P) (w0:=w0) (n:=n) (H:=H) k r hy;rwa[IntWalk.i64_in _ hb]at h
def eA{w0:World}{l:az}{J:Oper}{x y : Operand}{t u : TypeId}{a b : Int}(k : J.op= .binOp .sub t x y u := by exact rfl)(r : aI l x=some (.int .i64 a) := by exact rfl)(hy : aI l y=some (.int .i64 b) := by exact rfl)(hb : -9223372036854775808<=a-b/\a-b<=9223372036854775807 := by omega): M P w0 n l H J (.int .i64 (a-b)) := M.zy k r hy hb
def M.ry{w0:World}{l:az}{J:Oper}{x y:Operand}{t u:TypeId}{a b:Int}(k:J.op= .binOp .mul t x y u)(r:aI l x=some (.int .i64 a))(hy:aI l y=some (.int .i64 b))(hb: -9223372036854775808<=a*b/\a*b<=9223372036854775807):M P w0 n l H J (.int .i64 (a*b)):=by
 have h:=M.mul (P:=P) (w0:=w0) (n:=n) (H:=H) k r hy;rwa[IntWalk.i64_in _ hb]at h
def lB{w0:World}{l:az}{J:Oper}{x y : Operand}{t u : TypeId}{a b : Int}(k : J.op= .binOp .mul t x y u := by exact rfl)(r : aI l x=some (.int .i64 a) := by exact rfl)(hy : aI l y=some (.int .i64 b) := by exact rfl)(hb : -9223372036854775808<=a*b/\a*b<=9223372036854775807 := by omega): M P w0 n l H J (.int .i64 (a*b)) := M.ry k r hy hb
def M.quo{w0:World}{l:az}{J:Oper}{x y:Operand}{t u:TypeId}{a b:Int}(r:J.op= .binOp .quo t x y u)(A:aI l x=some (.int cI a))(hy:aI l y=some (.int cI b))(hb:b≠0):M P w0 n l H J (.int cI (cI.wrap (a.tdiv b))):=by
 intro a w k B;simp[execOp,r,k.eval A,k.eval hy,binOp,Op.intDiv,eqGuard,hb]
def M.rem{w0:World}{l:az}{J:Oper}{x y:Operand}{t u:TypeId}{a b:Int}(r:J.op= .binOp .rem t x y u)(A:aI l x=some (.int cI a))(hy:aI l y=some (.int cI b))(hb:b≠0):M P w0 n l H J (.int cI (a.tmod b)):=by
 intro a w k B;simp[execOp,r,k.eval A,k.eval hy,binOp,Op.intDiv,eqGuard,hb]
def M.Sb{w0:World}{l:az}{J:Oper}{x y:Operand}{t u:TypeId}{a b:Int}(k:J.op= .binOp .quo t x y u)(r:aI l x=some (.int .i64 a))(hy:aI l y=some (.int .i64 b))(hb:0<=a/\a<=9223372036854775807/\1<=b):M P w0 n l H J (.int .i64 (a/b)):=by
 have h:=M.quo (P:=P) (w0:=w0) (n:=n) (H:=H) k r hy I;rwa[IntWalk.i64_quo _ _ hb]at h
def M.CQ{w0:World}{l:az}{J:Oper}{x y:Operand}{t u:TypeId}{a b:Int}(k:J.op= .binOp .rem t x y u)(r:aI l x=some (.int cI a))(hy:aI l y=some (.int cI b))(hb:0<=a/\1<=b):M P w0 n l H J (.int cI (a%b)):=by
 have h:=M.rem (P:=P) (w0:=w0) (n:=n) (H:=H) k r hy I;rwa[Hf hb.1]at h
def M.bits{w0:World}{l:az}{J:Oper}{x y:Operand}{t u:TypeId}{a b:Int}(op:BinOp)(r:Int)(A:J.op= .binOp op t x y u)(C:aI l x=some (.int cI a))(hy:aI l y=some (.int cI b))(B:op= .and\/op= .or\/op= .xor\/op= .andNot)(af:∀w,(Op.intBits op cI a b).run P w= .ok (.int cI r) w):M P w0 n l H J (.int cI r):=by
 intro a w k E;rcases B with rfl|rfl|rfl|rfl<;>simp[execOp,A,k.eval C,k.eval hy,binOp,af,eqGuard]
def M.shl{w0:World}{l:az}{J:Oper}{x y:Operand}{t u:TypeId}{B:IntKind}{a b:Int}(r:J.op= .binOp .shl t x y u)(A:aI l x=some (.int cI a))(hy:aI l y=some (.int B b))(hb:0<=b):M P w0 n l H J (.int cI (cI.wrap (a*2^min b.toNat cI.bits))):=by
 intro a w k C;simp[execOp,r,k.eval A,k.eval hy,binOp,Op.shift,eqGuard,show ¬b<0 by omega]
def M.shr{w0:World}{l:az}{J:Oper}{x y:Operand}{t u:TypeId}{B:IntKind}{a b:Int}(r:J.op= .binOp .shr t x y u)(A:aI l x=some (.int cI a))(hy:aI l y=some (.int B b))(hb:0<=b):M P w0 n l H J (.int cI (a.fdiv (2^min b.toNat cI.bits))):=by
 intro a w k C;simp[execOp,r,k.eval A,k.eval hy,binOp,Op.shift,eqGuard,show ¬b<0 by omega]
def M.lss{w0:World}{l:az}{J:Oper}{x y:Operand}{t u:TypeId}{a b:Int}(r:J.op= .binOp .lss t x y u)(A:aI l x=some (.int cI a))(hy:aI l y=some (.int cI b)):M P w0 n l H J (.bool (decide (a<b))):=by
 intro a w k B;simp[execOp,r,k.eval A,k.eval hy,binOp,Op.intCmp,eqGuard]
def M.leq{w0:World}{l:az}{J:Oper}{x y:Operand}{t u:TypeId}{a b:Int}(r:J.op= .binOp .leq t x y u)(A:aI l x=some (.int cI a))(hy:aI l y=some (.int cI b)):M P w0 n l H J (.bool (decide (a<=b))):=by
 intro a w k B;simp[execOp,r,k.eval A,k.eval hy,binOp,Op.intCmp,eqGuard]
def M.gtr{w0:World}{l:az}{J:Oper}{x y:Operand}{t u:TypeId}{a b:Int}(r:J.op= .binOp .gtr t x y u)(A:aI l x=some (.int cI a))(hy:aI l y=some (.int cI b)):M P w0 n l H J (.bool (decide (b<a))):=by
 intro a w k B;simp[execOp,r,k.eval A,k.eval hy,binOp,Op.intCmp,eqGuard]
def jY{w0:World}{l:az}{J:Oper}{x y : Operand}{t u : TypeId}{a b : Int}(k : J.op= .binOp .gtr t x y u := by exact rfl)(r : aI l x=some (.int cI a) := by exact rfl)(hy : aI l y=some (.int cI b) := by exact rfl): M P w0 n l H J (.bool (decide (b<a))) := M.gtr k r hy
def M.geq{w0:World}{l:az}{J:Oper}{x y:Operand}{t u:TypeId}{a b:Int}(r:J.op= .binOp .geq t x y u)(A:aI l x=some (.int cI a))(hy:aI l y=some (.int cI b)):M P w0 n l H J (.bool (decide (b<=a))):=by
 intro a w k B;simp[execOp,r,k.eval A,k.eval hy,binOp,Op.intCmp,eqGuard]
def LW(a b:Int):(a==b)=decide (a=b):=by by_cases h:a=b<;>simp[h]
def L7(a b:Int):(a !=b)=decide (a≠b):=by by_cases h:a=b<;>simp[h]
def M.eql{w0:World}{l:az}{J:Oper}{x y:Operand}{t u:TypeId}{a b:Int}(r:J.op= .binOp .eql t x y u)(A:aI l x=some (.int cI a))(hy:aI l y=some (.int cI b)):M P w0 n l H J (.bool (decide (a=b))):=by
 intro ac w k B;rw[<-LW];simp[execOp,r,k.eval A,k.eval hy,binOp,Op.intCmp,eqGuard]
def M.neq{w0:World}{l:az}{J:Oper}{x y:Operand}{t u:TypeId}{a b:Int}(r:J.op= .binOp .neq t x y u)(A:aI l x=some (.int cI a))(hy:aI l y=some (.int cI b)):M P w0 n l H J (.bool (decide (a≠b))):=by
 intro ac w k B;rw[<-L7];simp[execOp,r,k.eval A,k.eval hy,binOp,Op.intCmp,eqGuard]
def M.not{w0:World}{l:az}{J:Oper}{x:Operand}{t:TypeId}{b:Bool}(r:J.op= .unOp .not t x)(A:aI l x=some (.bool b)):M P w0 n l H J (.bool (!b)):=by
 intro ac w k B;simp[execOp,r,k.eval A,Op.unary]
def e7{w0:World}{l:az}{J:Oper}{x : Operand}{t : TypeId}{b : Bool}(k : J.op= .unOp .not t x := by exact rfl)(r : aI l x=some (.bool b) := by exact rfl): M P w0 n l H J (.bool (!b)) := M.not k r
def M.mL{w0:World}{l:az}{J:Oper}{x:Operand}{t:TypeId}{p:Prop}[Decidable p](r:J.op= .unOp .not t x)(A:aI l x=some (.bool (decide p))):M P w0 n l H J (.bool (decide (¬p))):=by
 intro ac w k B;simp[execOp,r,k.eval A,Op.unary]
def M.conv{w0:World}{l:az}{J:Oper}{x:Operand}{s d:TypeId}{fq:IntKind}{a:Int}(r:J.op= .convert s d x)(Y:∀w,(underlying s).run P w= .ok rW w)(ab:∀w,(underlying d).run P w= .ok (.int fq) w)(A:aI l x=some (.int cI a)):M P w0 n l H J (.int fq (fq.wrap a)):=by
 intro ac w k B;simp[execOp,r,k.eval A,convert,Y,ab,Conv.intToInt]
def M.r_{w0:World}{l:az}{J:Oper}{x:Operand}{s d:TypeId}{fq:IntKind}{a:Int}(k:J.op= .convert s d x)(Y:∀w,(underlying s).run P w= .ok rW w)(ab:∀w,(underlying d).run P w= .ok (.int fq) w)(r:aI l x=some (.int cI a))(hw:fq.wrap a=a):M P w0 n l H J (.int fq a):=by
 have h:=M.conv (P:=P) (w0:=w0) (n:=n) (H:=H) k Y ab r
 rwa[hw]at h
def M.qF{w0:World}{l:az}{J:Oper}{x y:Operand}{a b:Int}(r:J.op= .call {callee:= .builtin .max,args:= #[x,y],argTypes:=nM})(A:aI l x=some (.int cI a))(hy:aI l y=some (.int cI b)):M P w0 n l H J (.int cI (Max.max a b)):=by
 intro ac w k B;have:(if b>a then b else a)=Max.max a b:=by
  by_cases h:b>a;rw[aD h];omega;rw[au h];omega
 simp[execOp,r,k.eval A,k.eval hy,resolve,invoke,builtin,Builtin.max_,Builtin.max2,<-this]
def M.B8{w0:World}{l:az}{J:Oper}{x y:Operand}{a b:Int}(r:J.op= .call {callee:= .builtin .min,args:= #[x,y],argTypes:=nM})(A:aI l x=some (.int cI a))(hy:aI l y=some (.int cI b)):M P w0 n l H J (.int cI (Min.min a b)):=by
 intro ac w k B;have:(if b<a then b else a)=Min.min a b:=by
  by_cases h:b<a;rw[aD h];omega;rw[au h];omega
 simp[execOp,r,k.eval A,k.eval hy,resolve,invoke,builtin,Builtin.min_,Builtin.min2,<-this]
def fa{a b:Int}(h:a=b):some (Value.int cI a)=some (.int cI b):=by rw[h]
def di{a b:Int}(h:a=b):Value.int cI a= .int cI b:=by rw[h]
def eX{p q:Prop}[Decidable p][Decidable q](h:p↔q):Value.bool (decide p)=Value.bool (decide q):=by
 congr 1;exact decide_eq_decide.2 h
def M.neg{w0:World}{l:az}{J:Oper}{x:Operand}{t:TypeId}{a:Int}(r:J.op= .unOp .neg t x)(A:aI l x=some (.int cI a)):M P w0 n l H J (.int cI (cI.wrap (0-a))):=by
 intro ac w k B;simp[execOp,r,k.eval A,Op.unary,Op.intArith]
def M.nS{w0:World}{l:az}{J:Oper}{x y:Operand}{t u:TypeId}{ys:Array Value}{p:Prop}[Decidable p](A:J.op= .binOp .eql t x y u)(hm:P.eqGuardType P.depth t=false)(r:∀w,(Op.equalIn 10000 t (.agg vq14z) (.agg ys)).run P w= .ok (decide p) w)(B:aI l x=some (.agg vq14z))(hy:aI l y=some (.agg ys)):M P w0 n l H J (.bool (decide p)):=by
 intro ac w k C;simp[execOp,A,k.eval B,k.eval hy,run_eqGuard_agg _ _ _ _ _ _ _ hm,run_eql_struct,r]
def M.qf{w0:World}{l:az}{J:Oper}{x y:Operand}{t u:TypeId}{ys:Array Value}{p:Prop}[Decidable p](A:J.op= .binOp .neq t x y u)(hm:P.eqGuardType P.depth t=false)(r:∀w,(Op.equalIn 10000 t (.agg vq14z) (.agg ys)).run P w= .ok (decide p) w)(B:aI l x=some (.agg vq14z))(hy:aI l y=some (.agg ys)):M P w0 n l H J (.bool (decide (¬p))):=by
 intro ac w k C;simp[execOp,A,k.eval B,k.eval hy,run_eqGuard_agg _ _ _ _ _ _ _ hm,run_neq_struct,r]
def M.ox{w0:World}{l:az}{J:Oper}{x y:Operand}{t u:TypeId}{a b:List UInt8}(r:J.op= .binOp .eql t x y u)(A:aI l x=some (aJ a))(hy:aI l y=some (aJ b)):M P w0 n l H J (.bool (decide (a=b))):=by
 intro ac w k B;have h:(a==b)=decide (a=b):=by by_cases h:a=b<;>simp[h]
 simp[execOp,r,k.eval A,k.eval hy,binOp,Op.stringOp,eqGuard,aJ,h]
def M.TG{w0:World}{l:az}{J:Oper}{x y:Operand}{t u:TypeId}{a b:List UInt8}(r:J.op= .binOp .neq t x y u)(A:aI l x=some (aJ a))(hy:aI l y=some (aJ b)):M P w0 n l H J (.bool (decide (a≠b))):=by
 intro ac w k B;have h:(a==b)=decide (a=b):=by by_cases h:a=b<;>simp[h]
 simp[execOp,r,k.eval A,k.eval hy,binOp,Op.stringOp,eqGuard,aJ,h]
def kJ{w0:World}{l:az}{J:Oper}{x y : Operand}{t u : TypeId}{a b : List UInt8}(k : J.op= .binOp .neq t x y u := by exact rfl)(r : aI l x=some (aJ a) := by exact rfl)(hy : aI l y=some (aJ b) := by exact rfl): M P w0 n l H J (.bool (decide (a≠b))) := M.TG k r hy
def M.De{w0:World}{l:az}{J:Oper}{x y:Operand}{t u:TypeId}{a b:List UInt8}(A:J.op= .binOp .lss t x y u)(B:aI l x=some (aJ a))(hy:aI l y=some (aJ b)):M P w0 n l H J (.bool (Op.bytesLess a b)):=by
 intro ac w r C;have bc:=ByteArray.toList_eq (ByteArray.mk a.toArray);have k:=ByteArray.toList_eq (ByteArray.mk b.toArray);simp only at bc k;simp[execOp,A,r.eval B,r.eval hy,binOp,Op.stringOp,eqGuard,aJ,bc,k]
def sR(a:List UInt8):(ByteArray.mk a.toArray).size=a.length:=by simp[ByteArray.size]
def M.rK{w0:World}{l:az}{J:Oper}{x y:Operand}{t u:TypeId}{a b:List UInt8}(A:J.op= .binOp .add t x y u)(B:aI l x=some (aJ a))(hy:aI l y=some (aJ b))(hb:a.length+b.length<=9223372036854775807):M P w0 n l H J (aJ (a++b)):=by
 intro ac w k C;have r:IntKind.i64.max=9223372036854775807:=by decide
 have:¬(((ByteArray.mk a.toArray).size+(ByteArray.mk b.toArray).size:Nat):Int)>IntKind.i64.max:=by
  rw[sR,sR,r];omega
 have e:(ByteArray.mk a.toArray)++(ByteArray.mk b.toArray)=ByteArray.mk (a++b).toArray:=by
  apply Bh;simp[ByteArray.data_append]
 simp only[execOp,A,k.eval B,k.eval hy,binOp,Op.stringOp,eqGuard,aJ];rw[au this,e];rfl
def M.p3{w0:World}{l:az}{J:Oper}{x:Operand}{t:TypeId}{s:List UInt8}(r:J.op= .call {callee:= .builtin .len,args:= #[x],argTypes:= #[t]})(B:∀w,(underlying t).run P w= .ok .string w)(C:aI l x=some (aJ s)):M P w0 n l H J (.int .i64 s.length):=by
 have A:=sR s;intro ac w k E;simp[execOp,r,k.eval C,resolve,invoke,builtin,Builtin.len_,B,goInt,aJ,A]
def hn{w0:World}{l:az}{J:Oper}{x : Operand}{t : TypeId}{s : List UInt8}(r : ∀w,(underlying t).run P w= .ok .string w)(k : J.op= .call {callee:= .builtin .len,args:= #[x],argTypes:= #[t]} := by exact rfl)(A : aI l x=some (aJ s) := by exact rfl): M P w0 n l H J (.int .i64 s.length) := M.p3 k r A
def M.TE{w0:World}{l:az}{J:Oper}{x i:Operand}{t:TypeId}{s:List UInt8}(j:Nat)(C:J.op= .index t x i)(E:∀w,(underlying t).run P w= .ok .string w)(F:aI l x=some (aJ s))(A:aI l i=some (.int cI vq24z))(B:vq24z=j)(k:j<s.length):M P w0 n l H J (.int .u8 (s[j]'k).toNat):=by
 intro ac w r K;subst B;have Y:(ByteArray.mk s.toArray)[j]?=some (s[j]'k):=by
  have bP:j<(ByteArray.mk s.toArray).size:=by rw[sR];exact k
  rw[getElem?_pos _ j bP];simp[ByteArray.getElem_eq_getElem_data]
 simp[execOp,C,r.eval F,r.eval A,Instr.index,asIntOf,E,Y,aJ]
def l1{w0:World}{l:az}{J:Oper}{x i : Operand}{t : TypeId}{s : List UInt8}(j : Nat)(C : ∀w,(underlying t).run P w= .ok .string w)(B : J.op= .index t x i := by exact rfl)(E : aI l x=some (aJ s) := by exact rfl)(r : aI l i=some (.int cI vq24z) := by exact rfl)(A : vq24z=j := by first|rfl|omega)(k : j<s.length := by omega): M P w0 n l H J (.int .u8 (s[j]'k).toNat) := M.TE j B C E r A k
def M.Ds{w0:World}{l:az}{J:Oper}{x:Operand}{A r:Option Operand}{t:TypeId}{s:List UInt8}(i j:Nat)(F:J.op= .slice t x A r none)(L:∀w,(underlying t).run P w= .ok .string w)(N:aI l x=some (aJ s))(E:A=none/\i=0\/∃p k fa,A=some p/\aI l p=some (.int k fa)/\fa=(i:Int))(C:r=none/\j=s.length\/∃p k fa,r=some p/\aI l p=some (.int k fa)/\fa=(j:Int))(S:i<=j)(T:j<=s.length):M P w0 n l H J (aJ ((s.take j).drop i)):=by
 intro ac w B R;have bc:∀w,(Instr.sliceBounds false s.length s.length (A.map ac.eval) (r.map ac.eval) none).run P w= .ok (i,j,s.length) w:=by
  intro w
  rcases E with⟨rfl,rfl⟩|⟨p,k,fa,rfl,O,rfl⟩<;>rcases C with⟨rfl,rfl⟩|⟨W,V,U,rfl,Q,rfl⟩<;>
   simp[Instr.sliceBounds,Instr.sliceBound,asIntOf,B.eval, *]
 have hu:∀w,(underlying t).run P w= .ok .string w:=L;have K:(ByteArray.mk s.toArray).size=s.length:=sR s;have hex:(ByteArray.mk s.toArray).extract i j=ByteArray.mk ((s.take j).drop i).toArray:=by
  apply Bh;simp[ByteArray.data_extract,List.extract_toArray,List.extract_eq_take_drop,Bi]
 simp[execOp,F,B.eval N,Instr.sliceAt,Instr.slice,hu,aJ,K,bc,hex]
def M.len{w0:World}{l:az}{J:Oper}{f:aP->List Value}{v:Value}{x:Operand}{t e:TypeId}(h:Rd F H f k v bW)(A:J.op= .call {callee:= .builtin .len,args:= #[x],argTypes:= #[t]})(B:∀w,(underlying t).run P w= .ok (.slice e) w)(C:aI l x=some v):M P w0 n l H J (.int .i64 bW.length):=by
 obtain⟨a,cap,rfl,_⟩:=h.ex;intro ac w r E;simp[execOp,A,r.eval C,resolve,invoke,builtin,Builtin.len_,B,goInt]
def bz{w0:World}{l:az}{J:Oper}{f:aP->List Value}{v:Value}{x : Operand}{t e : TypeId}(h : Rd F H f k v bW)(A : ∀w,(underlying t).run P w= .ok (.slice e) w)(r : J.op= .call {callee:= .builtin .len,args:= #[x],argTypes:= #[t]} := by exact rfl)(B : aI l x=some v := by exact rfl): M P w0 n l H J (.int .i64 bW.length) := M.len h r A B
def M.indexAddr{w0:World}{l:az}{J:Oper}{f:aP->List Value}{v:Value}{x i:Operand}{t e:TypeId}(h:Rd F H f vq7z v bW)(j:Nat)(L:J.op= .indexAddr t x i)(N:∀w,(underlying t).run P w= .ok (.slice e) w)(Y:∀w,(sizeOf e).run P w= .ok vq7z w)(O:aI l x=some v)(E:aI l i=some (.int cI vq24z))(K:vq24z=j)(k:j<bW.length):∃ad,(∀aa,M P w0 n l aa J (.pointer (some ad)))/\cL H ad (f bW[j]):=by
 obtain⟨a,cap,rfl,S,T,C⟩:=h.ex;obtain⟨ad,rfl,A,Q,R,B⟩:=C (by intro e;subst e;simp at k);subst K;refine⟨_,?_,B j bW[j] (by simp[k])⟩;intro aa ac w r U;simp[execOp,L,r.eval O,r.eval E,Instr.indexAt,asIntOf,N,Y,k,add_eq A]
def mY{w0:World}{l:az}{J:Oper}{f:aP->List Value}{v:Value}{x i : Operand}{t e : TypeId}(h : Rd F H f vq7z v bW)(j : Nat)(C : ∀w,(underlying t).run P w= .ok (.slice e) w)(Y : ∀w,(sizeOf e).run P w= .ok vq7z w)(B : J.op= .indexAddr t x i := by exact rfl)(E : aI l x=some v := by exact rfl)(k : aI l i=some (.int cI vq24z) := by exact rfl)(r : vq24z=j := by first|rfl|omega)(A : j<bW.length := by first|omega|(simp;omega)|·simp): ∃ad,(∀aa,M P w0 n l aa J (.pointer (some ad)))/\cL H ad (f bW[j]) := M.indexAddr h j B C Y E k r A
def M.gV{w0:World}{l:az}{J:Oper}{x:Operand}{t:TypeId}{c:Value}{cs:List Value}(h:cL H bL (c::cs))(A:J.op= .load t x)(B:∀w,(isAgg t).run P w= .ok false w)(C:aI l x=some (.pointer (some bL))):M P w0 n l H J c:=by
 intro ac w r k;have aj:=h.cells 0 c a_;have:({block:=bL.block,off:=bL.off+0,spot:=none}:Addr)=bL:=by have:=h.spot;obtain⟨b,off,s⟩:=bL;simp_all
 rw[this,<-k.cell]at aj;simp[execOp,A,r.eval C,Instr.loadAt,Instr.sureAddr,loadVar,B,load,Sem.run,aj]
def aY{w0:World}{l:az}{J:Oper}{x : Operand}{t : TypeId}{c : Value}{cs : List Value}(h : cL H bL (c::cs))(r : ∀w,(isAgg t).run P w= .ok false w)(k : J.op= .load t x := by exact rfl)(A : aI l x=some (.pointer (some bL)) := by exact rfl): M P w0 n l H J c := M.gV h k r A
def run_loadCellsFrom{P:Program}{w:World}{ad:Addr}(Y:ad.spot=none):∀(k i:Nat) (cs:List Value) (acc:Array Value),cs.length=k->(∀j c,cs[j]?=some c->w.cell? ⟨ad.block,ad.off+(i+j),none⟩=some c)->
 (loadCellsFrom ad i k acc).run P w= .ok (acc++cs.toArray) w
 |0,i,cs,acc,n,_=>by
  have:cs=[]:=lT n;subst this;simp[loadCellsFrom]
 |k+1,i,cs,acc,n,h=>by
  match cs,n with
  |c::cs,n=>
   have r:=h 0 c a_;have:=run_loadCellsFrom (P:=P) (w:=w) Y k (i+1) cs (acc.push c) (by simpa using n) (fun j A e=>by have:=h (j+1) A (by simpa using e);rwa[show i+(j+1)=i+1+j by omega]at this);simp only[n6]at r;simp[loadCellsFrom,load,Sem.run,add_eq Y,r,this]
def M.qD{w0:World}{l:az}{J:Oper}{x:Operand}{t:TypeId}{cs:List Value}(h:cL H bL cs)(C:J.op= .load t x)(E:∀w,(isAgg t).run P w= .ok true w)(Y:∀w,(sizeOf t).run P w= .ok k w)(B:cs.length=k)(F:aI l x=some (.pointer (some bL))):M P w0 n l H J (.agg cs.toArray):=by
 intro ac w A r;have:=run_loadCellsFrom (P:=P) (w:=w) h.spot k 0 cs #[] B (fun j c e=>by rw[r.cell];simpa using h.cells j c e);simp[execOp,C,A.eval F,Instr.loadAt,Instr.sureAddr,loadVar,E,Y,loadCells,this]
def bu{w0:World}{l:az}{J:Oper}{x : Operand}{t : TypeId}{cs : List Value}(h : cL H bL cs)(B : ∀w,(isAgg t).run P w= .ok true w)(Y : ∀w,(sizeOf t).run P w= .ok k w)(r : cs.length=k)(A : J.op= .load t x := by exact rfl)(C : aI l x=some (.pointer (some bL)) := by exact rfl): M P w0 n l H J (.agg cs.toArray) := M.qD h A B Y r C
def M.fieldAddr{w0:World}{l:az}{J:Oper}{x:Operand}{s:TypeId}{cs:List Value}{fd:Field}(h:cL H bL cs)(B:J.op= .fieldAddr s x k)(hu:∀w,(underlying s).run P w= .ok (.struct ju) w)(A:ju[k]?=some fd)(C:fd.offset=vq7z)(E:∀w,(sizeOf fd.type).run P w= .ok vq28z w)(K:vq28z≠0)(F:aI l x=some (.pointer (some bL))):M P w0 n l H J (.pointer (some (bL.add vq7z))):=by
 intro ac w r N;have L:=h;simp[execOp,B,r.eval F,Instr.fieldAt,Instr.sureAddr,fieldPlace,hu,A,C,E,K]
def M.slice{w0:World}{l:az}{J:Oper}{f:aP->List Value}{v:Value}{x:Operand}{B A:Option Operand}{t e:TypeId}(h:Rd F H f vq7z v bW)(i j:Nat)(V:J.op= .slice t x B A none)(W:∀w,(underlying t).run P w= .ok (.slice e) w)(Y:∀w,(sizeOf e).run P w= .ok vq7z w)(X:aI l x=some v)(T:B=none/\i=0\/∃p k fa,B=some p/\aI l p=some (.int k fa)/\fa=(i:Int))(R:A=none/\j=bW.length\/∃p k fa,A=some p/\aI l p=some (.int k fa)/\fa=(j:Int))(ag:i<=j)(S:j<=bW.length):
 ∃K,(∀aa,M P w0 n l aa J K)/\Rd F H f vq7z K ((bW.take j).drop i):=by
 obtain⟨a,cap,rfl,Q,Z,C⟩:=h.ex;refine⟨.slice (if cap=i then a else a.map (·.add (i*vq7z))) (j-i) (cap-i),?_,?_⟩;intro aa ac w E ae;have bc:∀w,(Instr.sliceBounds true bW.length cap (B.map ac.eval) (A.map ac.eval) none).run P w= .ok (i,j,cap) w:=by
  intro w;have bM:j<=cap:=by omega
  rcases T with⟨rfl,rfl⟩|⟨p,k,fa,rfl,Q,rfl⟩<;>rcases R with⟨rfl,rfl⟩|⟨al,ak,ai,rfl,C,rfl⟩<;>
   simp[Instr.sliceBounds,Instr.sliceBound,asIntOf,E.eval, *]
 have hu:∀w,(underlying t).run P w= .ok (.slice e) w:=W;simp[execOp,V,E.eval X,Instr.sliceAt,Instr.slice,hu,Y,bc];have hlen:((bW.take j).drop i).length=j-i:=by simp;omega
 refine⟨_,_,by rw[hlen],by rw[hlen];omega,by omega,fun U=>?_⟩;have ah:i<j:=by
  apply hB;intro aj;exact U<|lT (by rw[hlen];omega)
 obtain⟨ad,rfl,r,L,N,O⟩:=C (by intro e;subst e;simp at S;omega);rw[au I];refine⟨ad.add (i*vq7z),o,by rw[add_eq r],by rw[add_eq r];exact L,by rw[add_eq r];exact N,fun q y hy=>?_⟩;rw[add_eq r];rw[List.getElem?_drop,List.getElem?_take]at hy;split at hy;have:=O (i+q) y hy;simpa[iw,sm]using this;cases hy
def iG{w0:World}{l:az}{J:Oper}{f:aP->List Value}{v:Value}{x : Operand}{A r : Option Operand}{t e : TypeId}(h : Rd F H f vq7z v bW)(i : Nat)(j : Nat)(O : ∀w,(underlying t).run P w= .ok (.slice e) w)(Y : ∀w,(sizeOf e).run P w= .ok vq7z w)(L : A=none/\i=0\/∃p k fa,A=some p/\aI l p=some (.int k fa)/\fa=(i:Int))(C : r=none/\j=bW.length\/∃p k fa,r=some p/\aI l p=some (.int k fa)/\fa=(j:Int))(N : J.op= .slice t x A r none := by exact rfl)(Q : aI l x=some v := by exact rfl)(E : i<=j := by omega)(K : j<=bW.length := by omega): ∃B,(∀aa,M P w0 n l aa J B)/\Rd F H f vq7z B ((bW.take j).drop i) := M.slice h i j N O Y Q L C E K
def nq(P:Program)(md:Region.Mode)(ops:Array Oper)(k:Exit->Act->World->Prop)(S:World->Prop)(n:List Nat):Nat->Array Bool->Act->World->Prop
 |0,listed,a,w=>Region.ready md ops listed=[]/\k .normal a w
 |fuel+1,listed,a,w=>
  (Region.ready md ops listed=[]->k .normal a w)/\
  ∀i∈Region.ready md ops listed,wpOp P ops k i (fun A r=>(n.contains i=true\/S r)/\nq P md ops k S n fuel (listed.setIfInBounds i true) A r) a w
def K2{md:Region.Mode}{S:World->Prop}{X:List Nat}:∀(fuel:Nat) (listed:Array Bool) (a:Act) (w:World),nq P md aE aZ S X fuel listed a w->wpAny P md aE aZ fuel listed a w
 |0,_,_,_,h=>h
 |fuel+1,_,_,_,h=>⟨h.1,fun i r=>wpOp_mono (fun k A n=>K2 fuel _ k A n.2) (h.2 i r)⟩
def U0{md:Region.Mode}{S:World->Prop}{i:Nat}{B:Oper}{v:Value}(M:aE[i]?=some B)(V:∀(j:Nat) (J:Oper) cs b,aE[j]?=some J->J.op≠ .select cs b)(ae:∀c a w,aZ (.panic c) (a.put B.dst v) w->aZ (.panic c) a w)(ag:∀j,vq33z.contains j=true->j=i\/Region.waitsFor md aE j i=true):
 ∀(fuel:Nat) (listed:Array Bool) (a:Act) (w:World),
  (∀j r,aE[j]?=some r->j≠i->listed.getD j true=false->(∀e∈r.after,Region.binds md e=true->e.on≠i)->B.apart aE r=true)->
  i∈Region.ready md aE listed->YieldsIf P aE S B v a->S w->
  nq P md aE aZ S vq33z fuel (listed.setIfInBounds i true) (a.put B.dst v) w->nq P md aE aZ S vq33z (fuel+1) listed a w:=by
 intro fuel;induction fuel with
 |zero=>
  intro listed a w _ af hy C H;refine⟨fun h=>(by rw[h]at af;cases af),fun j E=>?_⟩;by_cases n:j=i;subst n;exact hy.wpOp M C ⟨.inr C,H⟩;have:=ready_mono E n;rw[H.1]at this;cases this
 |succ fuel ih=>
  intro listed a w Q af hy C H;refine⟨fun h=>(by rw[h]at af;cases af),fun j E=>?_⟩;by_cases n:j=i;subst n;exact hy.wpOp M C ⟨.inr C,H⟩;have A:=H.2 j (ready_mono E n);obtain⟨T,r,F,ah⟩:=mem_ready.1 E;have U:∀e∈r.after,Region.binds md e=true->e.on≠i:=fun e he hb heq=>by
   have A:=ah e he hb;have N:=(mem_ready.1 af).1;rw[heq]at A;rcases sn i listed.size with K|K;simp[K]at N A;rw[N]at A;cases A;simp[Array.getElem?_eq_none K]at A
  have ak:¬vq33z.contains j=true:=fun aj=>by
   rcases ag j aj with h|h;exact n h;obtain⟨ay,aw,e,he,hb,ax⟩:=Region.waitsFor_spec h;have:ay=r:=mG (aw.symm.trans F);subst this;exact U e he hb ax
  have aa:=wpOp_putIf F (Q j r F n T U) (fun cs b=>V i B cs b M) (fun cs b=>V j r cs b F) ae hy A
  have ai:∀k ok,aE[k]?=some ok->k≠i->(listed.setIfInBounds j true).getD k true=false->
   (∀e∈ok.after,Region.binds md e=true->e.on≠i)->B.apart aE ok=true:=fun k ok al aq W av=>by
   refine Q k ok al aq ?_ av;by_cases R:j=k;subst R;exact T;rw[getD_set_ne true R]at W;exact W
  refine wpOp_mono (fun Z X L=>?_) aa;have O:S X:=L.2.1.resolve_left ak;refine⟨.inr O,ih (listed.setIfInBounds j true) Z X ai (ready_mono af (ku n)) L.1 O ?_⟩;rw[Array.setIfInBounds_comm _ _ n];exact L.2.2
def DS{md:Region.Mode}{S:World->Prop}{i:Nat}{k:Oper}{v:Value}{listed:Array Bool}{a:Act}{w:World}(C:vq33z.all (fun j=>Nat.beq j i||Region.waitsFor md aE j i)=true)(r:aE[i]?=some k)(Y:Region.noSelect aE=true)(E:Region.free md aE listed i=true)(af:(Region.ready md aE listed).contains i=true)(A:∀c a w,aZ (.panic c) (a.put k.dst v) w->aZ (.panic c) a w)(hy:YieldsIf P aE S k v a)(B:S w)(h:nq P md aE aZ S vq33z n (listed.setIfInBounds i true) (a.put k.dst v) w):nq P md aE aZ S vq33z (n+1) listed a w:=
 U0 r (Region.noSelect_spec Y) A (fun j F=>by
  have:=sq.1 C j (by simpa using F);rw[vx]at this;exact this.imp nA id) n listed a w (Region.free_spec r E) (by simpa using af) hy B h
def K0{md:Region.Mode}{S:World->Prop}{listed:Array Bool}{a:Act}{w:World}(af:Region.ready md aE listed=bQ)(B:bQ≠[])(h:∀i∈bQ,wpOp P aE aZ i (fun r k=>(vq33z.contains i=true\/S k)/\nq P md aE aZ S vq33z n (listed.setIfInBounds i true) r k) a w):nq P md aE aZ S vq33z (n+1) listed a w:=
 ⟨fun A=>absurd (af▸A) B,af▸h⟩
def UZ{md:Region.Mode}{Q:Exit->Act->World->Prop}{S:World->Prop}{listed:Array Bool}{a:Act}{w:World}(af:Region.ready md aE listed=[])(h:Q .normal a w):∀fuel,nq P md aE Q S vq33z fuel listed a w
 |0=>⟨af,h⟩
 |_+1=>⟨fun _=>h,by rw[af];simp⟩
def h0(n:Nat)(dn:List Nat):Array Bool:=dn.foldr (fun i a=>a.setIfInBounds i true) (Array.replicate n false)
def N(P:Program)(w0:World)(ops:Array Oper)(r:Exit->Act->World->Prop)(A:Heap->Prop)(B:List Nat)(n k:Nat)(dn:List Nat)(l:az)(H:Heap):Prop:=
 ∀a w,Fr n l a->At w0 H w->nq P .any ops (NoPanic r) (fun C=>∃aa,At w0 aa C/\A aa) B k (h0 ops.size dn) a w
def fN(P:Program)(w0:World)(ops:Array Oper)(A:Exit->Act->World->Prop)(B:Heap->Prop)(C:List Nat)(n k i:Nat)(dn:List Nat)(l:az)(H:Heap):Prop:=
 ∀a w,Fr n l a->At w0 H w->wpOp P ops (NoPanic A) i (fun E r=>(C.contains i=true\/∃aa,At w0 aa r/\B aa)/\nq P .any ops (NoPanic A) (fun r=>∃aa,At w0 aa r/\B aa) C k (h0 ops.size (i::dn)) E r) a w
def b6.Su{w0:World}{l:az}(A:Heap->Prop)(r:List Nat)(hm:P.follows .mixedOrders=true)(h:N P w0 bY.toArray aZ A r n bY.length [] l H):b6 P w0 aZ n l (.region k bY.toArray true) H:=by
 intro a w C B;refine wp_region_noPanic<|wp_region_any hm<|K2 (S:=fun E=>∃aa,At w0 aa E/\A aa) (X:=r) _ _ _ _ ?_;have:=h a _ C B.drew;simpa[h0]using this
def N.take{w0:World}{l:az}{J:Oper}{v:Value}{d:Nat}(i:Nat)(F:bQ.all (fun j=>Nat.beq j i||Region.waitsFor .any aE j i)=true)(O:aE[i]?=some J)(Y:Region.noSelect aE=true)(L:Region.free .any aE (h0 aE.size vq33z) i=true)(af:(Region.ready .any aE (h0 aE.size vq33z)).contains i=true)(hy:∀aa,c3 aa->M P w0 n l aa J v)(hw:eB aE l J)(ab:J.dst=some d)(ar:Nat.blt d n=true)(C:c3 H)(h:N P w0 aE aZ c3 bQ n k (i::vq33z) ((d,v)::l) H):N P w0 aE aZ c3 bQ n (k+1) vq33z l H:=by
 intro a w r A;have B:=r.put ar v;rw[<-ab]at B;exact DS F O Y L af (fun _ _ _ h=>h) (.inl ⟨hw n a r,fun Q ⟨aa,K,E⟩=>hy aa E a Q r K⟩) ⟨H,A,C⟩<|h _ w B A
def N.e{w0:World}{l:az}{J:Oper}{g:aP->Value}{φ:aP->Prop}{d:Nat}(i:Nat)(C:bQ.all (fun j=>Nat.beq j i||Region.waitsFor .any aE j i)=true)(F:aE[i]?=some J)(Y:Region.noSelect aE=true)(E:Region.free .any aE (h0 aE.size vq33z) i=true)(af:(Region.ready .any aE (h0 aE.size vq33z)).contains i=true)(hy:∃x,(∀aa,M P w0 n l aa J (g x))/\φ x)(hw:eB aE l J)(ab:J.dst=some d)(ar:Nat.blt d n=true)(B:c3 H)(h:∀x,φ x->N P w0 aE aZ c3 bQ n k (i::vq33z) ((d,g x)::l) H):N P w0 aE aZ c3 bQ n (k+1) vq33z l H:=
 let⟨x,r,A⟩:=hy
 N.take i C F Y E af (fun aa _=>r aa) hw ab ar B (h x A)
def N.gs{w0:World}{l:az}{J:Oper}{d j e:Nat}{b c:Bool}(i:Nat)(E:bQ.all (fun j=>Nat.beq j i||Region.waitsFor .any aE j i)=true)(L:aE[i]?=some J)(Y:Region.noSelect aE=true)(F:Region.free .any aE (h0 aE.size vq33z) i=true)(af:(Region.ready .any aE (h0 aE.size vq33z)).contains i=true)(K:J.guard=some (j,b))(M:(aE[j]?).bind (·.dst)=some e)(aj:dh l e=some (.bool c))(O:(c==b)=false)(ab:J.dst=some d)(ar:Nat.blt d n=true)(C:c3 H)(h:N P w0 aE aZ c3 bQ n k (i::vq33z) ((d,undef)::l) H):N P w0 aE aZ c3 bQ n (k+1) vq33z l H:=by
 intro a w A r;have hw:Region.wanted J (yielded aE a.tmps)=false:=by
  have Q:c≠b:=by intro e;subst e;simp at O
  simp[Region.wanted,K,DV A M aj,Q]
 have B:=A.put ar undef;rw[<-ab]at B;exact DS E L Y F af (fun _ _ _ h=>h) (.inr ⟨hw,o⟩) ⟨H,r,C⟩<|h _ w B r
def N.Bb{w0:World}{l:az}{J:Oper}{d j e:Nat}{b:Bool}(i:Nat)(L:bQ.all (fun j=>Nat.beq j i||Region.waitsFor .any aE j i)=true)(Q:aE[i]?=some J)(Y:Region.noSelect aE=true)(M:Region.free .any aE (h0 aE.size vq33z) i=true)(af:(Region.ready .any aE (h0 aE.size vq33z)).contains i=true)(O:J.guard=some (j,b))(R:(aE[j]?).bind (·.dst)=some e)(aj:dh l e=some undef)(ab:J.dst=some d)(ar:Nat.blt d n=true)(K:c3 H)(h:N P w0 aE aZ c3 bQ n k (i::vq33z) ((d,undef)::l) H):N P w0 aE aZ c3 bQ n (k+1) vq33z l H:=by
 intro a w A r;have hw:Region.wanted J (yielded aE a.tmps)=false:=by
  have C:=A.get e _ aj;have E:(aE[j]?).bind (fun J=>J.dst)=some e:=R;have F:yielded aE a.tmps j=none:=by
   unfold yielded;rw[E];simp[C,undef]
  simp[Region.wanted,O,F]
 have B:=A.put ar undef;rw[<-ab]at B;exact DS L Q Y M af (fun _ _ _ h=>h) (.inr ⟨hw,o⟩) ⟨H,r,K⟩<|h _ w B r
def N.mQ{w0:World}{l:az}{d:Nat}{p:Prop}[Decidable p](aj:dh l d=some (.bool (decide p)))(C:p->N P w0 aE aZ c3 bQ n k vq33z ((d,.bool true)::l) H)(he:¬p->N P w0 aE aZ c3 bQ n k vq33z ((d,.bool false)::l) H):N P w0 aE aZ c3 bQ n k vq33z l H:=by
 intro a w B A;by_cases r:p;rw[fB r]at aj;exact C r a w (B.same aj) A;rw[fG r]at aj;exact he r a w (B.same aj) A
def N.split{w0:World}{l:az}{d:Nat}{b:Bool}(aj:dh l d=some (.bool b))(B:b=true->N P w0 aE aZ c3 bQ n k vq33z ((d,.bool true)::l) H)(he:b=false->N P w0 aE aZ c3 bQ n k vq33z ((d,.bool false)::l) H):N P w0 aE aZ c3 bQ n k vq33z l H:=by
 intro a w A r;cases b;exact he o a w (A.same aj) r;exact B o a w (A.same aj) r
def K1{md:Region.Mode}{k:Exit->Act->World->Prop}{S n:World->Prop}(A:∀w,n w->S w):∀(fuel:Nat) (listed:Array Bool) (a:Act) (w:World),nq P md aE k n vq33z fuel listed a w->nq P md aE k S vq33z fuel listed a w
 |0,_,_,_,h=>h
 |fuel+1,_,_,_,h=>⟨h.1,fun i E=>wpOp_mono (fun C B r=>⟨r.1.imp id (A B),K1 A fuel _ C B r.2⟩) (h.2 i E)⟩
def N.narrow{w0:World}{l:az}{SH2:Heap->Prop}(B:∀aa,SH2 aa->c3 aa)(h:N P w0 aE aZ SH2 bQ n k vq33z l H):N P w0 aE aZ c3 bQ n k vq33z l H:=
 fun a w E C=>K1 (fun _ ⟨aa,r,A⟩=>⟨aa,r,B aa A⟩) _ _ _ _ (h a w E C)
def N.done{w0:World}{l:az}(af:Region.ready .any aE (h0 aE.size vq33z)=[])(h:jy w0 aZ n l H):N P w0 aE aZ c3 bQ n k vq33z l H:=
 fun a w A r=>UZ (Q:=NoPanic aZ) af (NoPanic.normal (h a w A r)) _
def N.one{w0:World}{l:az}{i:Nat}(af:Region.ready .any aE (h0 aE.size vq33z)=[i])(h:fN P w0 aE aZ c3 bQ n k i vq33z l H):N P w0 aE aZ c3 bQ n (k+1) vq33z l H:=
 fun a w B A=>K0 af a_ (fun j r=>by
  simp only[fm]at r;subst r;exact h a w B A)
def N.two{w0:World}{l:az}{i j:Nat}(af:Region.ready .any aE (h0 aE.size vq33z)=[i,j])(h:fN P w0 aE aZ c3 bQ n k i vq33z l H)(C:fN P w0 aE aZ c3 bQ n k j vq33z l H):N P w0 aE aZ c3 bQ n (k+1) vq33z l H:=
 fun a w A r=>K0 af a_ (fun q B=>by
  simp only[dI,kN,or_false]at B;rcases B with rfl|rfl;exact h a w A r;exact C a w A r)
def fN.z{w0:World}{i:Nat}{l:az}{J:Oper}{d:Nat}(L:aE[i]?=some J)(M:Z P w0 n l H J R)(hw:eB aE l J)(ab:J.dst=some d)(ar:Nat.blt d n=true)(h:∀v aa,R v aa->(bQ.contains i=true\/c3 aa)/\N P w0 aE aZ c3 bQ n k (i::vq33z) ((d,v)::l) aa):fN P w0 aE aZ c3 bQ n k i vq33z l H:=by
 intro a w A K;obtain⟨v,aa,O,af,B,F⟩:=M a w A K;obtain⟨r,E⟩:=h v aa F;have C:=A.put ar v;rw[<-ab]at C;unfold wpOp;simp only[L];rw[aD (hw n a A)];refine .inl ?_;unfold Oper.wp;rw[af];exact⟨r.imp id (fun r=>⟨aa,B,r⟩),E _ O C B⟩
def eP{w0:World}{i:Nat}{l:az}{J:Oper}{d : Nat}(r : aE[i]?=some J)(A : Z P w0 n l H J R)(h : ∀v aa,R v aa->(bQ.contains i=true\/c3 aa)/\N P w0 aE aZ c3 bQ n k (i::vq33z) ((d,v)::l) aa)(hw : eB aE l J := by exact eB.u o)(ab : J.dst=some d := by exact rfl)(ar : Nat.blt d n=true := by exact rfl): fN P w0 aE aZ c3 bQ n k i vq33z l H := fN.z r A hw ab ar h
def fN.v{w0:World}{i:Nat}{l:az}{J:Oper}{v:Value}{d:Nat}(E:aE[i]?=some J)(hy:M P w0 n l H J v)(hw:eB aE l J)(ab:J.dst=some d)(ar:Nat.blt d n=true)(B:bQ.contains i=true\/c3 H)(h:N P w0 aE aZ c3 bQ n k (i::vq33z) ((d,v)::l) H):fN P w0 aE aZ c3 bQ n k i vq33z l H:=
 fN.z (R:=fun u aa=>u=v/\aa=H) E (fun a w C r=>⟨v,H,w,hy a w C r,r,o,o⟩) hw ab ar (fun u aa ⟨bc,A⟩=>by subst bc;subst A;exact⟨B,h⟩)
def hH{w0:World}{i:Nat}{l:az}{J:Oper}{v : Value}{d : Nat}(A : aE[i]?=some J)(hy : M P w0 n l H J v)(r : bQ.contains i=true\/c3 H)(h : N P w0 aE aZ c3 bQ n k (i::vq33z) ((d,v)::l) H)(hw : eB aE l J := by exact eB.u o)(ab : J.dst=some d := by exact rfl)(ar : Nat.blt d n=true := by exact rfl): fN P w0 aE aZ c3 bQ n k i vq33z l H := fN.v A hy hw ab ar r h
def fN.s{w0:World}{i:Nat}{l:az}{J:Oper}{R:Heap->Prop}(M:aE[i]?=some J)(O:S P w0 n l H J R)(hw:eB aE l J)(ab:J.dst=none)(h:∀aa,R aa->(bQ.contains i=true\/c3 aa)/\N P w0 aE aZ c3 bQ n k (i::vq33z) l aa):fN P w0 aE aZ c3 bQ n k i vq33z l H:=by
 intro a w B L;obtain⟨aa,r,af,C,K⟩:=O a w B L;obtain⟨A,F⟩:=h aa K;unfold wpOp;simp only[M];rw[aD (hw n a B)];refine .inl ?_;unfold Oper.wp;rw[af];show(fun E r=>(bQ.contains i=true\/∃aa,At w0 aa r/\c3 aa)/\nq P .any aE (NoPanic aZ) (fun r=>∃aa,At w0 aa r/\c3 aa) bQ k (h0 aE.size (i::vq33z)) E r) (a.put J.dst undef) r;rw[ab];exact⟨A.imp id (fun A=>⟨aa,C,A⟩),F a r B C⟩
def hX{w0:World}{i:Nat}{l:az}{J:Oper}{R : Heap->Prop}(r : aE[i]?=some J)(A : S P w0 n l H J R)(h : ∀aa,R aa->(bQ.contains i=true\/c3 aa)/\N P w0 aE aZ c3 bQ n k (i::vq33z) l aa)(hw : eB aE l J := by exact eB.u o)(ab : J.dst=none := by exact rfl): fN P w0 aE aZ c3 bQ n k i vq33z l H := fN.s r A hw ab h
def fN.call{w0:World}{i:Nat}{l:az}{J:Oper}{f d:Nat}(O:aE[i]?=some J)(Q:J.op= .call {callee:= .value (.func f),args:=jt.toArray,argTypes:=nM})(M:∀(hv:Array Value) (w:World),(callFunc f hv).run P w= .ok (.enter f hv) w)(S:jb l jt=some hv)(hw:eB aE l J)(ab:J.dst=some d)(ar:Nat.blt d n=true)(aj:a8 P w0 f hv.toArray H R)(h:∀v aa,R v aa->(bQ.contains i=true\/c3 aa)/\N P w0 aE aZ c3 bQ n k (i::vq33z) ((d,v)::l) aa):fN P w0 aE aZ c3 bQ n k i vq33z l H:=by
 intro a w B L;have af:=JG (P:=P) (ρ:=a.eval) (w:=w) Q o M;rw[tF,B.oM S]at af;unfold wpOp;simp only[O];rw[aD (hw n a B)];refine .inl ?_;unfold Oper.wp;rw[af];show Calls P f hv.toArray w _;refine(aj w L).mono ?_;rintro e T ⟨r,aa,rfl,C,K⟩;obtain⟨A,F⟩:=h r aa K;have E:=B.put ar r;rw[<-ab]at E;exact⟨A.imp id (fun A=>⟨aa,C,A⟩),F _ T E C⟩
def cK{w0:World}{i:Nat}{l:az}{J:Oper}{f d : Nat}(r : ∀(hv:Array Value) (w:World),(callFunc f hv).run P w= .ok (.enter f hv) w)(aj : a8 P w0 f hv.toArray H R)(h : ∀v aa,R v aa->(bQ.contains i=true\/c3 aa)/\N P w0 aE aZ c3 bQ n k (i::vq33z) ((d,v)::l) aa)(A : aE[i]?=some J := by exact rfl)(B : J.op= .call {callee:= .value (.func f),args:=jt.toArray,argTypes:=nM} := by exact rfl)(C : jb l jt=some hv := by exact rfl)(hw : eB aE l J := by exact eB.u o)(ab : J.dst=some d := by exact rfl)(ar : Nat.blt d n=true := by exact rfl): fN P w0 aE aZ c3 bQ n k i vq33z l H := fN.call A B r C hw ab ar aj h
abbrev b_(H:Heap)(f:aP->List Value)(sz:Nat)(v:Value)(l:List aP):Prop:=Rd (fun _=>True) H f sz v l
def Rd.any{f:aP->List Value}{v:Value}{l:List aP}(h:Rd F H f n v l):b_ H f n v l:=h.imp (fun _ _ _=>trivial)
def Rd.lt{f:aP->List Value}{v:Value}{l:List aP}(h:Rd F H f n v l):Rd (fun b=>b<H.size) H f n v l:=h.imp (fun _ hb _=>hb)
def r3(fz:Nat×Nat)(n:Nat):Prop:=fz.1<=fz.2/\∀i,i<n->¬(fz.1<=i/\i<fz.2)
def r3.zero(n:Nat):r3 (0,0) n:=⟨dF _,fun _ _ h=>absurd h.2 (nB _)⟩
def Row(H:Heap)(g:Nat)(cur:Array Value)(e:TypeId):Prop:=∃fz,H[g]?=some (.cells cur e fz)/\r3 fz cur.size
def Row.lt{g:Nat}{e:TypeId}(h:Row H g vq14z e):g<H.size:=let⟨_,h,_⟩:=h;(Array.getElem?_eq_some_iff.1 h).1
def Row.up{g:Nat}{e:TypeId}(h:Row H g vq14z e)(Y:V[g]?=H[g]?):Row V g vq14z e:=let⟨fz,k,n⟩:=h;⟨fz,by rw[Y];exact k,n⟩
def Row.cell{g:Nat}{e:TypeId}(h:Row H g vq14z e)(i:Nat):E.cell H ⟨g,i,none⟩=vq14z[i]?:=by
 obtain⟨fz,k,_⟩:=h;simp[E.cell,k]
def Row.of{g:Nat}{e:TypeId}(h:H[g]?=some (.cells vq14z e (0,0))):Row H g vq14z e:=⟨_,h,r3.zero _⟩
structure Own {α:Type} (aX:Nat->Prop) (e:TypeId) (H:Heap) (f:α->List Value) (sz:Nat) (v:Value) (l:List α):Prop where
 cells:∀x,(f x).length=sz
 one:∀x,∀u∈f x,u.oneCell'=true
 ex:(v= .slice none 0 0/\l=[])\/∃g cap cur,v= .slice (some ⟨g,0,none⟩) l.length cap/\aX g/\Row H g cur e/\l.length<=cap/\cap<=maxLen/\cur.size=cap*sz/\cur.toList.take (l.length*sz)=l.flatMap f
abbrev ha(s:List UInt8):List Value:=[aJ s]
abbrev nv(x:Int):List Value:=[.int .i64 x]
abbrev a7(b:UInt8):List Value:=[.int .u8 b.toNat]
structure ay where
 a:Option Addr
 len:Nat
 cap:Nat
abbrev ay.v(s:ay):Value:= .slice s.a s.len s.cap
def ts(s:List UInt8):(ha s).length=1:=rfl
def tt(s:List UInt8):∀u∈ha s,u.oneCell'=true:=by intro u hu;simp only[fm]at hu;subst hu;rfl
def nW(s:Int):(nv s).length=1:=rfl
def nX(s:Int):∀u∈nv s,u.oneCell'=true:=by intro u hu;simp only[fm]at hu;subst hu;rfl
def eM(s:UInt8):(a7 s).length=1:=rfl
def fy(s:UInt8):∀u∈a7 s,u.oneCell'=true:=by intro u hu;simp only[fm]at hu;subst hu;rfl
def jA:Value->Nat
 | .slice (some a) _ _=>a.block
 | .pointer (some a)=>a.block
 | .map (some r)=>r
 |_=>0
def length_flatMap{α:Type}{f:α->List Value}{sz:Nat}(k:∀x,(f x).length=sz):∀l:List α,(l.flatMap f).length=l.length*sz
 |[]=>by simp
 |x::l=>by simp[k x,length_flatMap k l,iw,vy]
def x1{α:Type}{f:α->List Value}{sz:Nat}(k:∀x,(f x).length=sz):∀(l:List α) (i j:Nat) (x:α) (c:Value),l[i]?=some x->(f x)[j]?=some c->(l.flatMap f)[i*sz+j]?=some c
 |[],_,_,_,_,h,_=>by simp at h
 |y::l,0,j,x,c,h,aj=>by
  simp only[List.getElem?_cons_zero,ld]at h;subst h;have n:=(List.getElem?_eq_some_iff.1 aj).1;simp only[mH,vz,kv];rw[List.getElem?_append_left n];exact aj
 |y::l,i+1,j,x,c,h,aj=>by
  simp only[List.getElem?_cons_succ]at h;simp only[mH];rw[List.getElem?_append_right (by rw[k y,iw];omega),k y];have:=x1 k l i j x c h aj;rwa[show(i+1)*sz+j-sz=i*sz+j by rw[iw];omega]
def Own.rd{e:TypeId}{f:aP->List Value}{v:Value}{l:List aP}(h:Own F e H f n v l):Rd F H f n v l:=by
 rcases h.ex with⟨rfl,rfl⟩|⟨g,cap,cur,rfl,B,bP,k,r,E,A⟩;exact Rd.nil _ _ _ _;refine⟨_,cap,o,k,r,fun _=>⟨_,o,o,B,bP.lt,fun i x C=>⟨o,fun j c aj=>?_⟩⟩⟩;have af:=x1 h.cells l i j x c C aj;rw[<-A,List.getElem?_take]at af;split at af;simp only[kv];rw[bP.cell];simpa using af;cases af
def ck:Value->ay
 | .slice a l c=>⟨a,l,c⟩
 |_=>⟨none,0,0⟩
def Rd.a6{f:aP->List Value}{v:Value}{l:List aP}(h:Rd F H f n v l):(ck v).v=v:=by
 obtain⟨a,cap,rfl,_⟩:=h.ex;rfl
def Rd.sJ{f:aP->List Value}{v:Value}{l:List aP}(h:Rd F H f n v l):v.oneCell'=true:=by
 obtain⟨a,cap,rfl,_⟩:=h.ex;rfl
def Own.a6{e:TypeId}{f:aP->List Value}{v:Value}{l:List aP}(h:Own F e H f n v l):(ck v).v=v:=h.rd.a6
def Own.nil{e:TypeId}{f:aP->List Value}(r:∀x,(f x).length=n)(k:∀x,∀u∈f x,u.oneCell'=true):Own F e H f n (.slice none 0 0) []:=⟨r,k,.inl ⟨o,o⟩⟩
def Own.up{e:TypeId}{f:aP->List Value}{v:Value}{l:List aP}(h:Own F e H f n v l)(s:W ki H V)(A:∀b,b<H.size->F b->¬ki b):Own F e V f n v l:=by
 refine⟨h.cells,h.one,?_⟩;rcases h.ex with h|⟨g,cap,cur,B,k,bP,r⟩;exact .inl h;exact .inr ⟨g,cap,cur,B,k,bP.up (s.same g bP.lt<|A _ bP.lt k),r⟩
def Own.imp{e:TypeId}{f:aP->List Value}{v:Value}{l:List aP}(h:Own F e H f n v l)(k:∀b,b<H.size->F b->ki b):Own ki e H f n v l:=by
 refine⟨h.cells,h.one,?_⟩;rcases h.ex with h|⟨g,cap,cur,B,A,bP,r⟩;exact .inl h;exact .inr ⟨g,cap,cur,B,k _ bP.lt A,bP,r⟩
def Own.len{e:TypeId}{f:aP->List Value}{v:Value}{l:List aP}(h:Own F e H f n v l):l.length<=9223372036854775807:=h.rd.len
def Own.at{e:TypeId}{f:aP->List Value}{v:Value}{l:List aP}{j:Nat}(h:Own F e H f n v l)(A:j<l.length):F (jA v)/\jA v<H.size/\∃cap,v= .slice (some ⟨jA v,0,none⟩) l.length cap:=by
 rcases h.ex with⟨rfl,rfl⟩|⟨g,cap,cur,rfl,k,bP,r⟩;simp at A;exact⟨k,bP.lt,cap,o⟩
def Own.T{e:TypeId}{f:aP->List Value}{v:Value}{l:List aP}{j:Nat}(h:Own F e H f n v l)(r:j<l.length):cL H ⟨jA v,j*n,none⟩ (f l[j]):=by
 obtain⟨N,O,cap,k⟩:=h.at r;obtain⟨a,E,A,_,_,af⟩:=h.rd.ex;obtain⟨ad,rfl,K,L,M,B⟩:=af (by intro e;subst e;simp at r);have hb:jA v=ad.block:=by rw[A];rfl
 have:=B j l[j] (by simp[r]);rw[A]at k;simp only[Value.slice.injEq,ld]at k;have C:ad.off=0:=by rw[k.1]
 rw[C,kv,<-hb]at this;exact this
def JR{f:aP->List Value}{sz:Nat}(n:∀x,(f x).length=sz):∀(l:List aP) (j k:Nat) (x y:aP) (c:Value),l[j]?=some x->k<sz->f y=(f x).set k c->(l.set j y).flatMap f=(l.flatMap f).set (j*sz+k) c
 |[],_,_,_,_,_,h,_,_=>by simp at h
 |z::l,0,k,x,y,c,h,r,hy=>by
  simp only[List.getElem?_cons_zero,ld]at h;subst h;simp only[x9,mH,hy,vz,kv];rw[x_ _ _ (by rw[n z];exact r)]
 |z::l,j+1,k,x,y,c,h,r,hy=>by
  simp only[List.getElem?_cons_succ]at h;simp only[Bj,mH];rw[JR n l j k x y c h r hy,n8 _ _ (by rw[n z,iw];omega),n z];congr 2;rw[iw];omega
def n2(H:Heap)(b i:Nat)(c:Value):Heap:=H.modify b fun
 | .cells cs e fz=> .cells (cs.setIfInBounds i c) e fz
 |J=>J
def PJ{b i:Nat}{c:Value}:W (fun k=>k=b) H (n2 H b i c):=
 ⟨by simp[n2],fun k _ n=>by simp only[n2,Array.getElem?_modify];rw[au (fun e=>n e.symm)]⟩
def PI{b i:Nat}{c:Value}{cs:Array Value}{e:TypeId}{fz:Nat×Nat}(h:H[b]?=some (.cells cs e fz)):(n2 H b i c)[b]?=some (.cells (cs.setIfInBounds i c) e fz):=by
 simp only[n2,Array.getElem?_modify,if_true,h];rfl
def Row.set{b i:Nat}{c:Value}{cs:Array Value}{e:TypeId}(h:Row H b cs e):Row (n2 H b i c) b (cs.setIfInBounds i c) e:=
 let⟨fz,k,n⟩:=h;⟨fz,PI k,by simpa using n⟩
def Own.set{e:TypeId}{f:aP->List Value}{v:Value}{l:List aP}{j:Nat}{y:aP}{c:Value}(h:Own F e H f n v l)(r:j<l.length)(L:k<n)(hy:f y=(f l[j]).set k c):Own F e (n2 H (jA v) (j*n+k) c) f n v (l.set j y):=by
 refine⟨h.cells,h.one,?_⟩;rcases h.ex with⟨rfl,rfl⟩|⟨g,cap,cur,rfl,K,bP,A,B,C,E⟩;simp at r;refine .inr ⟨g,cap,_,by rw[rl],K,bP.set,by rw[rl];exact A,B,by simpa using C,?_⟩;have M:j*n+k<l.length*n:=by
  have:=mc n (show j+1<=l.length from r);rw[iw]at this;omega
 rw[JR h.cells l j k l[j] y c (by simp[r]) L hy,<-E,rl,Bk,List.take_set]
def QJ(n:bW.length=k):(bW.zip (List.range' 0 bW.length)).map (fun p=>(p.2,p.1))=(List.range k).zip bW:=by
 subst n;rw[List.range_eq_range'];generalize 0=s;induction bW generalizing s with
 |nil=>rfl
 |cons v bW ih=>simp[List.range'_succ,ih]
def At.alloc{w0:World}{w:World}(k:At w0 H w)(n:Obj):At w0 (H.push n) (w.alloc n):=⟨by simp[World.alloc,k.heap],k.os,k.tape,k.output,k.hK⟩
def Z.alloc{w0:World}{l:az}{J:Oper}{t:TypeId}{z:Value}(r:J.op= .alloc t)(A:∀w,(zeroValue t).run P w= .ok z w):Z P w0 n l H J (fun v aa=>v= .pointer (some ⟨H.size,0,none⟩)/\aa=H.push (.cells z.cells t)):=by
 intro a w B k;refine⟨_,_,_,?_,k.alloc (.cells z.cells t),o,o⟩;simp[execOp,r,Instr.alloc,A,newVar,newRow,k.heap]
def Z.box{w0:World}{l:az}{J:Oper}{t:TypeId}{x:Operand}{v:Value}(B:J.op= .box t x)(C:aI l x=some v):Z P w0 n l H J (fun r aa=>r= .pointer (some ⟨H.size,0,none⟩)/\aa=H.push (.cells v.cells t)):=by
 intro a w A k;refine⟨_,_,_,?_,k.alloc (.cells v.cells t),o,o⟩;simp[execOp,B,A.eval C,Instr.box,newVar,newRow,k.heap]
def run_store{w:World}{c u:Value}(h:w.cell? bL=some u)(n:w.frozen? bL=false)(k:c.oneCell'=true):(store bL c).run P w= .ok () (w.setCell bL c):=by
 cases c<;>first|·simp[Value.oneCell']at k|simp[store,Sem.run,h,n]
def S.cell{w0:World}{l:az}{J:Oper}{x y:Operand}{t:TypeId}{b i:Nat}{c:Value}{cs:Array Value}{e:TypeId}(L:J.op= .store t x y)(N:aI l x=some (.pointer (some ⟨b,i,none⟩)))(hy:aI l y=some c)(r:c.oneCell'=true)(Y:∀w,(sizeOf t).run P w= .ok 1 w)(F:Row H b cs e)(B:i<cs.size):S P w0 n l H J (fun aa=>aa=n2 H b i c):=by
 intro a w A k;obtain⟨⟨f1,f2⟩,hb,M⟩:=F;have aj:w.cell? ⟨b,i,none⟩=some cs[i]:=by rw[k.cell];simp[E.cell,hb,B]
 have O:w.frozen? ⟨b,i,none⟩=false:=by have:=M.2 i B;simp only at this;simp[World.frozen?,k.heap,hb];omega
 have K:c.cells= #[c]:=by cases c<;>first|·simp[Value.oneCell']at r|rfl
 refine⟨n2 H b i c,{w with heap:=n2 H b i c},?_,k.set,rfl⟩;have af:=run_store (P:=P) aj O r;have hw:w.setCell ⟨b,i,none⟩ c={w with heap:=n2 H b i c}:=by
  simp only[World.setCell,n2,k.heap];congr 1
 rw[hw]at af;have C:(⟨b,i,none⟩:Addr).add 0=⟨b,i,none⟩:=by simp[Addr.add]
 simp[execOp,L,A.eval N,A.eval hy,Instr.storeAt,Instr.sureAddr,storeVar,K,Y,storeCells,af,C]
def M.RI{w0:World}{l:az}{J:Oper}{e:TypeId}{f:aP->List Value}{v:Value}{x i:Operand}{t:TypeId}(h:Own F e H f vq7z v bW)(j:Nat)(K:J.op= .indexAddr t x i)(L:∀w,(underlying t).run P w= .ok (.slice e) w)(Y:∀w,(sizeOf e).run P w= .ok vq7z w)(N:aI l x=some v)(C:aI l i=some (.int cI vq24z))(E:vq24z=j)(r:j<bW.length):M P w0 n l H J (.pointer (some ⟨jA v,j*vq7z,none⟩)):=by
 obtain⟨O,Q,cap,B⟩:=h.at r;subst E;intro ac w k R;have A:=k.eval N;rw[B]at A;simp[execOp,K,A,k.eval C,Instr.indexAt,asIntOf,L,Y,r,add_eq]
def S.own{w0:World}{l:az}{J:Oper}{e:TypeId}{f:aP->List Value}{v:Value}{x y:Operand}{t:TypeId}{c:Value}(h:Own F e H f vq7z v bW)(j k:Nat)(z:aP)(N:J.op= .store t x y)(A:aI l x=some (.pointer (some ⟨jA v,j*vq7z+k,none⟩)))(hy:aI l y=some c)(B:c.oneCell'=true)(Y:∀w,(sizeOf t).run P w= .ok 1 w)(r:j<bW.length)(L:k<vq7z)(Q:f z=(f bW[j]).set k c):S P w0 n l H J (fun aa=>Own F e aa f vq7z v (bW.set j z)/\W (fun b=>b=jA v) H aa):=by
 intro a w K C;rcases h.ex with⟨rfl,rfl⟩|⟨g,cap,cur,O,T,bP,U,V,X,Z⟩;simp at r;have hb:jA v=g:=by rw[O];rfl
 have M:j*vq7z+k<cur.size:=by
  have:=mc vq7z (show j+1<=cap by omega);rw[iw]at this;omega
 obtain⟨aa,R,af,E,rfl⟩:=S.cell (P:=P) (w0:=w0) (n:=n) N (by rw[hb]at A;exact A) hy B Y bP M a w K C;refine⟨_,R,af,E,?_,by rw[hb];exact PJ⟩;rw[<-hb];exact h.set r L Q
def Own.new{e:TypeId}{f:aP->List Value}{G':Nat->Prop}{w:World}{z:Value}{cap:Nat}{zs:List aP}(aj:∀x,(f x).length=n)(k:∀x,∀u∈f x,u.oneCell'=true)(C:z.cells.size=n)(B:G' w.heap.size)(r:zs.length<=cap)(A:cap<=maxLen):
 Own G' e (w.alloc (.cells ((zs.flatMap f).toArray++Builtin.zeroCells z.cells (cap-zs.length)) e)).heap f n (.slice (some ⟨w.heap.size,0,none⟩) zs.length cap) zs:=by
 refine⟨aj,k,.inr ⟨w.heap.size,cap,_,o,B,.of (heap_alloc_new w _),r,A,?_,?_⟩⟩;simp only[Array.size_append,pK,size_zeroCells,C,length_flatMap aj,<-iw];congr 1;omega;simp only[Bl];rw[<-length_flatMap aj zs];exact sr
def Rd.qN{w0:World}{f:aP->List Value}{u:Value}{a:Addr}{m c:Nat}(h:Rd F H f n u bW)(aj:∀x,(f x).length=n)(hu:u= .slice (some a) m c){w:World}(M:At w0 H w):∀j d,(bW.flatMap f)[j]?=some d->w.cell? (a.add j)=some d:=by
 intro j d ab;obtain⟨ad,cap,r,U,V,R⟩:=h.ex;have k:=(List.getElem?_eq_some_iff.1 ab).1;rw[length_flatMap aj]at k;have O:bW≠[]:=by intro e;subst e;simp at k
 obtain⟨E,bc,K,S,T,L⟩:=R O
 have Q:0<n:=by rcases qu n with h|h;·subst h;simp at k
                exact h
 have hdiv:j/n<bW.length:=Nat.div_lt_of_lt_mul (by rw[ss];exact k);have P:=L (j/n) bW[j/n] (by simp[hdiv]);have hm:j%n<(f bW[j/n]).length:=by rw[aj];exact Nat.mod_lt _ Q
 have A:=P.cells (j%n) (f bW[j/n])[j%n] (by simp[hm]);have B:=x1 aj bW (j/n) (j%n) _ _ (show bW[j/n]?=some bW[j/n]by simp[hdiv]) (show(f bW[j/n])[j%n]?=some (f bW[j/n])[j%n]by simp[hm]);have C:j/n*n+j%n=j:=by rw[ss];exact Nat.div_add_mod j n
 rw[C,ab]at B;simp only[ld]at B;have N:a=E:=by rw[hu]at r;simp only[Value.slice.injEq]at r;rw[bc]at r;exact mG r.1
 rw[N,add_eq K,M.cell,B];simp only at A;rw[sm,C]at A;exact A
def hQ(P:Program)(t e:TypeId)(sz bytes:Nat):Prop:=P.underlying t=some (.slice e)/\∃i z,P.info? e=some i/\i.zero=some z/\i.size=sz/\i.bytes=bytes/\z.cells.size=sz
def sM(P:Program)(g J:Nat)(t:TypeId)(fz:Nat×Nat):∀(vs:List Value) (i:Nat) (cur:Array Value) (w:World),w.heap[g]?=some (.cells cur t fz)->r3 fz cur.size->J+i+vs.length<=cur.size->(∀v∈vs,v.oneCell'=true)->
 (storeCells ⟨g,J,none⟩ vs i).run P w= .ok () (w.setRow g (cur.toList.take (J+i)++vs++cur.toList.drop (J+i+vs.length)).toArray)
 |[],i,cur,w,k,_,_,_=>by
  simp only[storeCells,hD,ie,n6,hY,Array.toArray_toList];rw[setRow_self w g cur t fz k];rfl
 |v::rest,i,cur,w,k,A,n,r=>by
  have B:J+i<cur.size:=by simp at n;omega
  have C:w.cell? ⟨g,J+i,none⟩=some cur[J+i]:=by simp[World.cell?,k,B]
  have E:w.frozen? ⟨g,J+i,none⟩=false:=by
   obtain⟨L,K⟩:=fz;have:=A.2 (J+i) B;simp only at this;simp[World.frozen?,k];omega
  have F:(store ((⟨g,J,none⟩:Addr).add i) v).run P w= .ok () (w.setRow g (cur.setIfInBounds (J+i) v)):=by
   rw[add_eq o,run_store C E (r v a_),setCell_eq_setRow w g (J+i) cur t fz v k]
  have ih:=sM P g J t fz rest (i+1) (cur.setIfInBounds (J+i) v) (w.setRow g (cur.setIfInBounds (J+i) v)) (setRow_heap w g cur _ t _ k) (by simpa using A) (by simp at n⊢;omega) (fun x H=>r x (by simp[H]));simp only[storeCells,Sem.run_bind,F,Result.andThen_ok,ih,setRow_setRow];congr 3;have e:=list_seg_step cur.toList (J+i) v rest (by simp at n⊢;omega);simpa[Bk,sm]using e
def S_{w:World}{t:TypeId}(ty:TypeId){e:TypeId}(i:TypeInfo)(N:P.underlying t=some (.slice e))(H:P.info? e=some i){g:Nat}{fz:Nat×Nat}(F:w.heap[g]?=some (.cells vq14z e fz))(E:r3 fz vq14z.size){a:Addr}{m:Nat}(c:Nat)(K:args.length=m*i.size)(L:∀j u,args[j]?=some u->w.cell? (a.add j)=some u)(A:∀u∈args,u.oneCell'=true)(M:n+m<=k)(C:n*i.size+args.length<=vq14z.size):
 (Builtin.append_ #[t,t] ty #[.slice (some ⟨g,0,none⟩) n k,.slice (some a) m c]).run P w=
  .ok (.slice (some ⟨g,0,none⟩) (n+m) k) (w.setRow g (vq14z.toList.take (n*i.size)++args++vq14z.toList.drop (n*i.size+args.length)).toArray):=by
 have B:=run_firstCells_some (P:=P) w i.size m a m c args K L;have r:=sM P g (n*i.size) e fz args 0 vq14z w F E (by simpa using C) A;simp only[n6]at r;simp[Builtin.append_,run_underlying N,sizeOf,typeInfo,H,Builtin.lenOf,M,B,Addr.add_lit,r]
def Z.append{w0:World}{l:az}{J:Oper}{e:TypeId}{f:aP->List Value}{v:Value}{ys:List aP}{s x:Operand}{t:TypeId}{u:Value}{bytes:Nat}(h:Own ki e H f k v bW)(af:Rd F H f k u ys)(M:J.op= .call {callee:= .builtin .append,args:= #[s,x],argTypes:= #[t,t]})(aC:hQ P t e k bytes)(Y:aI l s=some v)(O:aI l x=some u)(hb:(bW.length+ys.length)*bytes<=140737488355328)(hm:bW.length+ys.length<=9223372036854775807):
 Z P w0 n l H J (fun r aa=>Own (fun b=>ki b\/H.size<=b) e aa f k r (bW++ys)/\W ki H aa):=by
 obtain⟨N,i,z,C,ah,aH,aw,aJ⟩:=aC;subst aH;subst aw;intro a w B A;obtain⟨ad,cap,rfl,aM,aN,aK⟩:=id af.ex;have R:(ys.flatMap f).length=ys.length*i.size:=length_flatMap h.cells ys;have av:∀c∈ys.flatMap f,c.oneCell'=true:=by
  intro c aj;obtain⟨y,hy,aj⟩:=vA.1 aj;exact h.one y c aj
 cases ad with
 |none=>
  have ae:ys=[]:=by
   apply hB;intro aG;obtain⟨ad,ar,_⟩:=aK aG;cases ar
  subst ae;refine⟨v,H,w,?_,A,by rw[hD];exact h.imp (fun b _ K=> .inl K),W.refl _ _⟩;rcases h.ex with⟨rfl,rfl⟩|⟨g,L,cur,rfl,K,bP,ai,ak,al,aq⟩;simp[execOp,M,resolve,invoke,builtin,B.eval Y,B.eval O,Builtin.append_,run_underlying N,sizeOf,typeInfo,C,Builtin.lenOf,Builtin.firstCells];simp[execOp,M,resolve,invoke,builtin,B.eval Y,B.eval O,Builtin.append_,run_underlying N,sizeOf,typeInfo,C,Builtin.lenOf,Builtin.firstCells,ai,storeCells]
 |some ad=>
  have U:=af.qN h.cells o A
  have grown:∀(E:Nat) (r:Value),E<bW.length+ys.length->r= .slice (some ⟨w.heap.size,0,none⟩) (bW.length+ys.length) (grownCap w (bW.length+ys.length) E e)->∀Q,Q=Obj.cells ((bW.flatMap f).toArray++(ys.flatMap f).toArray++Builtin.zeroCells z.cells (grownCap w (bW.length+ys.length) E e-(bW.length+ys.length))) e->
   At w0 (w.drew.alloc Q).heap (w.drew.alloc Q)/\Own (fun b=>ki b\/H.size<=b) e (w.drew.alloc Q).heap f i.size r (bW++ys)/\W ki H (w.drew.alloc Q).heap:=by
   rintro E r aL rfl Q rfl;have aA:=grownCap_ge w (bW.length+ys.length) E e;have ax:grownCap w (bW.length+ys.length) E e<=maxLen:=grownCap_le_maxLen w (bW.length+ys.length) E e (by unfold maxLen;omega);have T:At w0 H w.drew:=A.drew;refine⟨⟨o,A.os,A.tape,A.output,T.hK⟩,?_,?_⟩;have:=Own.new (e:=e) (G':=fun b=>ki b\/H.size<=b) (w:=w.drew) (z:=z) (cap:=grownCap w (bW.length+ys.length) E e) (zs:=bW++ys) h.cells h.one aJ (.inr (by rw[T.heap];exact dF _)) (by simpa using aA) ax;simpa using this;rw[(T.alloc _).heap];exact W.push _ _ _
  rcases h.ex with⟨rfl,rfl⟩|⟨g,L,cur,rfl,K,bP,ai,ak,al,aq⟩;by_cases aF:ys.length=0;have ae:ys=[]:=lT aF;subst ae;refine⟨.slice none 0 0,H,w,?_,A,by simpa using h.imp (fun b _ K=> .inl K),W.refl _ _⟩;simp[execOp,M,resolve,invoke,builtin,B.eval Y,B.eval O,Builtin.append_,run_underlying N,sizeOf,typeInfo,C,Builtin.lenOf,Builtin.firstCells,loadCells,loadCellsFrom];simp only[ie,kv]at hb hm;have S:=run_append_nil (P:=P) w t J.type e i z N C ah ad ys.length cap (ys.flatMap f) R U I I I;have:=grown 0 _ bU o _ o;simp only[ie,kv,ya,gw,Array.empty_append]at this;exact⟨_,_,_,by simp[execOp,M,resolve,invoke,builtin,B.eval Y,B.eval O,S],this.1,this.2.1,this.2.2⟩;obtain⟨fz,aB,X⟩:=id bP;have ag:w.heap[g]?=some (.cells cur e fz):=by rw[A.heap];exact aB
  by_cases V:bW.length+ys.length<=L;have ay:bW.length*i.size+(ys.flatMap f).length<=cur.size:=by rw[R,al,<-iw];exact mc _ V
  have S:=S_ (P:=P) (w:=w) J.type i N C ag X cap R U av V ay;refine⟨.slice (some ⟨g,0,none⟩) (bW.length+ys.length) L,(w.setRow g (cur.toList.take (bW.length*i.size)++ys.flatMap f++cur.toList.drop (bW.length*i.size+(ys.flatMap f).length)).toArray).heap,w.setRow g (cur.toList.take (bW.length*i.size)++ys.flatMap f++cur.toList.drop (bW.length*i.size+(ys.flatMap f).length)).toArray,by simp[execOp,M,resolve,invoke,builtin,B.eval Y,B.eval O,S],⟨o,A.os,A.tape,A.output,A.hK⟩,⟨h.cells,h.one,.inr ⟨g,L,_,by rw[b2],   .inl K,⟨fz,setRow_heap w g cur _ e _ ag,X.1,fun i C=>X.2 i (by simp only[pK,b2,eC,h6,oT]at C;omega)⟩,by simpa using V,ak,?_,?_⟩⟩,⟨by rw[<-A.heap];simp[World.setRow],fun b hb ar=>?_⟩⟩;simp only[pK,b2,eC,h6,oT];omega;have aE:=length_flatMap h.cells bW;rw[aq,<-j5,b2,iw,<-R,<-aE,<-b2,<-j5];exact sr;rw[<-A.heap];exact setRow_other w g b _ fun e=>ar (e▸K);have holds:∀j c,(bW.flatMap f)[j]?=some c->w.cell? ((⟨g,0,none⟩:Addr).add j)=some c:=h.rd.qN h.cells o A;have S:=run_append_grow (P:=P) w t J.type e i z N C ah ⟨g,0,none⟩ bW.length L (bW.flatMap f) (length_flatMap h.cells bW) holds ad ys.length cap (ys.flatMap f) R U I I (growslice_fits I hb);have:=grown L _ I o _ o;exact⟨_,_,_,by simp[execOp,M,resolve,invoke,builtin,B.eval Y,B.eval O,S],this.1,this.2.1,this.2.2⟩
def GV(size:Nat):∀(vs:List Value) (j off:Nat) (cs:Array Value) (pre k post:List Value),cs.toList=pre++k++post->pre.length=off+j->k.length=vs.length->
 ((vs.zipIdx j).foldl (fun cs (x:Value×Nat)=>cs.setIfInBounds (off+x.2) x.1) cs).toList=pre++vs++post
 |[],j,off,cs,pre,k,post,h,_,n=>by
  have:k=[]:=lT n;subst this;simpa using h
 |v::vs,j,off,cs,pre,k,post,h,r,n=>by
  match k,n with
  |x::k,n=>
   simp only[List.zipIdx_cons,kO];have:=GV size vs (j+1) off (cs.setIfInBounds (off+j) v) (pre++[v]) k post (by
    rw[Bk,h,<-r];simp) bU (by simpa using n)
   simpa using this
def A2(size:Nat):∀(vs:List Value) (i:Nat) (cs:Array Value) (pre k:List Value),cs.toList=pre++k->pre.length=i*size->k.length=vs.length*size->(∀v∈vs,v.cells.size=size)->
 ∃r,Instr.fill (fun i=>some (i*size,size)) cs ((vs.zipIdx i).map (fun p=>(p.2,p.1)))=some r/\r.toList=pre++vs.flatMap (fun v=>v.cells.toList)
 |[],i,cs,pre,k,h,_,n,_=>by
  have:k=[]:=lT (by simpa using n);subst this;exact⟨cs,o,by simpa using h⟩
 |v::vs,i,cs,pre,k,h,F,n,B=>by
  have A:=B v a_;have hlen:size<=k.length:=by rw[n];simp[iw]
  have hold:k=k.take size++k.drop size:=(hY size k).symm;have C:cs.toList=pre++k.take size++k.drop size:=by rw[h,ew,<-hold]
  have K:cs.size=pre.length+k.length:=by rw[<-oT,h,b2]
  have E:=GV size v.cells.toList 0 (i*size) cs pre (k.take size) (k.drop size) C I (by rw[eC,show v.cells.toList.length=size from by simpa using A];omega);simp only[List.zipIdx_cons,dQ,Instr.fill];rw[au (by simp[A];omega)];obtain⟨r,af,H⟩:=A2 size vs (i+1) (v.cells.zipIdx.foldl (fun cs (x:Value×Nat)=>cs.setIfInBounds (i*size+x.2) x.1) cs) (pre++v.cells.toList) (k.drop size) (by
   rw[<-E,<-Array.foldl_toList,Array.toList_zipIdx]) (by simp[A,F,iw]) (by simp[n,iw]) (fun u hu=>B u (by simp[hu]))
  exact⟨r,af,by simpa using H⟩
def K8{p:Prop}(h:p:=by
 obtain⟨ae,i,z,L,ay,av,aB,aC⟩:=W;subst av;intro a w ai S;have U:=ai.oM N;have ag:zs.length=k:=by have:=bn List.length B;simpa[A]using this.symm
 have X:(parts.toArray.map (fun(x:Nat×Operand)=>(x.1,a.eval x.2))).toList=(vs.zipIdx 0).map (fun p=>(p.2,p.1)):=by
  have bc:parts.map (fun(x:Nat×Operand)=>(x.1,a.eval x.2))=(List.range k).zip vs:=by
   rw[<-K,<-U,oU];clear K U N M;induction parts with
   |nil=>rfl
   |cons p cq ih=>simp[ih]
  rw[tF];simp only;rw[bc,List.zipIdx_eq_zip_range',QJ A]
 have T:∀v∈vs,v.cells.size=i.size:=by
  intro v aw;have:v.cells.toList∈zs.map f:=by rw[<-B];exact dp.2 ⟨v,aw,o⟩
  obtain⟨x,_,ax⟩:=dp.1 this;have:=aj x;rw[ax]at this;simpa using this
 have V:vs.flatMap (fun v=>v.cells.toList)=zs.flatMap f:=by rw[yb,yb,B]
 have ah:∀(C:Array Value),((Array.range (k*i.size)).map (C[·%C.size]!)).toList=[]++((Array.range (k*i.size)).map (C[·%C.size]!)).toList:=fun _=>rfl;have Q:∃cs:Array Value,cs.toList=zs.flatMap f/\(Instr.buildSlice t k (parts.toArray.map (fun(x:Nat×Operand)=>(x.1,a.eval x.2)))).run P w= .ok (.slice (some ⟨w.heap.size,0,none⟩) k k) (w.alloc (.cells cs e)):=by
  by_cases E:k*i.size=0;obtain⟨r,af,O⟩:=A2 i.size vs 0 #[] [] [] o a_ (by simp[A,E]) T;refine⟨r,by rw[O,V];rfl,?_⟩;simp only[Instr.buildSlice,Sem.run_bind,run_underlying ae,Result.andThen_ok,sizeOf,typeInfo,run_program,L,Sem.run_pure,X];have aA:∀g:Nat->Value,(Array.range 0).map g= #[]:=fun g=>by simp
  simp[E,aA,af,newRow];obtain⟨r,af,O⟩:=A2 i.size vs 0 ((Array.range (k*i.size)).map (z.cells[·%z.cells.size]!)) [] _ (ah _) a_ (by simp[A]) T;refine⟨r,by rw[O,V];rfl,?_⟩;simp only[Instr.buildSlice,Sem.run_bind,run_underlying ae,Result.andThen_ok,sizeOf,typeInfo,run_program,L,Sem.run_pure,X];have aq:¬(k*i.size>2^24):=by simp only[Nat.reducePow];omega
  simp[E,aq,zeroValue,typeInfo,L,ay,af,newRow]
 obtain⟨cs,F,Q⟩:=Q;refine⟨.slice (some ⟨w.heap.size,0,none⟩) k k,H.push (.cells cs e),w.alloc (.cells cs e),?_,S.alloc (.cells cs e),⟨aj,R,.inr ⟨H.size,k,cs,?_,o,.of a_,?_,?_,?_,?_⟩⟩,an.pu _ _,_,o⟩;simp only[execOp,M,Sem.run_bind,Q,Result.andThen_ok,Sem.run_pure];rw[ag,S.heap];omega;unfold maxLen;omega;rw[<-oT,F,length_flatMap aj,ag];rw[<-length_flatMap aj,e5 (by rw[<-F];exact dF _),F]):p:=h
def Z.lit{P:Program}{w0:World}{n:Nat}{l:az}{H:Heap}{J:Oper}{α:Type}{e:TypeId}{f:α->List Value}{sz:Nat}{t:TypeId}{k bytes:Nat}{parts:List (Nat×Operand)}(vs:List Value)(zs:List α)(M:J.op= .buildSlice t k parts.toArray)(W:hQ P t e sz bytes)(N:jb l (parts.map (·.2))=some vs)(K:parts.map (·.1)=List.range k)(A:vs.length=k)(al:k*sz<=16777216)(ak:k<=16777216)(aj:∀x,(f x).length=sz)(R:∀x,∀u∈f x,u.oneCell'=true)(B:vs.map (fun v=>v.cells.toList)=zs.map f):
 Z P w0 n l H J (fun r aa=>Own (fun b=>b=H.size) e aa f sz r zs/\an H aa/\∃c,aa=H.push c):=by
 exact K8
def M.build{w0:World}{l:az}{J:Oper}{t:TypeId}{parts:List (Nat×Operand)}{v:Value}(r:J.op= .build t parts.toArray)(A:jb l (parts.map (·.2))=some args)(B:∀w,(Instr.build t ((parts.map (·.1)).zip args).toArray).run P w= .ok v w):M P w0 n l H J v:=by
 intro a w C E;have k:=C.oM A;have bc:parts.map (fun(x:Nat×Operand)=>(x.1,a.eval x.2))=(parts.map (·.1)).zip args:=by
  rw[<-k,oU];clear k A r B;induction parts with
  |nil=>rfl
  |cons p cq ih=>simp[ih]
 have af:=B w;rw[<-bc]at af;simp[execOp,r,af]
open Go.MapKept
structure kp {κ β:Type} (aX:Nat->Prop) (H:Heap) (a1:κ->Value) (fv:β->Value) (v:Value) (m:List (κ×β)):Prop where
 ex:∃r es clock,v= .map (some r)/\aX r/\H[r]?=some (.map es clock)/\Stamped es clock/\es.toList.map (fun e=>(e.key,e.val))=m.map (fun p=>(a1 p.1,fv p.2))
def kp.up{v:Value}{m:List (aP×oC)}(h:kp F H gp ly v m)(s:W ki H V)(E:∀b,b<H.size->F b->¬ki b):kp F V gp ly v m:=by
 obtain⟨r,es,clock,B,k,n,C⟩:=h.ex;have A:=(Array.getElem?_eq_some_iff.1 n).1;exact⟨r,es,clock,B,k,by rw[s.same r A (E r A k)];exact n,C⟩
def kp.aL{v:Value}{m:List (aP×oC)}(h:kp F H gp ly v m)(s:an H V):kp F V gp ly v m:=h.up s (fun _ _ _ e=>e)
def kp.size{v:Value}{m:List (aP×oC)}(h:kp F H gp ly v m):∃r es clock,v= .map (some r)/\H[r]?=some (.map es clock)/\es.size=m.length:=by
 obtain⟨r,es,clock,k,B,n,C,A⟩:=h.ex;refine⟨r,es,clock,k,n,?_⟩;have:=bn List.length A;simpa using this
def kp.nodup{v:Value}{m:List (aP×oC)}(h:kp F H gp ly v m):(m.map (·.1)).Nodup:=by
 obtain⟨r,es,clock,C,E,K,n,A⟩:=h.ex;have k:=n.2.2;have:es.toList.map (·.key)=(m.map (·.1)).map gp:=by
  have:=bn (List.map Prod.fst) A;simpa[Function.comp_def]using this
 rw[this,vB,su]at k;rw[vB];exact k.imp fun B e=>B (by rw[e])
def kp.L3{v:Value}{m:List (aP×oC)}(h:kp F H gp ly v m):jA v<H.size:=by
 obtain⟨r,es,clock,rfl,n,k,A⟩:=h.ex;exact(Array.getElem?_eq_some_iff.1 k).1
def ax{κ β:Type}[DecidableEq κ]:List (κ×β)->κ->Option β
 |[],_=>none
 |p::m,k=>if k=p.1 then some p.2 else ax m k
structure qb {κ:Type} (d:TypeDesc) (a1:κ->Value):Prop where
 key:∀k,IsKey d (a1 k)
 inj:∀a b,a1 a=a1 b->a=b
def hZ:qb .string aJ:=⟨fun _=>trivial,fun a b h=>by simpa[aJ]using h⟩
def h8{κ:Type}[DecidableEq κ](m:List (κ×aP))(k:κ)(b:aP):List (κ×aP):=if(ax m k).isSome then m.map (fun p=>if p.1=k then(p.1,b)else p)else m++[(k,b)]
def xV{κ:Type}[DecidableEq κ]{a1:κ->Value}{d:TypeDesc}{k:κ}(A:qb d a1):∀(es:List MapEntry) (m:List (κ×aP)) (i:Nat),es.map (fun e=>(e.key,e.val))=m.map (fun p=>(a1 p.1,gp p.2))->
 (ax m k=none/\Instr.findNow d (a1 k) es i=some none/\∀x∈es,x.key≠a1 k)\/∃j e b,ax m k=some b/\Instr.findNow d (a1 k) es i=some (some (i+j,gp b))/\es[j]?=some e/\e.key=a1 k/\e.val=gp b
 |[],m,i,h=>by
  have:m=[]:=by cases m<;>simp_all
  subst this;exact .inl ⟨o,o,by simp⟩
 |e::es,m,i,h=>by
  match m,h with
  |(a,b)::m,h=>
   simp only[dQ,j6,ig]at h;obtain⟨⟨n,K⟩,O⟩:=h;obtain⟨r,af,L⟩:=sameNow_of_keys (A.key k) (b:=e.key) (by rw[n];exact A.key a);cases r with
   |true=>
    have P:k=a:=A.inj _ _ (by rw[L.1 o,n]);subst P;exact .inr ⟨0,e,b,by simp[ax],by simp[Instr.findNow,af,K],o,n,K⟩
   |false=>
    have B:k≠a:=fun q=>by subst q;have:=L.2 n.symm;cases this
    rcases xV (k:=k) A es m (i+1) O with⟨E,F,H⟩|⟨j,N,M,E,F,H,Q,R⟩;refine .inl ⟨?_,by simp[Instr.findNow,af,F],?_⟩;simp only[ax,B,if_false];exact E;intro x C;cases C with
    |head=>intro q;exact B<|A.inj _ _ (by rw[<-q,n])
    |tail _ C=>exact H x C
    refine .inr ⟨j+1,N,M,?_,?_,by simpa using H,Q,R⟩;simp only[ax,B,if_false];exact E;simp[Instr.findNow,af,F];omega
def JK{w0:World}{κ:Type}[DecidableEq κ]{a1:κ->Value}{v:Value}{m:List (κ×aP)}{d:TypeDesc}{w:World}{t E:TypeId}{z:Value}{k:κ}{ok:Bool}(h:kp F H a1 gp v m)(A:qb d a1)(N:At w0 H w)(hm:∀w,(underlying t).run P w= .ok (.map gS E) w)(n:P.underlying gS=some d)(O:∀w,(zeroValue E).run P w= .ok z w):
 (Instr.lookup t v (a1 k) ok).run P w= .ok (if ok then .tuple #[(match ax m k with|some b=>gp b|none=>z),.bool (ax m k).isSome]else(match ax m k with|some b=>gp b|none=>z)) w:=by
 obtain⟨r,es,clock,rfl,T,L,U,M⟩:=h.ex;have K:w.heap[r]?=some (.map es clock):=by rw[N.heap];exact L
 rcases xV (k:=k) A es.toList m 0 M with⟨B,C,Q⟩|⟨j,S,R,B,C,Q,V,W⟩;simp[Instr.lookup,hm,MapKept.run_getObj_map K,MapKept.run_checkKey n (A.key k),MapKept.run_findKey n C,B,O];simp[Instr.lookup,hm,MapKept.run_getObj_map K,MapKept.run_checkKey n (A.key k),MapKept.run_findKey n C,B]
def M.lookup{w0:World}{l:az}{J:Oper}{κ:Type}[DecidableEq κ]{a1:κ->Value}{v:Value}{m:List (κ×aP)}{d:TypeDesc}{t r:TypeId}{x i:Operand}{k:κ}{z0:aP}(h:kp F H a1 gp v m)(C:qb d a1)(L:J.op= .lookup t x i false)(hm:∀w,(underlying t).run P w= .ok (.map gS r) w)(K:P.underlying gS=some d)(O:∀w,(zeroValue r).run P w= .ok (gp z0) w)(N:aI l x=some v)(E:aI l i=some (a1 k)):M P w0 n l H J (gp ((ax m k).getD z0)):=by
 intro ac w A B;have af:=JK (k:=k) (ok:=false) h C B hm K O;have:(match ax m k with|some b=>gp b|none=>gp z0)=gp ((ax m k).getD z0):=by cases ax m k<;>rfl
 rw[this]at af;simp[execOp,L,A.eval N,A.eval E,af]
def M.H0{w0:World}{l:az}{J:Oper}{κ:Type}[DecidableEq κ]{a1:κ->Value}{v:Value}{m:List (κ×aP)}{x:Operand}{t k:TypeId}(h:kp F H a1 gp v m)(L:J.op= .call {callee:= .builtin .len,args:= #[x],argTypes:= #[t]})(N:∀w,(underlying t).run P w= .ok (.map gS k) w)(O:aI l x=some v):M P w0 n l H J (.int .i64 m.length):=by
 obtain⟨r,es,clock,rfl,A,C⟩:=h.size;intro ac w K E;have B:w.heap[r]?=some (.map es clock):=by rw[E.heap];exact A
 simp[execOp,L,K.eval O,resolve,invoke,builtin,Builtin.len_,N,goInt,MapKept.run_getObj_map B,C]
def H6{κ:Type}[DecidableEq κ]{a1:κ->Value}{fv:aP->Value}{d:TypeDesc}{k:κ}{b:aP}{key:Value}(C:qb d a1)(E:key=a1 k):∀(es:List MapEntry) (m:List (κ×aP)) (j:Nat) (e:MapEntry),es.map (fun e=>(e.key,e.val))=m.map (fun p=>(a1 p.1,fv p.2))->(es.map (·.key)).Nodup->es[j]?=some e->e.key=a1 k->
 (es.modify j (fun e=>{e with key:=key,val:=fv b})).map (fun e=>(e.key,e.val))=(m.map (fun p=>if p.1=k then(p.1,b)else p)).map (fun p=>(a1 p.1,fv p.2))
 |[],_,_,_,_,_,h,_=>by simp at h
 |x::es,m,j,e,h,ar,n,he=>by
  match m,h with
  |(a,c)::m,h=>
   simp only[dQ,j6,ig]at h;obtain⟨⟨r,H⟩,A⟩:=h;simp only[dQ,oV]at ar;cases j with
   |zero=>
    simp only[List.getElem?_cons_zero,ld]at n;subst n;have B:a=k:=C.inj _ _ (by rw[<-r,he]);subst B;simp only[List.modify_zero_cons,dQ,if_true,E];congr 1;rw[A,oU];apply oW;intro p K;have:p.1≠a:=by
     intro e;apply ar.1;have:(a1 p.1,fv p.2)∈es.map (fun e=>(e.key,e.val)):=by rw[A];exact dp.2 ⟨p,K,o⟩
     obtain⟨y,hy,F⟩:=dp.1 this;simp only[ig]at F;exact dp.2 ⟨y,hy,by rw[F.1,e,r]⟩
    simp[this]
   |succ j=>
    simp only[List.getElem?_cons_succ]at n;have B:a≠k:=by
     intro q;subst q;apply ar.1;rw[r,<-he];exact dp.2 ⟨e,yc n,o⟩
    simp only[List.modify_succ_cons,dQ,B,if_false,r,H];rw[H6 C E es m j e A ar.2 n he]
def S.mapUpdate{w0:World}{l:az}{J:Oper}{κ:Type}[DecidableEq κ]{a1:κ->Value}{v:Value}{m:List (κ×aP)}{d:TypeDesc}{t av:TypeId}{x i y:Operand}{k:κ}{b:aP}(h:kp F H a1 gp v m)(E:qb d a1)(al:J.op= .mapUpdate t x i y)(hm:∀w,(underlying t).run P w= .ok (.map gS av) w)(M:P.underlying gS=some d)(aq:aI l x=some v)(ag:aI l i=some (a1 k))(hy:aI l y=some (gp b)):S P w0 n l H J (fun aa=>kp F aa a1 gp v (h8 m k b)/\W (fun c=>c=jA v) H aa):=by
 intro ac w A C;obtain⟨r,es,clock,K,X,Z,O,Q⟩:=h.ex;have L:w.heap[r]?=some (.map es clock):=by rw[C.heap];exact Z
 have aw:jA v=r:=by rw[K];rfl
 have ay:=(Array.getElem?_eq_some_iff.1 Z).1;have ai:∀B,W (fun c=>c=jA v) H (H.setIfInBounds r B):=fun B=>⟨by simp,fun b hb ak=>by rw[aw]at ak;simp[ku ak]⟩;have ae:∀B,(H.setIfInBounds r B)[r]?=some B:=fun B=>by simp[ay]
 rcases xV (k:=k) E es.toList m 0 Q with⟨R,T,N⟩|⟨j,V,aA,R,T,N,U,aB⟩;refine⟨H.setIfInBounds r (.map (es.push {key:=a1 k,val:=gp b,born:=clock}) (clock+1)),{w with heap:=H.setIfInBounds r (.map (es.push {key:=a1 k,val:=gp b,born:=clock}) (clock+1))},?_,C.set,⟨r,_,_,K,X,ae _,stamped_push O N,?_⟩,ai _⟩;simp[execOp,al,A.eval aq,A.eval ag,A.eval hy,K,Instr.mapUpdate,hm,MapKept.run_getObj_map L,MapKept.run_checkKey M (E.key k),MapKept.run_findKey M T,MapKept.run_setObj_map _ L,C.heap];simp[h8,R,Q];have ah:es[j]?=some V:=by simpa using N
 have ax:∀e,es[j]?=some e->({e with key:=a1 k,val:=gp b}:MapEntry).key=e.key:=fun e he=>by rw[ah]at he;cases he;exact U.symm
 refine⟨H.setIfInBounds r (.map (es.modify j fun e=>{e with key:=a1 k,val:=gp b}) clock),{w with heap:=H.setIfInBounds r (.map (es.modify j fun e=>{e with key:=a1 k,val:=gp b}) clock)},?_,C.set,⟨r,_,_,K,X,ae _,stamped_modify O _ _ (fun _ _=>rfl) (fun e _ he=>ax e he),?_⟩,ai _⟩;simp[execOp,al,A.eval aq,A.eval ag,A.eval hy,K,Instr.mapUpdate,hm,MapKept.run_getObj_map L,MapKept.run_checkKey M (E.key k),MapKept.run_findKey M T,ah,U,MapKept.run_keyThatStays (E.key k),MapKept.run_setObj_map _ L,C.heap];have:=H6 (fv:=gp) (b:=b) E o es.toList m j V Q O.2.2 N U;rw[Array.toList_modify,this];simp[h8,R]
def Z.makeSlice{w0:World}{l:az}{J:Oper}{f:aP->List Value}{t e:TypeId}{x c:Operand}{Q:IntKind}{z:Value}(k:Nat)(z0:aP)(V:J.op= .makeSlice t x c)(T:hQ P t e vq7z vq28z)(ai:∀w,(zeroValue e).run P w= .ok z w)(ak:f z0=z.cells.toList)(aj:∀x,(f x).length=vq7z)(B:∀x,∀u∈f x,u.oneCell'=true)(ah:aI l x=some (.int cI vq24z))(S:aI l c=some (.int Q vq24z))(U:vq24z=k)(hb:(vq28z:Int)*k<=281474976710656)(av:k<=9223372036854775807):
 Z P w0 n l H J (fun r aa=>Own (fun b=>b=H.size) e aa f vq7z r (List.replicate k z0)/\an H aa/\∃aq,aa=H.push aq):=by
 obtain⟨ag,i,A,N,O,X,R,C⟩:=T;intro ac w L E;subst U;have al:A=z:=by
  have B:=ai w;simp[zeroValue,typeInfo,N,O]at B;exact B
 subst al;have af:=run_make (P:=P) w t e i A ag N O cI Q (k:Int) k I I (by rw[R];exact hb) I;simp only[tG,X]at af;refine⟨.slice (some ⟨w.heap.size,0,none⟩) k k,H.push (.cells (madeCells A.cells (k*vq7z)) e),w.alloc (.cells (madeCells A.cells (k*vq7z)) e),?_,E.alloc _,⟨aj,B,.inr ⟨w.heap.size,k,madeCells A.cells (k*vq7z),by simp,E.heap▸rfl,.of (by rw[E.heap];simp),by simp,by unfold maxLen;omega,size_madeCells _ _,?_⟩⟩,an.pu _ _,_,o⟩;simp[execOp,V,L.eval ah,L.eval S,af];rw[qv,e5 (by simp[size_madeCells])];apply Bm;intro q;by_cases K:q<k*vq7z
 have ae:0<vq7z:=by rcases qu vq7z with h|h;·subst h;simp at K
                    exact h
 have hdiv:q/vq7z<k:=Nat.div_lt_of_lt_mul (by rw[ss];exact K);have F:=Nat.mod_lt q ae;have M:=x1 aj (List.replicate k z0) (q/vq7z) (q%vq7z) z0 (A.cells[q%vq7z]'(by rw[C];exact F)) (by simp[hdiv]) (by rw[ak];simp[C,F]);have W:q/vq7z*vq7z+q%vq7z=q:=by rw[ss];exact Nat.div_add_mod q vq7z
 rw[W]at M;rw[M];simp only[madeCells,C,Array.getElem?_toList];rw[Array.getElem?_map,Array.getElem?_range,aD K];simp[C,F];rw[List.getElem?_eq_none (by simp[size_madeCells];omega),List.getElem?_eq_none (by rw[length_flatMap aj,qv];omega)]
structure Var (e:TypeId) (H:Heap) (b:Nat) (cs:List Value):Prop where
 row:Row H b cs.toArray e
def Var.lt{e:TypeId}{b:Nat}{cs:List Value}(h:Var e H b cs):b<H.size:=h.row.lt
def Var.up{e:TypeId}{b:Nat}{cs:List Value}(h:Var e H b cs)(s:W F H V)(k:¬F b):Var e V b cs:=⟨h.row.up (s.same b h.lt k)⟩
def Var.aL{e:TypeId}{b:Nat}{cs:List Value}(h:Var e H b cs)(s:an H V):Var e V b cs:=h.up s (fun e=>e)
def Var.T{e:TypeId}{b:Nat}{cs:List Value}(h:Var e H b cs):cL H ⟨b,0,none⟩ cs:=
 ⟨o,fun j c aj=>by simp only[kv];rw[h.row.cell];simpa using aj⟩
def Var.new(H:Heap)(cs:Array Value)(t:TypeId):Var t (H.push (.cells cs t)) H.size cs.toList:=⟨.of a_⟩
def eD(cs:List Value)(i:Nat)(vs:List Value):List Value:=cs.take i++vs++cs.drop (i+vs.length)
def Dn{cs:List Value}{i:Nat}(h:i+args.length<=cs.length):(eD cs i args).length=cs.length:=by
 simp[eD];omega
def Z.nT{w0:World}{l:az}{J:Oper}{t:TypeId}{z:Value}(F:J.op= .alloc t)(K:∀w,(zeroValue t).run P w= .ok z w):Z P w0 n l H J (fun v aa=>v= .pointer (some ⟨H.size,0,none⟩)/\Var t aa H.size z.cells.toList/\an H aa/\∃L,aa=H.push L):=by
 intro a w E C;obtain⟨v,aa,M,k,r,A,B⟩:=Z.alloc (P:=P) (w0:=w0) (n:=n) (l:=l) (H:=H) F K a w E C;subst B;exact⟨v,_,M,k,r,A,Var.new _ _ _,an.pu _ _,_,o⟩
def Z.qi{w0:World}{l:az}{J:Oper}{t:TypeId}{x:Operand}{v:Value}(K:J.op= .box t x)(L:aI l x=some v):Z P w0 n l H J (fun r aa=>r= .pointer (some ⟨H.size,0,none⟩)/\Var t aa H.size v.cells.toList/\an H aa/\∃M,aa=H.push M):=by
 intro a w F E;obtain⟨v,aa,N,k,A,B,C⟩:=Z.box (P:=P) (w0:=w0) (n:=n) (H:=H) K L a w F E;subst C;exact⟨v,_,N,k,A,B,Var.new _ _ _,an.pu _ _,_,o⟩
def Fy{v:Value}(h:v.oneCell'=true):v.cells.toList=[v]:=by cases v<;>first|·simp[Value.oneCell']at h|rfl
def Z.q5{w0:World}{l:az}{J:Oper}{t:TypeId}{x:Operand}{v:Value}(E:J.op= .box t x)(F:aI l x=some v)(A:v.oneCell'=true):Z P w0 n l H J (fun r aa=>r= .pointer (some ⟨H.size,0,none⟩)/\Var t aa H.size [v]/\an H aa/\∃K,aa=H.push K):=by
 intro a w C B;obtain⟨r,aa,R,L,M,N,k,O,Q⟩:=Z.qi (P:=P) (w0:=w0) (n:=n) (H:=H) E F a w C B;rw[Fy A]at k;exact⟨r,aa,R,L,M,N,k,O,Q⟩
def At.row{w0:World}{w:World}(k:At w0 H w)(g:Nat)(c:Array Value):At w0 (w.setRow g c).heap (w.setRow g c):=⟨o,k.os,k.tape,k.output,k.hK⟩
def wJ{w0:World}{w:World}(k:At w0 H w){g:Nat}{c:Array Value}:W (fun b=>b=g) H (w.setRow g c).heap:=
 ⟨by rw[<-k.heap];simp[World.setRow],fun b hb ar=>by rw[<-k.heap];exact setRow_other w g b _ fun e=>ar e⟩
def zl{w0:World}{w:World}(r:At w0 H w){g:Nat}{c:Array Value}{e:TypeId}(h:Row H g vq14z e)(aj:c.size=vq14z.size):Row (w.setRow g c).heap g c e:=by
 obtain⟨fz,k,n⟩:=h;exact⟨fz,setRow_heap w g vq14z _ e _ (by rw[r.heap];exact k),by rw[aj];exact n⟩
def S.cells{w0:World}{l:az}{J:Oper}{x y:Operand}{t:TypeId}{b i:Nat}{c:Value}{cs:Array Value}{e:TypeId}(K:J.op= .store t x y)(L:aI l x=some (.pointer (some ⟨b,i,none⟩)))(hy:aI l y=some c)(C:∀u∈c.cells.toList,u.oneCell'=true)(Y:∀w,(sizeOf t).run P w= .ok k w)(A:c.cells.size=k)(hb:Row H b cs e)(M:i+k<=cs.size):S P w0 n l H J (fun aa=>Row aa b (eD cs.toList i c.cells.toList).toArray e/\W (fun g=>g=b) H aa):=by
 intro a w B r;obtain⟨fz,E,F⟩:=id hb;have af:=sM P b i e fz c.cells.toList 0 cs w (by rw[r.heap];exact E) F (by simp[A];omega) C;simp only[n6]at af;refine⟨_,w.setRow b (eD cs.toList i c.cells.toList).toArray,?_,r.row _ _,zl r hb (by simp[eD,A];omega),wJ r⟩;simp[execOp,K,B.eval L,B.eval hy,Instr.storeAt,Instr.sureAddr,storeVar,A,Y,af,eD]
def S.var{w0:World}{l:az}{J:Oper}{x y:Operand}{t:TypeId}{b i:Nat}{c:Value}{cs:List Value}{e:TypeId}(h:Var e H b cs)(vs r:List Value)(K:J.op= .store t x y)(L:aI l x=some (.pointer (some ⟨b,i,none⟩)))(hy:aI l y=some c)(aj:c.cells.toList=vs)(A:∀u∈vs,u.oneCell'=true)(Y:∀w,(sizeOf t).run P w= .ok k w)(F:vs.length=k)(E:i+k<=cs.length)(M:eD cs i vs=r):S P w0 n l H J (fun aa=>Var e aa b r/\W (fun g=>g=b) H aa):=by
 subst aj M;intro a w C B;obtain⟨aa,T,N,O,Q,R⟩:=S.cells (P:=P) (w0:=w0) (n:=n) K L hy A Y (by simpa using F) h.row (by simpa using E) a w C B;exact⟨aa,T,N,O,⟨Q⟩,R⟩
def TN{cs:List Value}{i:Nat}{c:Value}(h:i<cs.length):eD cs i [c]=cs.set i c:=by
 simp[eD,List.set_eq_take_append_cons_drop,h]
def S.df{w0:World}{l:az}{J:Oper}{x y:Operand}{t:TypeId}{b:Nat}{c:Value}{cs:List Value}{e:TypeId}(h:Var e H b cs)(i:Nat)(k:List Value)(B:J.op= .store t x y)(C:aI l x=some (.pointer (some ⟨b,i,none⟩)))(hy:aI l y=some c)(r:c.oneCell'=true)(Y:∀w,(sizeOf t).run P w= .ok 1 w)(A:i<cs.length)(E:cs.set i c=k):S P w0 n l H J (fun aa=>Var e aa b k/\W (fun g=>g=b) H aa):=
 S.var h [c] k B C hy (Fy r) (by simpa using r) Y o I ((TN A).trans E)
def gu{w0:World}{l:az}{J:Oper}{x y : Operand}{t : TypeId}{b : Nat}{c : Value}{cs : List Value}{e : TypeId}(h : Var e H b cs)(i : Nat)(k : List Value)(Y : ∀w,(sizeOf t).run P w= .ok 1 w)(A : i<cs.length)(E : cs.set i c=k)(B : J.op= .store t x y := by exact rfl)(C : aI l x=some (.pointer (some ⟨b,i,none⟩)) := by exact rfl)(hy : aI l y=some c := by exact rfl)(r : c.oneCell'=true := by exact rfl): S P w0 n l H J (fun aa=>Var e aa b k/\W (fun g=>g=b) H aa) := S.df h i k B C hy r Y A E
def JX{f:aP->List Value}{sz:Nat}(r:∀x,(f x).length=sz):∀(l:List aP) (j k:Nat) (x y:aP) (vs post:List Value),l[j]?=some x->k+vs.length<=sz->f y=eD (f x) k vs->eD (l.flatMap f++post) (j*sz+k) vs=(l.set j y).flatMap f++post
 |[],_,_,_,_,_,_,h,_,_=>by simp at h
 |z::l,0,k,x,y,vs,post,h,A,hy=>by
  simp only[List.getElem?_cons_zero,ld]at h;subst h;have n:=r z;simp only[x9,mH,hy,vz,kv,eD,ew];rw[rm I,vC I]
 |z::l,j+1,k,x,y,vs,post,h,A,hy=>by
  simp only[List.getElem?_cons_succ]at h;have:=JX r l j k x y vs post h A hy;have n:=r z;simp only[Bj,mH,eD,ew]at this⊢;rw[vD,e5 (by rw[n,iw];omega),List.drop_append,pL (by rw[n,iw];omega),gw,ew];congr 1;rw[show(j+1)*sz+k-(f z).length=j*sz+k by rw[n,iw];omega,show(j+1)*sz+k+vs.length-(f z).length=j*sz+k+vs.length by rw[n,iw];omega];exact this
def S.RJ{w0:World}{l:az}{J:Oper}{e:TypeId}{f:aP->List Value}{v:Value}{x y:Operand}{t:TypeId}{c:Value}{m:Nat}(h:Own F e H f vq7z v bW)(j k:Nat)(z:aP)(vs:List Value)(R:J.op= .store t x y)(C:aI l x=some (.pointer (some ⟨jA v,j*vq7z+k,none⟩)))(hy:aI l y=some c)(aj:c.cells.toList=vs)(E:∀u∈vs,u.oneCell'=true)(Y:∀w,(sizeOf t).run P w= .ok m w)(hm:vs.length=m)(r:j<bW.length)(O:k+m<=vq7z)(T:f z=eD (f bW[j]) k vs):S P w0 n l H J (fun aa=>Own F e aa f vq7z v (bW.set j z)/\W (fun b=>b=jA v) H aa):=by
 subst aj;intro a w M K;rcases h.ex with⟨rfl,rfl⟩|⟨g,cap,cur,B,N,bP,ae,ag,ah,ai⟩;simp at r;have hb:jA v=g:=by rw[B];rfl
 have Q:j*vq7z+k+m<=cur.size:=by
  have:=mc vq7z (show j+1<=cap by omega);rw[iw]at this;omega
 obtain⟨aa,ak,U,V,X,Z⟩:=S.cells (P:=P) (w0:=w0) (n:=n) R (by rw[hb]at C;exact C) hy E Y (by simpa using hm) bP Q a w M K;refine⟨aa,ak,U,V,⟨h.cells,h.one,.inr ⟨g,cap,_,by rw[rl];exact B,N,X,by rw[rl];exact ae,ag,?_,?_⟩⟩,by rw[hb];exact Z⟩;rw[pK,Dn (by simp at hm⊢;omega)];simpa using ah;have A:=length_flatMap h.cells bW;have L:cur.toList=bW.flatMap f++cur.toList.drop (bW.length*vq7z):=by rw[<-ai,hY]
 rw[L,JX h.cells bW j k bW[j] z _ _ (by simp[r]) (by rw[hm];exact O) T,rl,<-A];have:=length_flatMap h.cells (bW.set j z);rw[rl]at this;rw[A,<-this];exact sr
def Own.front{e:TypeId}{f:aP->List Value}{ad:Option Addr}(h:Own F e H f n (.slice ad bW.length vq7z) bW)(E:k<=bW.length)(K:bW≠[]):Own F e H f n (.slice ad k vq7z) (bW.take k):=by
 refine⟨h.cells,h.one,?_⟩;rcases h.ex with⟨_,rfl⟩|⟨g,O,cur,A,C,bP,P,L,M,N⟩;exact absurd o K;simp only[Value.slice.injEq,true_and]at A;obtain⟨rfl,rfl⟩:=A;have r:(bW.take k).length=k:=by simp;omega
 refine .inr ⟨g,vq7z,cur,by rw[r],C,bP,by omega,L,M,?_⟩;rw[r];have:(bW.take k).flatMap f=(bW.flatMap f).take (k*n):=by
  have B:bW.flatMap f=(bW.take k).flatMap f++(bW.drop k).flatMap f:=by rw[<-j5,hY]
  rw[B,<-r,<-length_flatMap h.cells (bW.take k),r];rw[sr]
 rw[this,<-N,sv];congr 1;exact(kx (mc _ E)).symm
def fold_push(l:List UInt8):∀acc:List UInt8,(l.map (fun b=>(b.toNat:Int))).foldl (fun r n=>r.push (UInt8.ofNat n.toNat)) (ByteArray.mk acc.toArray)=ByteArray.mk (acc++l).toArray:=by
 induction l with
 |nil=>intro acc;simp
 |cons b l ih=>
  intro acc;rw[dQ,kO];have:(ByteArray.mk acc.toArray).push (UInt8.ofNat ((b.toNat:Int)).toNat)=ByteArray.mk (acc++[b]).toArray:=by
   simp[ByteArray.push]
  rw[this,ih];simp
def tz(l:List UInt8):l.flatMap a7=l.map (fun b=>Value.int .u8 b.toNat):=by
 induction l with
 |nil=>rfl
 |cons b l ih=>simp[ih]
def AJ(s:List UInt8):Array.map (fun b:UInt8=>Value.int .u8 (b.toNat:Int)) s.toArray=(s.flatMap a7).toArray:=by
 rw[tz];simp
def M.oK{w0:World}{l:az}{J:Oper}{x:Operand}{t u e:TypeId}{v:Value}(h:Rd F H a7 1 v wt)(B:J.op= .convert t u x)(R:P.underlying t=some (.slice e))(hu:P.underlying u=some .string)(he:P.underlying e=some (.int .u8))(C:aI l x=some v):M P w0 n l H J (aJ wt):=by
 intro a w k K;obtain⟨ad,cap,rfl,_,_,E⟩:=id h.ex;have aj:=run_convert_bytes_string (P:=P) w t u e ad wt.length cap R he hu;cases ad with
 |none=>
  have S:wt=[]:=by
   apply hB;intro O;obtain⟨ad,ar,_⟩:=E O;cases ar
  subst S;have L:(convert t u (.slice none 0 cap)).run P w= .ok (aJ []) w:=by
   rw[show(0:Nat)=([]:List UInt8).length from o,aj];rfl
  simp[execOp,B,k.eval C,L]
 |some ad=>
  have Q:=h.qN eM o K;have A:=run_loadCells_list (P:=P) w ad (wt.flatMap a7) Q;have hlen:(wt.flatMap a7).length=wt.length:=by rw[length_flatMap eM,m_]
  have hb:=run_bytesToString (P:=P) w ad wt.length cap (wt.map (fun b=>(b.toNat:Int))) (by
   rw[hlen]at A;rw[A,tz,oU];rfl)
  have r:=fold_push wt [];simp only[gw]at r;have N:ByteArray.empty=ByteArray.mk ([]:List UInt8).toArray:=rfl;rw[N,r]at hb;simp[execOp,B,k.eval C,aj,hb,aJ]
def Z.T8{w0:World}{l:az}{J:Oper}{x:Operand}{t u e:TypeId}{s:List UInt8}(K:J.op= .convert t u x)(L:P.underlying t=some rW)(hu:P.underlying u=some (.slice e))(he:P.underlying e=some (.int .u8))(M:aI l x=some (aJ s))(hb:s.length<=9223372036854775807):
 Z P w0 n l H J (fun r aa=>Own (fun b=>b=H.size) e aa a7 1 r s/\an H aa/\aa.size=H.size+1):=by
 intro a w E k;have af:=Lib.run_convert_string_bytes (P:=P) w t u e (ByteArray.mk s.toArray) L hu he;have A:=sR s;have F:=grownCap_ge w s.length 0 e;have B:grownCap w s.length 0 e<=maxLen:=grownCap_le_maxLen w s.length 0 e (by unfold maxLen;omega);have C:(Lib.bytesCells w e (ByteArray.mk s.toArray)).size=grownCap w s.length 0 e:=by
  simp only[Lib.bytesCells,A,AJ,Array.size_append,pK,length_flatMap eM,Array.size_replicate,m_];omega
 refine⟨_,(Lib.bytesWorld w e (ByteArray.mk s.toArray)).heap,Lib.bytesWorld w e (ByteArray.mk s.toArray),by simp[execOp,K,E.eval M,af,aJ];rfl,⟨o,?_,?_,?_,?_⟩,⟨eM,fy,.inr ⟨w.heap.size,grownCap w s.length 0 e,_,by rw[A],k.heap▸rfl,⟨_,Lib.bytesWorld_at_new w e _,?_⟩,F,B,?_,?_⟩⟩,⟨?_,?_⟩,?_⟩;have:=k.os;simp only[Lib.bytesWorld,World.freeze];exact this;have:=k.tape;simp only[Lib.bytesWorld,World.freeze];exact this;have:=k.output;simp only[Lib.bytesWorld,World.freeze];exact this;have:=k.hK;simp only[Lib.bytesWorld,World.freeze];first|exact this|exact n4 this
 refine⟨by simp only;omega,?_⟩;intro i N aj;simp only at aj;omega;rw[C,m_];simp only[Lib.bytesCells,AJ,Bl];rw[<-length_flatMap eM s];exact sr;rw[Lib.bytesWorld_size,k.heap];omega;intro b hb _;rw[<-k.heap]at hb⊢;exact Lib.bytesWorld_at_old w e _ b hb;rw[Lib.bytesWorld_size,k.heap]
def Ke(s:List UInt8):Lib.strCells (ByteArray.mk s.toArray)=s.flatMap a7:=by
 rw[tz];simp[Lib.strCells]
def Ta{w:World}{t u:TypeId}(ty:TypeId){e:TypeId}(i:TypeInfo)(L:P.underlying t=some (.slice e))(hu:P.underlying u=some .string)(F:P.info? e=some i)(K:i.size=1){g:Nat}(k n:Nat){fz:Nat×Nat}(E:w.heap[g]?=some (.cells vq14z e fz))(C:r3 fz vq14z.size)(s:ByteArray)(H:k+s.size<=n)(B:k+s.size<=vq14z.size):
 (Builtin.append_ #[t,u] ty #[.slice (some ⟨g,0,none⟩) k n,.string s]).run P w=
  .ok (.slice (some ⟨g,0,none⟩) (k+s.size) n) (w.setRow g (vq14z.toList.take k++Lib.strCells s++vq14z.toList.drop (k+s.size)).toArray):=by
 have A:=Lib.run_firstCells_string (P:=P) w 1 s;have r:=sM P g k e fz (Lib.strCells s) 0 vq14z w E C (by simpa[Lib.strCells_length]using B) (Lib.strCells_oneCell s);simp only[n6,Lib.strCells_length]at r;simp[Builtin.append_,run_underlying L,run_underlying hu,sizeOf,typeInfo,F,K,Builtin.lenOf,H,A,Addr.add_lit,r]
def Z.LK{w0:World}{l:az}{J:Oper}{e:TypeId}{v:Value}{ys:List UInt8}{s x:Operand}{t u:TypeId}(h:Own F e H a7 1 v wt)(O:J.op= .call {callee:= .builtin .append,args:= #[s,x],argTypes:= #[t,u]})(aq:hQ P t e 1 1)(hu:P.underlying u=some .string)(Y:aI l s=some v)(R:aI l x=some (aJ ys))(hm:wt.length+ys.length<=140737488355328):
 Z P w0 n l H J (fun r aa=>Own (fun b=>F b\/H.size<=b) e aa a7 1 r (wt++ys)/\W F H aa):=by
 obtain⟨Q,i,z,K,ag,ae,U,aA⟩:=aq;intro a w A k;have av:(ys.flatMap a7).length=ys.length:=by rw[length_flatMap eM,m_]
 have X:(wt.flatMap a7).length=wt.length:=by rw[length_flatMap eM,m_]
 have M:=sR ys
 have grown:∀(C:Nat) (r:Value),C<wt.length+ys.length->r= .slice (some ⟨w.heap.size,0,none⟩) (wt.length+ys.length) (grownCap w (wt.length+ys.length) C e)->∀L,L=Obj.cells (((wt++ys).flatMap a7).toArray++Builtin.zeroCells z.cells (grownCap w (wt.length+ys.length) C e-(wt.length+ys.length))) e->
  At w0 (w.drew.alloc L).heap (w.drew.alloc L)/\Own (fun b=>F b\/H.size<=b) e (w.drew.alloc L).heap a7 1 r (wt++ys)/\W F H (w.drew.alloc L).heap:=by
  rintro C r aE rfl L rfl;have ak:=grownCap_ge w (wt.length+ys.length) C e;have ai:grownCap w (wt.length+ys.length) C e<=maxLen:=grownCap_le_maxLen w (wt.length+ys.length) C e (by unfold maxLen;omega);have S:At w0 H w.drew:=k.drew;refine⟨⟨o,k.os,k.tape,k.output,S.hK⟩,?_,?_⟩;have:=Own.new (e:=e) (G':=fun b=>F b\/H.size<=b) (w:=w.drew) (z:=z) (cap:=grownCap w (wt.length+ys.length) C e) (zs:=wt++ys) h.cells h.one aA (.inr (by rw[S.heap];exact dF _)) (by simpa using ak) ai;simpa using this;rw[(S.alloc _).heap];exact W.push _ _ _
 rcases h.ex with⟨rfl,rfl⟩|⟨g,E,cur,rfl,N,bP,aF,aB,aC,ah⟩;by_cases aw:ys.length=0;have ay:ys=[]:=lT aw;subst ay;refine⟨.slice none 0 0,H,w,?_,k,by simpa using h.imp (fun b _ N=> .inl N),W.refl _ _⟩;have he:(ByteArray.mk ([]:List UInt8).toArray).size=0:=rfl;simp only[execOp,O];simp[resolve,invoke,builtin,A.eval Y,A.eval R,Builtin.append_,run_underlying Q,run_underlying hu,sizeOf,typeInfo,K,Builtin.lenOf,Builtin.firstCells,aJ,he];simp only[ie,kv]at hm;have B:=run_append_nil_string (P:=P) w t u J.type e i z Q hu K ag (ByteArray.mk ys.toArray) I I (by rw[M,U];omega);rw[M,AJ]at B;have:=grown 0 _ bU o _ o;simp only[ie,kv,gw]at this;exact⟨_,_,_,by simp[execOp,O,resolve,invoke,builtin,A.eval Y,A.eval R,aJ,B],this.1,this.2.1,this.2.2⟩;obtain⟨fz,al,T⟩:=id bP;have V:w.heap[g]?=some (.cells cur e fz):=by rw[k.heap];exact al
 rw[m_]at aC ah;by_cases ax:wt.length+ys.length<=E;have B:=Ta (P:=P) (w:=w) (t:=t) (u:=u) J.type (e:=e) i Q hu K ae (g:=g) wt.length E (vq14z:=cur) (fz:=fz) V T (ByteArray.mk ys.toArray) I I;rw[M,Ke]at B;refine⟨.slice (some ⟨g,0,none⟩) (wt.length+ys.length) E,(w.setRow g (cur.toList.take wt.length++ys.flatMap a7++cur.toList.drop (wt.length+ys.length)).toArray).heap,w.setRow g (cur.toList.take wt.length++ys.flatMap a7++cur.toList.drop (wt.length+ys.length)).toArray,by simp[execOp,O,resolve,invoke,builtin,A.eval Y,A.eval R,aJ,B],⟨o,k.os,k.tape,k.output,k.hK⟩,⟨h.cells,h.one,.inr ⟨g,E,_,by rw[b2],.inl N,⟨fz,setRow_heap w g cur _ e _ V,T.1,fun i K=>T.2 i (by simp only[pK,b2,eC,h6,oT]at K;omega)⟩,by simpa using ax,aB,?_,?_⟩⟩,⟨by rw[<-k.heap];simp[World.setRow],fun b hb ar=>?_⟩⟩;simp only[pK,b2,eC,h6,oT];omega;rw[ah,b2,m_,j5];have:wt.length+ys.length=(wt.flatMap a7++ys.flatMap a7).length:=by rw[b2,av,X]
 rw[this];exact sr;rw[<-k.heap];exact setRow_other w g b _ fun e=>ar (e▸N);have holds:∀j c,(wt.flatMap a7)[j]?=some c->w.cell? ((⟨g,0,none⟩:Addr).add j)=some c:=h.rd.qN h.cells o k;have B:=Lib.run_append_grow_string (P:=P) w t u J.type e i z Q hu K ag ⟨g,0,none⟩ wt.length E (wt.flatMap a7) (by rw[X,ae,m_]) holds (ByteArray.mk ys.toArray) I I (by rw[M,U];exact growslice_fits I I);rw[M,Ke]at B;have:=grown E _ I o _ o;rw[j5,<-List.append_toArray]at this;exact⟨_,_,_,by simp[execOp,O,resolve,invoke,builtin,A.eval Y,A.eval R,aJ,B],this.1,this.2.1,this.2.2⟩
def Rd.N0{f:aP->List Value}{v:Value}{l:List aP}(h:Rd F H f n v l):v.cells.toList=[v]:=by
 obtain⟨a,cap,rfl,_⟩:=h.ex;rfl
structure aS {α:Type} (k:Nat) (e:TypeId) (H:Heap) (f:α->List Value) (sz:Nat) (v:Value) (l:List α):Prop where
 own:Own (fun b=>b+1=k) e H f sz v l
 le:k<=H.size
def aS.rd{e:TypeId}{f:aP->List Value}{v:Value}{l:List aP}(h:aS k e H f n v l):Rd (fun b=>b+1=k) H f n v l:=h.own.rd
def aS.len{e:TypeId}{f:aP->List Value}{v:Value}{l:List aP}(h:aS k e H f n v l):l.length<=9223372036854775807:=h.own.len
def aS.a6{e:TypeId}{f:aP->List Value}{v:Value}{l:List aP}(h:aS k e H f n v l):(ck v).v=v:=h.own.a6
def aS.up{e:TypeId}{f:aP->List Value}{v:Value}{l:List aP}(h:aS k e H f n v l)(s:W F H V)(r:∀b,b<H.size->b+1=k->¬F b):aS k e V f n v l:=⟨h.own.up s r,ev h.le s.size⟩
def aS.aL{e:TypeId}{f:aP->List Value}{v:Value}{l:List aP}(h:aS k e H f n v l)(s:an H V):aS k e V f n v l:=h.up s (fun _ _ _ e=>e)
def aS.nil{e:TypeId}{f:aP->List Value}(r:∀x,(f x).length=n)(k:∀x,∀u∈f x,u.oneCell'=true):aS 0 e H f n (.slice none 0 0) ([]:List aP):=⟨Own.nil r k,gH _⟩
def aS.of{e:TypeId}{f:aP->List Value}{v:Value}{l:List aP}(h:Own F e H f n v l):∃k,aS k e H f n v l/\(k=0\/∃g,k=g+1/\F g):=by
 rcases h.ex with⟨rfl,rfl⟩|⟨g,cap,cur,B,A,bP,r⟩;exact⟨0,⟨⟨h.cells,h.one,.inl ⟨o,o⟩⟩,gH _⟩,.inl o⟩;exact⟨g+1,⟨⟨h.cells,h.one,.inr ⟨g,cap,cur,B,o,bP,r⟩⟩,bP.lt⟩,.inr ⟨g,o,A⟩⟩
def aS.at{e:TypeId}{f:aP->List Value}{v:Value}{l:List aP}{j:Nat}(h:aS k e H f n v l)(r:j<l.length):jA v+1=k:=(h.own.at r).1
def aS.T{e:TypeId}{f:aP->List Value}{v:Value}{l:List aP}{j:Nat}(h:aS k e H f n v l)(r:j<l.length):cL H ⟨jA v,j*n,none⟩ (f l[j]):=h.own.T r
def ai(a b:Nat):Prop:=∀c,c+1=a->c+1≠b
def U(k h n:Nat):Prop:=n=0\/n=k\/h<n
def aq(ks:List Nat):Nat->Prop:=fun c=>c+1∈ks
def ak(a:Nat)(ks:List Nat):Prop:=∀k∈ks,ai a k
def aw(F:Nat->Prop)(k:Nat):Prop:=∀b,F b->b+1≠k
def bk(F:Nat->Prop)(h:Nat):Prop:=∀b,F b->b<h
def aB(F:Nat->Prop)(ks:List Nat):Prop:=∀k∈ks,aw F k
def ah(ks:List Nat)(h k:Nat):Prop:=∀b,b<h->b+1=k->aq ks b
def ag(ks:List Nat)(h:Nat)(fY:List Nat):Prop:=∀k∈fY,ah ks h k
def ai.symm{a b:Nat}(d:ai a b):ai b a:=fun c k n=>d c n k
def ai.new{a h:Nat}(r:a<=h):ai a (h+1):=fun c k n=>by omega
def ai.z{a:Nat}:ai a 0:=fun c k n=>by omega
def ai.z2{a:Nat}:ai 0 a:=fun c k n=>by omega
def ai.app{a h:Nat}(d:ai a k)(C:a<=h)(r:U k h n):ai a n:=fun c A B=>by
 rcases r with rfl|rfl|r;omega;exact d c A B;omega
def ai.ne{a b:Nat}(d:ai (a+1) (b+1)):a≠b:=fun e=>d a o (by rw[e])
def ai.of{a b:Nat}(d:a≠b):ai (a+1) (b+1):=fun c k n=>by omega
def pe{a b:Nat}(d : a≠b := by omega): ai (a+1) (b+1) := ai.of d
def U.refl(k h:Nat):U k h k:= .inr (.inl o)
def U.new{h k:Nat}(bP:h<=k):U 0 h (k+1):= .inr (.inr I)
def U.al{h r:Nat}(x:U k h n)(y:U n r vq7z)(bP:h<=r):U k h vq7z:=by
 unfold U at*;omega
def ak.nil{a:Nat}:ak a []:=fun k n=>by cases n
def ak.cons{a:Nat}(d:ai a k)(e:ak a vq33z):ak a (k::vq33z):=fun j n=>by
 rcases dI.1 n with rfl|n;exact d;exact e j n
def aB.nil:aB F []:=fun k n=>by cases n
def aB.cons(d:aw F k)(e:aB F vq33z):aB F (k::vq33z):=fun j n=>by
 rcases dI.1 n with rfl|n;exact d;exact e j n
def aw.new{h:Nat}(hb:bk F h):aw F (h+1):=fun b k n=>by have:=hb b k;omega
def aw.z:aw F 0:=fun b k n=>by omega
def aw.app{h:Nat}(d:aw F k)(hb:bk F h)(A:U k h n):aw F n:=fun b r B=>by
 have:=hb b r;rcases A with rfl|rfl|A;omega;exact d b r B;omega
def bk.of{h:Nat}(le:k<=h):bk (fun b=>b+1=k) h:=fun b e=>by simp only at e;omega
def aw.of{a:Nat}(d:ai a k):aw (fun b=>b+1=a) k:=fun b e=>d (b+1-1) (by simp only at e;omega)
def bk.mono{h k:Nat}(hb:bk F h)(bP:h<=k):bk F k:=fun b n=>jT (hb b n) bP
def ah.root{h:Nat}(hm:k∈vq33z):ah vq33z h k:=fun b _ n=>by unfold aq;rw[n];exact hm
def ah.z{h:Nat}:ah vq33z h 0:=fun b k n=>by omega
def ah.new{h k:Nat}(bP:h<=k):ah vq33z h (k+1):=fun b n r=>by omega
def ah.app{h r:Nat}(x:ah vq33z h k)(A:U k r n)(bP:h<=r):ah vq33z h n:=fun b B C=>by
 rcases A with rfl|rfl|A;omega;exact x b B C;omega
def ag.nil{h:Nat}:ag vq33z h []:=fun k n=>by cases n
def ag.cons{h:Nat}(d:ah vq33z h k)(e:ag vq33z h bQ):ag vq33z h (k::bQ):=fun j n=>by
 rcases dI.1 n with rfl|n;exact d;exact e j n
def W.md(s:W (fun b=>b+1=k) H V):W (aq [k]) H V:=s.weaken (fun b _ e=>by unfold aq;simp;exact e)
def W.eU{b:Nat}(s:W (fun g=>g=b) H V):W (aq [b+1]) H V:=s.weaken (fun c _ e=>by unfold aq;simp;exact e)
def W.nE(s:an H V)(ks:List Nat):W (aq ks) H V:=s.weaken (fun c _ e=>e.elim)
def W.nil(s:W (aq []) H V):an H V:=s.weaken (fun c _ e=>by cases e)
def W.bf{ks:List Nat}(x:W (aq ks) V H)(s:W (aq vq33z) H lx)(d:ag ks V.size vq33z):W (aq ks) V lx:=
 W.trans x s (fun _ _ e=>e) (fun b hb e=>d (b+1) e b hb o)
def W.DG(x:W (aq vq33z) V H)(s:an H lx):W (aq vq33z) V lx:=W.trans x s (fun _ _ e=>e) (fun _ _ e=>e.elim)
def aS.aA{a:Nat}{e:TypeId}{f:aP->List Value}{v:Value}{l:List aP}(x:aS a e H f n v l)(s:W (aq vq33z) H V)(d:ak a vq33z):aS a e V f n v l:=
 x.up s (fun b _ k r=>d (b+1) r b k o)
def Var.aA{b:Nat}{e:TypeId}{cs:List Value}(x:Var e H b cs)(s:W (aq vq33z) H V)(d:ak (b+1) vq33z):Var e V b cs:=x.up s (fun k=>d (b+1) k b o o)
def Rd.cD{f:aP->List Value}{v:Value}{l:List aP}(x:Rd F H f n v l):Rd (fun b=>F b/\b<H.size) H f n v l:=x.imp (fun b hb h=>⟨h,hb⟩)
def Rd.c7{h:Nat}{f:aP->List Value}{v:Value}{l:List aP}(x:Rd (fun b=>F b/\b<h) H f n v l):bk (fun b=>F b/\b<h) h:=fun b e=>e.2
def Rd.aA{f:aP->List Value}{v:Value}{l:List aP}(x:Rd F H f n v l)(s:W (aq vq33z) H V)(d:aB F vq33z):Rd F V f n v l:=
 x.up s (fun b _ k r=>d (b+1) r b k o)
structure jZ {α:Type} (k:Nat) (H:Heap) (f:α->List Value) (sz:Nat) (v:Value) (l:List α):Prop where
 rd:Rd (fun b=>b+1=k) H f sz v l
 le:k<=H.size
def jZ.aL{f:aP->List Value}{v:Value}{l:List aP}(h:jZ k H f n v l)(s:an H V):jZ k V f n v l:=⟨h.rd.aL s,ev h.le s.size⟩
def jZ.aA{f:aP->List Value}{v:Value}{l:List aP}(h:jZ k H f n v l)(s:W (aq vq33z) H V)(d:ak k vq33z):jZ k V f n v l:=⟨h.rd.up s (fun b _ r A=>d (b+1) A b r o),ev h.le s.size⟩
def aS.q{e:TypeId}{f:aP->List Value}{v:Value}{l:List aP}(h:aS k e H f n v l):jZ k H f n v l:=⟨h.rd,h.le⟩
def M.cast{w0:World}{l:az}{J:Oper}{v v2:Value}(h:M P w0 n l H J v)(e:v=v2):M P w0 n l H J v2:=e▸h
def bm.Bb{w0:World}{l:az}{J:Oper}{m:Bool}{d j:Nat}{b:Bool}(K:J.guard=some (j,b))(L:(aE[j]?).bind (·.dst)=some k)(aj:dh l k=some undef)(ab:J.dst=some d)(ar:Nat.blt d n=true)(h:bm m P w0 aE aZ n ((d,undef)::l) bY H):bm m P w0 aE aZ n l (J::bY) H:=by
 intro a w r F;have hw:Region.wanted J (yielded aE a.tmps)=false:=by
  have B:=r.get k _ aj;have C:(aE[j]?).bind (fun J=>J.dst)=some k:=L;have E:yielded aE a.tmps j=none:=by
   unfold yielded;rw[C];simp[B,undef]
  simp[Region.wanted,K,E]
 have A:=r.put ar undef;rw[<-ab]at A;have bP:=h _ w A F;cases m;simp only[ns]at bP⊢;unfold wpList;rw[au (by simp[hw])];exact bP;simp only[ns]at bP⊢;unfold wpStill;rw[au (by simp[hw])];exact bP
def Z.mono{w0:World}{l:az}{J:Oper}{k:Value->Heap->Prop}(h:Z P w0 n l H J R)(af:∀v aa,R v aa->k v aa):Z P w0 n l H J k:=by
 intro a w E C;obtain⟨v,aa,F,r,A,B⟩:=h a w E C;exact⟨v,aa,F,r,A,af _ _ B⟩
def S.mono{w0:World}{l:az}{J:Oper}{k:Heap->Prop}(h:S P w0 n l H J c3)(af:∀aa,c3 aa->k aa):S P w0 n l H J k:=by
 intro a w E C;obtain⟨aa,F,r,A,B⟩:=h a w E C;exact⟨aa,F,r,A,af _ B⟩
def Z.xd{w0:World}{l:az}{J:Oper}{e:TypeId}{f:aP->List Value}{v:Value}{ys:List aP}{s x:Operand}{t:TypeId}{u:Value}(h:aS k e H f vq7z v bW)(af:Rd F H f vq7z u ys)(M:J.op= .call {callee:= .builtin .append,args:= #[s,x],argTypes:= #[t,t]})(L:hQ P t e vq7z vq28z)(Y:aI l s=some v)(N:aI l x=some u)(hb:(bW.length+ys.length)*vq28z<=140737488355328)(hm:bW.length+ys.length<=9223372036854775807):
 Z P w0 n l H J (fun r aa=>∃A,aS A e aa f vq7z r (bW++ys)/\(A=0\/A=k\/H.size<A)/\W (fun b=>b+1=k) H aa):=
 (Z.append h.own af M L Y N hb hm).mono fun r aa ⟨B,C⟩=>by
  obtain⟨A,E,K⟩:=aS.of B;refine⟨A,E,?_,C⟩;rcases K with rfl|⟨g,rfl,O⟩;exact .inl o;omega
def dd{w0:World}{l:az}{J:Oper}{e:TypeId}{f:aP->List Value}{v:Value}{ys:List aP}{s x : Operand}{t : TypeId}{u : Value}(h : aS k e H f vq7z v bW)(af : Rd F H f vq7z u ys)(B : hQ P t e vq7z vq28z)(hb : (bW.length+ys.length)*vq28z<=140737488355328)(hm : bW.length+ys.length<=9223372036854775807)(C : J.op= .call {callee:= .builtin .append,args:= #[s,x],argTypes:= #[t,t]} := by exact rfl)(Y : aI l s=some v := by exact rfl)(E : aI l x=some u := by exact rfl): Z P w0 n l H J (fun r aa=>∃A,aS A e aa f vq7z r (bW++ys)/\(A=0\/A=k\/H.size<A)/\W (fun b=>b+1=k) H aa) := Z.xd h af C B Y E hb hm
def Z.xe{w0:World}{l:az}{J:Oper}{e:TypeId}{v:Value}{ys:List UInt8}{s x:Operand}{t u:TypeId}(h:aS k e H a7 1 v wt)(L:J.op= .call {callee:= .builtin .append,args:= #[s,x],argTypes:= #[t,u]})(K:hQ P t e 1 1)(hu:P.underlying u=some .string)(Y:aI l s=some v)(M:aI l x=some (aJ ys))(hm:wt.length+ys.length<=140737488355328):
 Z P w0 n l H J (fun r aa=>∃A,aS A e aa a7 1 r (wt++ys)/\(A=0\/A=k\/H.size<A)/\W (fun b=>b+1=k) H aa):=
 (Z.LK h.own L K hu Y M hm).mono fun r aa ⟨B,C⟩=>by
  obtain⟨A,E,F⟩:=aS.of B;refine⟨A,E,?_,C⟩;rcases F with rfl|⟨g,rfl,N⟩;exact .inl o;omega
def aS.new{e:TypeId}{f:aP->List Value}{v:Value}{c:Obj}(k:∀b,F b->b=H.size)(h:Own F e V f n v bW)(aj:V=H.push c):aS (H.size+1) e V f n v bW:=
 ⟨h.imp (fun b _ hb=>by rw[k b hb]),by rw[aj];simp⟩
def Z.HE{w0:World}{l:az}{J:Oper}{e:TypeId}{f:aP->List Value}{t:TypeId}{parts:List (Nat×Operand)}(vs:List Value)(zs:List aP)(N:J.op= .buildSlice t k parts.toArray)(F:hQ P t e vq7z vq28z)(O:jb l (parts.map (·.2))=some vs)(E:parts.map (·.1)=List.range k)(K:vs.length=k)(M:k*vq7z<=16777216)(L:k<=16777216)(aj:∀x,(f x).length=vq7z)(A:∀x,∀u∈f x,u.oneCell'=true)(Q:vs.map (fun v=>v.cells.toList)=zs.map f):
 Z P w0 n l H J (fun r aa=>aS (H.size+1) e aa f vq7z r zs/\an H aa/\∃c,aa=H.push c):=
 (Z.lit vs zs N F O E K M L aj A Q).mono fun r aa ⟨A,C,c,B⟩=>⟨aS.new (fun _ e=>e) A B,C,c,B⟩
def c5{w0:World}{l:az}{J:Oper}{e:TypeId}{f:aP->List Value}{t : TypeId}{parts : List (Nat×Operand)}(vs : List Value)(zs : List aP)(C : hQ P t e vq7z vq28z)(aj : ∀x,(f x).length=vq7z)(A : ∀x,∀u∈f x,u.oneCell'=true)(L : J.op= .buildSlice t k parts.toArray := by exact rfl)(M : jb l (parts.map (·.2))=some vs := by exact rfl)(B : parts.map (·.1)=List.range k := by exact rfl)(E : vs.length=k := by exact rfl)(K : k*vq7z<=16777216 := by decide)(F : k<=16777216 := by decide)(N : vs.map (fun v=>v.cells.toList)=zs.map f := by exact rfl): Z P w0 n l H J (fun r aa=>aS (H.size+1) e aa f vq7z r zs/\an H aa/\∃c,aa=H.push c) := Z.HE vs zs L C M B E K F aj A N
def Z.QI{w0:World}{l:az}{J:Oper}{f:aP->List Value}{t e:TypeId}{x c:Operand}{R:IntKind}{z:Value}(k:Nat)(z0:aP)(M:J.op= .makeSlice t x c)(F:hQ P t e vq7z vq28z)(O:∀w,(zeroValue e).run P w= .ok z w)(Q:f z0=z.cells.toList)(aj:∀x,(f x).length=vq7z)(A:∀x,∀u∈f x,u.oneCell'=true)(N:aI l x=some (.int cI vq24z))(E:aI l c=some (.int R vq24z))(K:vq24z=k)(hb:(vq28z:Int)*k<=281474976710656)(L:k<=9223372036854775807):
 Z P w0 n l H J (fun r aa=>aS (H.size+1) e aa f vq7z r (List.replicate k z0)/\an H aa/\∃S,aa=H.push S):=
 (Z.makeSlice k z0 M F O Q aj A N E K hb L).mono fun r aa ⟨A,C,c,B⟩=>⟨aS.new (fun _ e=>e) A B,C,c,B⟩
def Z.zw{w0:World}{l:az}{J:Oper}{x:Operand}{t u e:TypeId}{s:List UInt8}(C:J.op= .convert t u x)(E:P.underlying t=some rW)(hu:P.underlying u=some (.slice e))(he:P.underlying e=some (.int .u8))(F:aI l x=some (aJ s))(hb:s.length<=9223372036854775807):
 Z P w0 n l H J (fun r aa=>aS (H.size+1) e aa a7 1 r s/\an H aa/\aa.size=H.size+1):=
 (Z.T8 C E hu he F hb).mono fun r aa ⟨A,B,k⟩=>⟨⟨A.imp (fun b _ hb=>by rw[hb]),by rw[k];exact dF _⟩,B,k⟩
def M.y1{w0:World}{l:az}{J:Oper}{e:TypeId}{f:aP->List Value}{v:Value}{x i:Operand}{t:TypeId}(h:aS k e H f vq7z v bW)(j:Nat)(C:J.op= .indexAddr t x i)(E:∀w,(underlying t).run P w= .ok (.slice e) w)(Y:∀w,(sizeOf e).run P w= .ok vq7z w)(F:aI l x=some v)(r:aI l i=some (.int cI vq24z))(A:vq24z=j)(B:j<bW.length):M P w0 n l H J (.pointer (some ⟨jA v,j*vq7z,none⟩)):=M.RI h.own j C E Y F r A B
def jP{w0:World}{l:az}{J:Oper}{e:TypeId}{f:aP->List Value}{v:Value}{x i : Operand}{t : TypeId}(h : aS k e H f vq7z v bW)(j : Nat)(E : ∀w,(underlying t).run P w= .ok (.slice e) w)(Y : ∀w,(sizeOf e).run P w= .ok vq7z w)(C : J.op= .indexAddr t x i := by exact rfl)(F : aI l x=some v := by exact rfl)(r : aI l i=some (.int cI vq24z) := by exact rfl)(A : vq24z=j := by first|rfl|omega)(B : j<bW.length := by first|omega|(simp;omega)|·simp): M P w0 n l H J (.pointer (some ⟨jA v,j*vq7z,none⟩)) := M.y1 h j C E Y F r A B
def M.RG{w0:World}{l:az}{J:Oper}{e:TypeId}{f:aP->List Value}{v:Value}{x B:Operand}{t:TypeId}(h:aS k e H f vq7z v bW)(j:Nat)(T:J.op= .slice t x none (some B) none)(U:∀w,(underlying t).run P w= .ok (.slice gS) w)(Y:∀w,(sizeOf gS).run P w= .ok vq7z w)(V:aI l x=some v)(Q:aI l B=some (.int cI vq24z))(S:vq24z=j)(r:j<=bW.length):∃N,(∀aa,M P w0 n l aa J N)/\aS k e H f vq7z N (bW.take j):=by
 have run:∀(a:Option Addr) (len cap:Nat),v= .slice a len cap->j<=len->len<=cap->(∀ad,a=some ad->ad.spot=none)->∀aa,M P w0 n l aa J (.slice a j cap):=by
  rintro a len cap rfl X A F aa ac w K Z;have bc:∀w,(Instr.sliceBounds true len cap none (some (ac.eval B)) none).run P w= .ok (0,j,cap) w:=by
   intro w;have bM:j<=cap:=by omega
   subst S;simp[Instr.sliceBounds,Instr.sliceBound,asIntOf,K.eval Q, *]
  have O:(if cap=0 then a else a.map (·.add (0*vq7z)))=a:=by
   cases a with
   |none=>simp
   |some ad=>simp[add_eq (F ad o)];intro _;obtain⟨b,J,s⟩:=ad;have:=F _ o;simp at this;rw[this]
  have E:=O;simp only[vz]at E;simp[execOp,T,K.eval V,Instr.sliceAt,Instr.slice,U,Y,bc,E]
 rcases h.own.ex with⟨rfl,rfl⟩|⟨g,cap,cur,C,ae,bP,W,ag,ah,ai⟩;refine⟨.slice none j 0,run none 0 0 o (by simpa using r) (dF _) (fun ad e=>by cases e),?_⟩;have:j=0:=by simpa using r
 subst this;simpa using h;refine⟨.slice (some ⟨g,0,none⟩) j cap,run _ _ _ C r W (fun ad e=>by rw[<-mG e]),⟨?_,h.le⟩⟩;by_cases L:bW=[];subst L;have R:j=0:=by simpa using r
 subst R;have:=h.own;rw[C]at this;simpa using this;have A:=h.own;rw[C]at A;exact A.front r L
def S.RM{w0:World}{l:az}{J:Oper}{e:TypeId}{f:aP->List Value}{v:Value}{x y:Operand}{t:TypeId}{c:Value}(h:aS k e H f vq7z v bW)(j i:Nat)(z:aP)(E:J.op= .store t x y)(F:aI l x=some (.pointer (some ⟨jA v,j*vq7z+i,none⟩)))(hy:aI l y=some c)(r:c.oneCell'=true)(Y:∀w,(sizeOf t).run P w= .ok 1 w)(B:j<bW.length)(C:i<vq7z)(K:f z=(f bW[j]).set i c):S P w0 n l H J (fun aa=>aS k e aa f vq7z v (bW.set j z)/\W (fun b=>b+1=k) H aa):=
 (S.own h.own j i z E F hy r Y B C K).mono fun aa ⟨r,A⟩=>⟨⟨r,ev h.le A.size⟩,A.weaken (fun b _ e=>by have:=h.at B;omega)⟩
def S.CD{w0:World}{l:az}{J:Oper}{e:TypeId}{f:aP->List Value}{v:Value}{x y:Operand}{t:TypeId}{c:Value}{m:Nat}(h:aS k e H f vq7z v bW)(j i:Nat)(z:aP)(vs:List Value)(E:J.op= .store t x y)(F:aI l x=some (.pointer (some ⟨jA v,j*vq7z+i,none⟩)))(hy:aI l y=some c)(aj:c.cells.toList=vs)(r:∀u∈vs,u.oneCell'=true)(Y:∀w,(sizeOf t).run P w= .ok m w)(hm:vs.length=m)(B:j<bW.length)(C:i+m<=vq7z)(K:f z=eD (f bW[j]) i vs):S P w0 n l H J (fun aa=>aS k e aa f vq7z v (bW.set j z)/\W (fun b=>b+1=k) H aa):=
 (S.RJ h.own j i z vs E F hy aj r Y hm B C K).mono fun aa ⟨r,A⟩=>⟨⟨r,ev h.le A.size⟩,A.weaken (fun b _ e=>by have:=h.at B;omega)⟩
def M.peq{w0:World}{l:az}{J:Oper}{x y:Operand}{t u:TypeId}{p:Option Addr}(r:J.op= .binOp .eql t x y u)(A:P.underlying t=some (.pointer (P.pointee t)))(hm:P.eqGuardType P.depth t=false)(B:aI l x=some (.pointer p))(hy:aI l y=some (.pointer none)):M P w0 n l H J (.bool p.isNone):=by
 intro a w k C;have h:=run_equal_pointer_nil (w:=w) t p A;simp[execOp,r,k.eval B,k.eval hy,binOp,eqGuard,h]
def nN{w0:World}{l:az}{J:Oper}{x y : Operand}{t u : TypeId}{p : Option Addr}(k : J.op= .binOp .eql t x y u := by exact rfl)(r : P.underlying t=some (.pointer (P.pointee t)) := by kernel_rfl)(hm : P.eqGuardType P.depth t=false := by kernel_rfl)(A : aI l x=some (.pointer p) := by exact rfl)(hy : aI l y=some (.pointer none) := by exact rfl): M P w0 n l H J (.bool p.isNone) := M.peq k r hm A hy
def M.uh{w0:World}{l:az}{J:Oper}{x y:Operand}{t u:TypeId}{p:Option Addr}(r:J.op= .binOp .neq t x y u)(A:P.underlying t=some (.pointer (P.pointee t)))(hm:P.eqGuardType P.depth t=false)(B:aI l x=some (.pointer p))(hy:aI l y=some (.pointer none)):M P w0 n l H J (.bool p.isSome):=by
 intro a w k C;have h:=run_equal_pointer_nil (w:=w) t p A;simp[execOp,r,k.eval B,k.eval hy,binOp,eqGuard,h]
def M.zm{w0:World}{l:az}{J:Oper}{x y:Operand}{t u e:TypeId}{p:Option Addr}{c:Nat}(A:J.op= .binOp .eql t x y u)(B:P.underlying t=some (.slice e))(C:aI l x=some (.slice p k c))(hy:aI l y=some (.slice none 0 0)):M P w0 n l H J (.bool p.isNone):=by
 intro a w r E;have h:=run_equal_slice_nil (w:=w) t e p k c B;simp[execOp,A,r.eval C,r.eval hy,binOp,eqGuard,h]
def Z.xi{w0:World}{l:az}{J:Oper}{x:Operand}{t e:TypeId}{v:Value}(h:aS k e H a7 1 v wt)(S:wt≠[])(T:J.op= .convert t t x)(ag:P.underlying t=some (.slice e))(he:P.underlying e=some (.int .u8))(ah:aI l x=some v):
 Z P w0 n l H J (fun r aa=>r=v/\aS k e aa a7 1 v wt/\W (fun b=>b+1=k) H aa):=by
 intro a w L A;rcases h.own.ex with⟨rfl,rfl⟩|⟨g,cap,cur,K,N,bP,ai,ak,al,aq⟩;exact absurd o S;obtain⟨⟨B,C⟩,bP,V,E⟩:=bP;simp only at V E;have hw:w.heap[g]?=some (.cells cur e (B,C)):=by rw[A.heap];exact bP
 have X:w.shape? g=some (e,cur.size):=by unfold World.shape?;rw[hw]
 have U:(execOp a.eval J).run P w= .ok (.value v) (w.freeze ⟨g,cur.size,none⟩ 1):=by
  simp[execOp,T,L.eval ah,K,convert,run_underlying ag,run_underlying he,markStringish,X]
 have M:(w.freeze ⟨g,cur.size,none⟩ 1).heap[g]?=some (.cells cur e (if B==C then(cur.size,cur.size+1)else(min B cur.size,max C (cur.size+1)))):=by
  unfold World.freeze;rw[au aO];simp[Array.getElem?_modify,hw]
 have R:W (fun b=>b+1=k) H (w.freeze ⟨g,cur.size,none⟩ 1).heap:=by
  unfold World.freeze;rw[au aO];refine⟨by simp[A.heap],fun b hb av=>?_⟩;simp only[Array.getElem?_modify,A.heap];rw[au I]
 have ae:(w.freeze ⟨g,cur.size,none⟩ 1).heap.size=H.size:=by
  unfold World.freeze;rw[au aO];simp[A.heap]
 refine⟨v,_,_,U,⟨o,?_,?_,?_,?_⟩,o,⟨⟨h.own.cells,h.own.one,.inr ⟨g,cap,cur,K,N,⟨_,M,?_⟩,ai,ak,al,aq⟩⟩,by rw[ae];exact h.le⟩,R⟩;have:=A.os;unfold World.freeze;rw[au aO];exact this;have:=A.tape;unfold World.freeze;rw[au aO];exact this;have:=A.output;unfold World.freeze;rw[au aO];exact this;have:=A.hK;unfold World.freeze;rw[au aO];exact this;by_cases F:B=C;subst F;simp only[beq_self_eq_true,if_true];refine⟨by simp only;omega,fun i O aj=>?_⟩;simp only at aj;omega;rw[au (by simpa using F)];refine⟨by simp only;omega,fun i O aj=>?_⟩;simp only at aj;have:=E B;by_cases Q:B<cur.size;have:=E B Q;omega;omega
def aw.k5(r:∀b,F b->n<=b)(A:k<=n):aw F k:=fun b h e=>by have:=r b h;omega
structure nu (F:Nat->Prop) (H:Heap) (ad:Addr) (cs:List Value):Prop where
 T:cL H ad cs
 f:F ad.block
def nu.aL{cs:List Value}(h:nu F H bL cs)(s:an H V):nu F V bL cs:=⟨h.T.aL s,h.f⟩
def nu.aA{cs:List Value}(h:nu F H bL cs)(s:W (aq vq33z) H V)(d:aB F vq33z):nu F V bL cs:=⟨h.T.up s (fun e=>d _ e _ h.f o),h.f⟩
def M.rk{w0:World}{l:az}{J:Oper}{f:aP->List Value}{v:Value}{x i:Operand}{t e:TypeId}(h:Rd F H f vq7z v bW)(j:Nat)(O:J.op= .indexAddr t x i)(Q:∀w,(underlying t).run P w= .ok (.slice e) w)(Y:∀w,(sizeOf e).run P w= .ok vq7z w)(R:aI l x=some v)(L:aI l i=some (.int cI vq24z))(N:vq24z=j)(k:j<bW.length):∃ad,(∀aa,M P w0 n l aa J (.pointer (some ad)))/\nu F H ad (f bW[j]):=by
 obtain⟨a,cap,rfl,S,T,K⟩:=h.ex;obtain⟨ad,rfl,A,B,C,E⟩:=K (by intro e;subst e;simp at k);subst N;refine⟨_,?_,E j bW[j] (by simp[k]),by first|exact B|exact C⟩;intro aa ac w r U;simp[execOp,O,r.eval R,r.eval L,Instr.indexAt,asIntOf,Q,Y,k,add_eq A]
class cO (p:Prop) (H aa:Heap) (q:outParam Prop):Prop where
 aL:an H aa->p->q
class cP (p:Prop) (H aa:Heap) (q:outParam Prop) (E:outParam (Nat->Prop)):Prop where
 up:∀{k:Nat},W (aq [k]) H aa->p->E k->q
class jQ (S:Nat->Prop) (k:outParam Nat):Prop where
 h:∀b,S b->b+1=k
def ak.J{a:Nat}(d:ai a k):ak a [k]:=ak.cons d ak.nil
def aB.J(d:aw F k):aB F [k]:=aB.cons d aB.nil
def ag.J{h:Nat}(d:ah vq33z h k):ag vq33z h [k]:=ag.cons d ag.nil
instance{e:TypeId}{b:Nat}{cs:List Value}:cO (Var e H b cs) H V (Var e V b cs):=⟨fun s h=>h.aL s⟩
instance{e:TypeId}{f:aP->List Value}{a:Nat}{v:Value}{l:List aP}:cO (aS a e H f n v l) H V (aS a e V f n v l):=⟨fun s h=>h.aL s⟩
instance{f:aP->List Value}{a:Nat}{v:Value}{l:List aP}:cO (jZ a H f n v l) H V (jZ a V f n v l):=⟨fun s h=>h.aL s⟩
instance{f:aP->List Value}{v:Value}{l:List aP}:cO (Rd F H f n v l) H V (Rd F V f n v l):=⟨fun s h=>h.aL s⟩
instance{cs:List Value}:cO (nu F H bL cs) H V (nu F V bL cs):=⟨fun s h=>h.aL s⟩
instance:cO (W F V H) H lx (W F V lx):=⟨fun s h=>W.trans h s (fun _ _ e=>e) (fun _ _ e=>e.elim)⟩
instance:cO (an V H) H lx (an V lx):=⟨fun s h=>an.al h s⟩
instance {H aa:Heap}{β:Sort _}{p q:β->Prop}[h:∀a,cO (p a) H aa (q a)]:cO (∀a,p a) H aa (∀a,q a):=⟨fun s x a=>(h a).aL s (x a)⟩
instance{e:TypeId}{b:Nat}{cs:List Value}:cP (Var e H b cs) H V (Var e V b cs) (ai (b+1)):=⟨fun s h d=>h.aA s (ak.J d)⟩
instance{e:TypeId}{f:aP->List Value}{a:Nat}{v:Value}{l:List aP}:cP (aS a e H f n v l) H V (aS a e V f n v l) (ai a):=⟨fun s h d=>h.aA s (ak.J d)⟩
instance{f:aP->List Value}{a:Nat}{v:Value}{l:List aP}:cP (jZ a H f n v l) H V (jZ a V f n v l) (ai a):=⟨fun s h d=>h.aA s (ak.J d)⟩
instance{f:aP->List Value}{v:Value}{l:List aP}:cP (Rd F H f n v l) H V (Rd F V f n v l) (aw F):=⟨fun s h d=>h.aA s (aB.J d)⟩
instance{cs:List Value}:cP (nu F H bL cs) H V (nu F V bL cs) (aw F):=⟨fun s h d=>h.aA s (aB.J d)⟩
instance:cP (W (aq vq33z) V H) H lx (W (aq vq33z) V lx) (ah vq33z V.size):=⟨fun s h d=>h.bf s (ag.J d)⟩
instance:cP (an V H) H lx (an V lx) (U 0 V.size):=⟨fun s h d=>(W.bf (ks:=[]) (h.nE []) s (ag.J (ah.app ah.z d (dF _)))).nil⟩
instance {H aa:Heap}{β:Sort _}{p q:β->Prop}{E:Nat->Prop}[h:∀a,cP (p a) H aa (q a) E]:cP (∀a,p a) H aa (∀a,q a) E:=⟨fun s x d a=>(h a).up s (x a) d⟩
instance{b:Nat}:jQ (fun c=>c=b) (b+1):=⟨fun _ h=>by rw[h]⟩
instance:jQ (fun c=>c+1=k) k:=⟨fun _ h=>h⟩
instance:jQ (aq [k]) k:=⟨fun _ h=>fm.1 h⟩
def jQ.ms{S:Nat->Prop}{k:Nat}[jQ S k](s:W S H V):W (aq [k]) H V:=s.weaken (fun b _ h=>fm.2 (jQ.h b h))
def cv{H aa:Heap}{k n:Prop}(s:an H aa)[cO k H aa n](bq:k):n/\H.size<=aa.size:=⟨cO.aL s bq,s.size⟩
def bG{H aa:Heap}{k n r A:Prop}(s:an H aa)[cO k H aa r][cO n H aa A](bq:k)(a2:n):r/\A/\H.size<=aa.size:=⟨cO.aL s bq,cO.aL s a2,s.size⟩
def cg{H aa:Heap}{k n r A B C:Prop}(s:an H aa)[cO k H aa A][cO n H aa B][cO r H aa C](bq:k)(a2:n)(a3:r):A/\B/\C/\H.size<=aa.size:=⟨cO.aL s bq,cO.aL s a2,cO.aL s a3,s.size⟩
def dZ{H aa:Heap}{k n r A B C E F:Prop}(s:an H aa)[cO k H aa B][cO n H aa C][cO r H aa E][cO A H aa F](bq:k)(a2:n)(a3:r)(a4:A):B/\C/\E/\F/\H.size<=aa.size:=⟨cO.aL s bq,cO.aL s a2,cO.aL s a3,cO.aL s a4,s.size⟩
def d_{H aa:Heap}{k n r A B C E F K L:Prop}(s:an H aa)[cO k H aa C][cO n H aa E][cO r H aa F][cO A H aa K][cO B H aa L](bq:k)(a2:n)(a3:r)(a4:A)(a5:B):C/\E/\F/\K/\L/\H.size<=aa.size:=⟨cO.aL s bq,cO.aL s a2,cO.aL s a3,cO.aL s a4,cO.aL s a5,s.size⟩
def f_{H aa:Heap}{k n r A B C E F K L M N:Prop}(s:an H aa)[cO k H aa E][cO n H aa F][cO r H aa K][cO A H aa L][cO B H aa M][cO C H aa N](bq:k)(a2:n)(a3:r)(a4:A)(a5:B)(O:C):E/\F/\K/\L/\M/\N/\H.size<=aa.size:=⟨cO.aL s bq,cO.aL s a2,cO.aL s a3,cO.aL s a4,cO.aL s a5,cO.aL s O,s.size⟩
def ja{H aa:Heap}{k n r A B C E F K L M N O P:Prop}(s:an H aa)[cO k H aa F][cO n H aa K][cO r H aa L][cO A H aa M][cO B H aa N][cO C H aa O][cO E H aa P](bq:k)(a2:n)(a3:r)(a4:A)(a5:B)(Q:C)(R:E):F/\K/\L/\M/\N/\O/\P/\H.size<=aa.size:=⟨cO.aL s bq,cO.aL s a2,cO.aL s a3,cO.aL s a4,cO.aL s a5,cO.aL s Q,cO.aL s R,s.size⟩
def hr{H aa:Heap}{k n r A B C E F K L M N O P Q R:Prop}(s:an H aa)[cO k H aa K][cO n H aa L][cO r H aa M][cO A H aa N][cO B H aa O][cO C H aa P][cO E H aa Q][cO F H aa R](bq:k)(a2:n)(a3:r)(a4:A)(a5:B)(S:C)(T:E)(U:F):K/\L/\M/\N/\O/\P/\Q/\R/\H.size<=aa.size:=⟨cO.aL s bq,cO.aL s a2,cO.aL s a3,cO.aL s a4,cO.aL s a5,cO.aL s S,cO.aL s T,cO.aL s U,s.size⟩
def cz{S:Nat->Prop}{k:Nat}{H aa:Heap}{r A:Prop}{n:Nat->Prop}[jQ S k](s:W S H aa)[cP r H aa A n](bq:r)(d1:n k):A/\H.size<=aa.size:=have s:=jQ.ms s;⟨cP.up s bq d1,s.size⟩
def de{S:Nat->Prop}{k:Nat}{H aa:Heap}{A B C E:Prop}{n r:Nat->Prop}[jQ S k](s:W S H aa)[cP A H aa C n][cP B H aa E r](bq:A)(d1:n k)(a2:B)(d2:r k):C/\E/\H.size<=aa.size:=have s:=jQ.ms s;⟨cP.up s bq d1,cP.up s a2 d2,s.size⟩
def dg{S:Nat->Prop}{k:Nat}{H aa:Heap}{B C E F K L:Prop}{n r A:Nat->Prop}[jQ S k](s:W S H aa)[cP B H aa F n][cP C H aa K r][cP E H aa L A](bq:B)(d1:n k)(a2:C)(d2:r k)(a3:E)(d3:A k):F/\K/\L/\H.size<=aa.size:=have s:=jQ.ms s;⟨cP.up s bq d1,cP.up s a2 d2,cP.up s a3 d3,s.size⟩
def dx{S:Nat->Prop}{k:Nat}{H aa:Heap}{C E F K L M N O:Prop}{n r A B:Nat->Prop}[jQ S k](s:W S H aa)[cP C H aa L n][cP E H aa M r][cP F H aa N A][cP K H aa O B](bq:C)(d1:n k)(a2:E)(d2:r k)(a3:F)(d3:A k)(a4:K)(d4:B k):L/\M/\N/\O/\H.size<=aa.size:=have s:=jQ.ms s;⟨cP.up s bq d1,cP.up s a2 d2,cP.up s a3 d3,cP.up s a4 d4,s.size⟩
def fT{S:Nat->Prop}{k:Nat}{H aa:Heap}{E F K L M N O P Q R:Prop}{n r A B C:Nat->Prop}[jQ S k](s:W S H aa)[cP E H aa N n][cP F H aa O r][cP K H aa P A][cP L H aa Q B][cP M H aa R C](bq:E)(d1:n k)(a2:F)(d2:r k)(a3:K)(d3:A k)(a4:L)(d4:B k)(a5:M)(d5:C k):N/\O/\P/\Q/\R/\H.size<=aa.size:=have s:=jQ.ms s;⟨cP.up s bq d1,cP.up s a2 d2,cP.up s a3 d3,cP.up s a4 d4,cP.up s a5 d5,s.size⟩
def kG{S:Nat->Prop}{k:Nat}{H aa:Heap}{F K L M N O P Q R T U V:Prop}{n r A B C E:Nat->Prop}[jQ S k](s:W S H aa)[cP F H aa P n][cP K H aa Q r][cP L H aa R A][cP M H aa T B][cP N H aa U C][cP O H aa V E](bq:F)(d1:n k)(a2:K)(d2:r k)(a3:L)(d3:A k)(a4:M)(d4:B k)(a5:N)(d5:C k)(X:O)(d6:E k):P/\Q/\R/\T/\U/\V/\H.size<=aa.size:=have s:=jQ.ms s;⟨cP.up s bq d1,cP.up s a2 d2,cP.up s a3 d3,cP.up s a4 d4,cP.up s a5 d5,cP.up s X d6,s.size⟩
def pc{S:Nat->Prop}{k:Nat}{H aa:Heap}{K L M N O P Q R T U V X Z ae:Prop}{n r A B C E F:Nat->Prop}[jQ S k](s:W S H aa)[cP K H aa R n][cP L H aa T r][cP M H aa U A][cP N H aa V B][cP O H aa X C][cP P H aa Z E][cP Q H aa ae F](bq:K)(d1:n k)(a2:L)(d2:r k)(a3:M)(d3:A k)(a4:N)(d4:B k)(a5:O)(d5:C k)(ag:P)(d6:E k)(ah:Q)(d7:F k):R/\T/\U/\V/\X/\Z/\ae/\H.size<=aa.size:=have s:=jQ.ms s;⟨cP.up s bq d1,cP.up s a2 d2,cP.up s a3 d3,cP.up s a4 d4,cP.up s a5 d5,cP.up s ag d6,cP.up s ah d7,s.size⟩
def kH{S:Nat->Prop}{k:Nat}{H aa:Heap}{L M N O P Q R T U V X Z ae ag ah ai:Prop}{n r A B C E F K:Nat->Prop}[jQ S k](s:W S H aa)[cP L H aa U n][cP M H aa V r][cP N H aa X A][cP O H aa Z B][cP P H aa ae C][cP Q H aa ag E][cP R H aa ah F][cP T H aa ai K](bq:L)(d1:n k)(a2:M)(d2:r k)(a3:N)(d3:A k)(a4:O)(d4:B k)(a5:P)(d5:C k)(ak:Q)(d6:E k)(al:R)(d7:F k)(aq:T)(d8:K k):U/\V/\X/\Z/\ae/\ag/\ah/\ai/\H.size<=aa.size:=have s:=jQ.ms s;⟨cP.up s bq d1,cP.up s a2 d2,cP.up s a3 d3,cP.up s a4 d4,cP.up s a5 d5,cP.up s ak d6,cP.up s al d7,cP.up s aq d8,s.size⟩
inductive hi where
 |e1 (y:Code)
 |aT (i:Nat)
 |qS
 |iZ (bZ:Act->World->Prop)
 |dc (J:Array Oper) (r:List Oper)
variable{ee eR:List hi}
inductive fp where
 |co (c:Code)
 |op (m:Bool) (J:Array Oper) (r:List Oper)
 |cx
 |mr (i:Nat)
 |rt
def fM(P:Program)(k:Exit->Act->World->Prop):List hi->Exit->Act->World->Prop
 |[]=>k
 | .e1 y::S=>Exit.then (y.wp P (fM P k S)) (fM P k S)
 | .aT i::S=>Exit.inBlock i (fM P k S)
 | .qS::S=>Exit.noGoto (fM P k S)
 | .iZ bZ::S=>Exit.then bZ (fM P k S)
 | .dc J r::S=>Exit.then (wpList P J (fM P k S) r) (fM P k S)
def G(P:Program)(w0:World)(k:Exit->Act->World->Prop)(n:Nat)(S:List hi)(x:fp)(l:az)(H:Heap):Prop:=match x with
 | .co c=>b6 P w0 (fM P k S) n l c H
 | .op m J r=>bm m P w0 J (fM P k S) n l r H
 | .cx=>jy w0 (fM P k S) n l H
 | .mr i=>kq w0 (fM P k S) (.exit i) n l H
 | .rt=>kq w0 (fM P k S) .ret n l H
def nth{α:Type}:List α->Nat->Option α
 |[],_=>none
 |x::_,0=>some x
 |_::r,k+1=>nth r k
def uc{α:Type}:∀(l:List α) (k:Nat),nth l k=l[k]?
 |[],_=>rfl
 |_::_,0=>rfl
 |_::r,k+1=>by rw[nth,List.getElem?_cons_succ];exact uc r k
def rj:IntKind->IntKind->Bool
 | .i64,.i64=>true
 | .u8,.u8=>true
 | .u32,.u32=>true
 | .u64,.u64=>true
 | .i32,.i32=>true
 | .u16,.u16=>true
 |_,_=>false
def PM:∀{a b:IntKind},rj a b=true->a=b:=by intro a b;cases a<;>cases b<;>simp[rj]
def DE(l:az):Op->Option Value
 | .move x=>aI l x
 | .assign x=>aI l x
 | .nilCheck x=>match aI l x with
   |some (.pointer (some ad))=>some (.pointer (some ad))
   |_=>none
 | .pick c x y=>match aI l c with
   |some (.bool true)=>aI l x
   |some (.bool false)=>aI l y
   |_=>none
 | .extract x k=>match aI l x with
   |some (.tuple vs)=>nth vs.toList k
   |_=>none
 | .binOp b _ x y _=>match b with
   | .lss=>match aI l x,aI l y with
     |some (.int k a),some (.int n c)=>match rj k n with
      |true=>some (.bool (decide (a<c)))
      |false=>none
     |_,_=>none
   | .leq=>match aI l x,aI l y with
     |some (.int k a),some (.int n c)=>match rj k n with
      |true=>some (.bool (decide (a<=c)))
      |false=>none
     |_,_=>none
   | .gtr=>match aI l x,aI l y with
     |some (.int k a),some (.int n c)=>match rj k n with
      |true=>some (.bool (decide (c<a)))
      |false=>none
     |_,_=>none
   | .geq=>match aI l x,aI l y with
     |some (.int k a),some (.int n c)=>match rj k n with
      |true=>some (.bool (decide (c<=a)))
      |false=>none
     |_,_=>none
   | .eql=>match aI l x,aI l y with
     |some (.int k a),some (.int n c)=>match rj k n with
      |true=>some (.bool (decide (a=c)))
      |false=>none
     |_,_=>none
   | .neq=>match aI l x,aI l y with
     |some (.int k a),some (.int n c)=>match rj k n with
      |true=>some (.bool (decide (a≠c)))
      |false=>none
     |_,_=>none
   |_=>none
 |_=>none
def rf(ops:Array Oper)(l:az)(J:Oper):Option Bool:=match J.guard with
 |none=>some true
 |some (j,b)=>match nth ops.toList j with
  |none=>none
  |some p=>match p.dst with
   |none=>none
   |some e=>match dh l e with
    |some (.bool c)=>match c,b with
     |true,true=>some true
     |true,false=>some false
     |false,true=>some false
     |false,false=>some true
    |some (.tuple a)=>match a.toList with
     |[]=>some false
     |_=>none
    |_=>none
def wO(ops:Array Oper)(n:Nat)(l:az)(J:Oper):Option az:=match J.dst with
 |none=>none
 |some d=>match Nat.blt d n with
  |false=>none
  |true=>match rf ops l J with
   |none=>none
   |some false=>some ((d,undef)::l)
   |some true=>match DE l J.op with
    |some v=>some ((d,v)::l)
    |none=>none
def run(n:Nat):Nat->Nat->Nat->List hi->fp->az->List hi×fp×az
 |0,_,_,S,x,l=>(S,x,l)
 |f+1,a,b,S,x,l=>match x with
  | .co c=>match c with
    | .seq x y=>match b with
      |0=>(S,.co (.seq x y),l)
      |b+1=>run n f a b (.e1 y::S) (.co x) l
    | .block i c=>run n f a b (.aT i::S) (.co c) l
    | .scope c=>run n f a b (.qS::S) (.co c) l
    | .region i J m=>match m with
      |false=>match J with
       |⟨r⟩=>run n f a b S (.op false r.toArray r) l
      |true=>(S,.co (.region i J true),l)
    | .skip=>run n f a b S .cx l
    | .label _=>run n f a b S .cx l
    | .exit i=>run n f a b S (.mr i) l
    | .ret=>run n f a b S .rt l
    |c=>(S,.co c,l)
  | .op m J r=>match r with
    |[]=>run n f a b S .cx l
    |p::r=>match a with
     |0=>(S,.op m J (p::r),l)
     |a+1=>match wO J n l p with
      |some k=>run n f a b S (.op m J r) k
      |none=>(S,.op m J (p::r),l)
  | .cx=>match S with
    | .e1 y::S=>run n f a b S (.co y) l
    | .aT _::S=>run n f a b S .cx l
    | .qS::S=>run n f a b S .cx l
    | .dc J r::S=>run n f a b S (.op false J r) l
    | .iZ bZ::S=>(.iZ bZ::S,.cx,l)
    |[]=>([],.cx,l)
  | .mr i=>match S with
    | .e1 _::S=>run n f a b S (.mr i) l
    | .aT j::S=>match Nat.beq i j with
      |true=>run n f a b S .cx l
      |false=>run n f a b S (.mr i) l
    | .qS::S=>run n f a b S (.mr i) l
    | .dc _ _::S=>run n f a b S (.mr i) l
    | .iZ _::S=>run n f a b S (.mr i) l
    |[]=>([],.mr i,l)
  | .rt=>match S with
    | .e1 _::S=>run n f a b S .rt l
    | .aT _::S=>run n f a b S .rt l
    | .qS::S=>run n f a b S .rt l
    | .dc _ _::S=>run n f a b S .rt l
    | .iZ _::S=>run n f a b S .rt l
    |[]=>([],.rt,l)
def Ut{w0:World}{l:az}{J:Oper}{v:Value}(h:DE l J.op=some v):M P w0 n l H J v:=by
 unfold DE at h
 repeat' split at h
 all_goals first
  |·cases h
  |(cases h;exact M.nilCheck ch ch)
  |exact M.move ch h
  |exact M.assign ch h
  |exact M.CK ch ch h
  |exact M.CJ ch ch h
  |(rw[uc]at h;exact M.extract ch ch (by simpa using h))
  |(rename_i q;cases PM q;cases h;first|exact M.lss ch ch ch|exact M.leq ch ch ch|exact M.gtr ch ch ch|exact M.geq ch ch ch|exact M.eql ch ch ch|exact M.neq ch ch ch)
def x0{l:az}{J:Oper}(h:rf aE l J=some true):eB aE l J:=by
 unfold rf at h;split at h;exact eB.u ch
 ·rename_i j b n
  split at h;cases h
  ·rename_i p k
   split at h;cases h
   ·rename_i e he
    rw[uc,Array.getElem?_toList]at k;have r:(aE[j]?).bind (·.dst)=some e:=by rw[k];exact he
    split at h
    ·rename_i c aj
     cases c<;>cases b<;>simp at h
     all_goals exact eB.g n r aj
    split at h<;>cases h;cases h
def bm.lR{w0:World}{l:az}{J:Oper}{m:Bool}{d:Nat}(h:rf aE l J=some false)(ab:J.dst=some d)(ar:Nat.blt d n=true)(q:bm m P w0 aE aZ n ((d,undef)::l) bY H):bm m P w0 aE aZ n l (J::bY) H:=by
 unfold rf at h;split at h;cases h
 ·rename_i j b k
  split at h;cases h
  ·rename_i p r
   split at h;cases h
   ·rename_i e he
    rw[uc,Array.getElem?_toList]at r;have A:(aE[j]?).bind (·.dst)=some e:=by rw[r];exact he
    split at h
    ·rename_i c aj
     cases c<;>cases b<;>simp at h
     all_goals exact bm.gs k A aj o ab ar q
    rename_i a aj;split at h;rename_i B;have:a= #[]:=by rw[<-Array.toList_eq_nil_iff];exact B
    subst this;exact bm.Bb k A aj ab ar q;cases h;cases h
def bm.st{w0:World}{l:az}{J:Oper}{m:Bool}(Y:wO aE n l J=some l')(h:bm m P w0 aE aZ n l' bY H):bm m P w0 aE aZ n l (J::bY) H:=by
 unfold wO at Y;split at Y;cases Y;rename_i d ab;split at Y;cases Y;rename_i ar;split at Y;cases Y;rename_i k;cases Y;exact bm.lR k ab ar h;rename_i k;split at Y;rename_i v r;cases Y;exact bm.v (Ut r) (x0 k) ab ar h;cases Y
def iO{w0:World}:∀(f a b:Nat) {S:List hi} {x:fp} {l:az},G P w0 aZ n (run n f a b S x l).1 (run n f a b S x l).2.1 (run n f a b S x l).2.2 H->G P w0 aZ n S x l H
 |0,_,_,_,_,_,h=>h
 |f+1,a,b,S,x,l,h=>by
  cases x with
  |co c=>
   cases c with
   |seq x y=>cases b with
    |zero=>exact h
    |succ b=>exact fun a w B A=>wp_seq<|iO f _ b (S:= .e1 y::S) (x:= .co x) h a w B A
   |block i c=>exact fun a w B A=>wp_block<|iO f _ b (S:= .aT i::S) (x:= .co c) h a w B A
   |scope c=>exact fun a w B A=>wp_scope_straight<|iO f _ b (S:= .qS::S) (x:= .co c) h a w B A
   |region i J m=>cases m with
    |true=>exact h
    |false=>cases J with
     |mk r=>exact b6.region<|iO f a b (S:=S) (x:= .op false r.toArray r) h
   |skip=>exact b6.skip<|iO f a b (S:=S) (x:= .cx) h
   |label k=>exact b6.label<|iO f a b (S:=S) (x:= .cx) h
   |exit i=>exact b6.exit<|iO f a b (S:=S) (x:= .mr i) h
   |ret=>exact b6.ret<|iO f a b (S:=S) (x:= .rt) h
   |_=>exact h
  |op m J r=>cases r with
   |nil=>exact bm.nil<|iO f a b (S:=S) (x:= .cx) h
   |cons p r=>cases a with
    |zero=>exact h
    |succ a=>
     simp only[run]at h;cases Y:wO J n l p with
     |none=>simp only[Y]at h;exact h
     |some E=>simp only[Y]at h;exact bm.st Y<|iO f a b (S:=S) (x:= .op m J r) h
  |cx=>cases S with
   |nil=>exact h
   |cons k S=>cases k with
    |e1 y=>exact fun a w B A=>iO f _ b (S:=S) (x:= .co y) h a w B A
    |aT i=>exact fun a w B A=>iO f _ b (S:=S) (x:= .cx) h a w B A
    |qS=>exact fun a w B A=>iO f _ b (S:=S) (x:= .cx) h a w B A
    |dc J r=>exact fun a w B A=>iO f _ b (S:=S) (x:= .op false J r) h a w B A
    |iZ bZ=>exact h
  |mr i=>cases S with
   |nil=>exact h
   |cons k S=>cases k with
    |e1 y=>exact fun a w B A=>iO f _ b (S:=S) (x:= .mr i) h a w B A
    |aT j=>
     simp only[run]at h;cases hb:Nat.beq i j with
     |true=>
      simp only[hb]at h;have:=nA hb;subst this;exact fun a w B A=>by
       show(if i=i then fM P aZ S .normal a w else fM P aZ S (.exit i) a w)
       rw[aD rfl];exact iO f _ b (S:=S) (x:= .cx) h a w B A
     |false=>
      simp only[hb]at h;have C:i≠j:=fun e=>by subst e;simp at hb
      exact fun a w B A=>by
       show(if i=j then fM P aZ S .normal a w else fM P aZ S (.exit i) a w)
       rw[au C];exact iO f _ b (S:=S) (x:= .mr i) h a w B A
    |qS=>exact fun a w B A=>iO f _ b (S:=S) (x:= .mr i) h a w B A
    |dc J r=>exact fun a w B A=>iO f _ b (S:=S) (x:= .mr i) h a w B A
    |iZ bZ=>exact fun a w B A=>iO f _ b (S:=S) (x:= .mr i) h a w B A
  |rt=>cases S with
   |nil=>exact h
   |cons k S=>cases k with
    |e1 y=>exact fun a w B A=>iO f _ b (S:=S) (x:= .rt) h a w B A
    |aT i=>exact fun a w B A=>iO f _ b (S:=S) (x:= .rt) h a w B A
    |qS=>exact fun a w B A=>iO f _ b (S:=S) (x:= .rt) h a w B A
    |dc J r=>exact fun a w B A=>iO f _ b (S:=S) (x:= .rt) h a w B A
    |iZ bZ=>exact fun a w B A=>iO f _ b (S:=S) (x:= .rt) h a w B A
def fJ(n a:Nat)(S:List hi)(x:fp)(l:az):Option (List hi×Bool×Array Oper×Oper×List Oper×Nat×az):=match run n 999 a 999 S x l with
 |(S,.op m J r,l)=>match r with
  |p::r=>match p.dst with
   |some d=>match Nat.blt d n with
    |true=>match rf J l p with
     |some true=>some (S,m,J,p,r,d,l)
     |_=>none
    |false=>none
   |none=>none
  |[]=>none
 |_=>none
def rs(n:Nat)(S:List hi)(x:fp)(l:az):Option (List hi×Array Oper×Oper×List Oper×az):=match run n 999 999 999 S x l with
 |(S,.op m J r,l)=>match m with
  |true=>none
  |false=>match r with
   |p::r=>match p.dst with
    |some _=>none
    |none=>match rf J l p with
     |some true=>some (S,J,p,r,l)
     |_=>none
   |[]=>none
 |_=>none
def rc(n:Nat)(S:List hi)(x:fp)(l:az):Option (List hi×Array Oper×Oper×List Oper×Nat×az×FuncId×List Operand×Array TypeId×List Value):=match fJ n 999 S x l with
 |some (S,m,J,p,r,d,l)=>match m with
  |true=>none
  |false=>match p.op with
   | .call c=>match c with
     |⟨g,k,A⟩=>match g with
      | .value u=>match u with
        | .func f=>match k with
          |⟨k⟩=>match jb l k with
           |some vs=>some (S,J,p,r,d,l,f,k,A,vs)
           |none=>none
        |_=>none
      |_=>none
   |_=>none
 |none=>none
def hl(n:Nat)(S:List hi)(x:fp)(l:az):Option (List hi×Bool×Code×Code×az):=match run n 999 999 999 S x l with
 |(S,.co c,l)=>match c with
  | .cond u x y=>match aI l u with
    |some (.bool b)=>some (S,b,x,y,l)
    |_=>none
  |_=>none
 |_=>none
def bK(n:Nat)(S:List hi)(x:fp)(l:az):Option (List hi×Code×az):=match run n 999 999 999 S x l with
 |(S,.co c,l)=>match c with
  | .loop c=>some (S,c,l)
  |_=>none
 |_=>none
def JE(n b:Nat)(S:List hi)(x:fp)(l:az):Option (List hi×Code×Code×az):=match run n 999 999 b S x l with
 |(S,.co c,l)=>match c with
  | .seq x y=>some (S,x,y,l)
  |_=>none
 |_=>none
def rx(n:Nat)(S:List hi)(x:fp)(l:az):Option ((Act->World->Prop)×az):=match run n 999 999 999 S x l with
 |(S,.cx,l)=>match S with
  | .iZ bZ::_=>some (bZ,l)
  |_=>none
 |_=>none
def kU(n:Nat)(S:List hi)(x:fp)(l:az):Option az:=match run n 999 999 999 S x l with
 |(S,x,l)=>match S with
  |[]=>match x with
   | .cx=>some l
   | .rt=>some l
   |_=>none
  |_=>none
def C1(rs:List ResultVar)(l:az):Option Value:=match rs with
 |[]=>some (.tuple #[])
 |[.tmp t]=>dh l t
 |[.tmp t,.tmp u]=>match dh l t,dh l u with
  |some v,some x=>some (.tuple #[v,x])
  |_,_=>none
 |[.tmp t,.tmp u,.tmp s]=>match dh l t,dh l u,dh l s with
  |some v,some x,some y=>some (.tuple #[v,x,y])
  |_,_,_=>none
 |_=>none
def uy(n a d:Nat)(S:List hi)(x:fp)(l:az):Option (List hi×Bool×Array Oper×List Oper×az×Bool):=match run n 999 a 999 S x l with
 |(S,.op m J r,l)=>match dh l d with
  |some (.bool b)=>some (S,m,J,r,l,b)
  |_=>none
 |_=>none
def rg(n:Nat)(S:List hi)(x:fp)(l:az):Option (List hi×List Oper×az):=match run n 999 999 999 S x l with
 |(S,.co c,l)=>match c with
  | .region _ J m=>match m with
    |true=>match J with
     |⟨J⟩=>some (S,J,l)
    |false=>none
  |_=>none
 |_=>none
def rZ(w0:World)(bZ:Act->World->Prop)(n:Nat)(l:az)(H:Heap):Prop:=∀a w,Fr n l a->At w0 H w->bZ a w
def jV{w0:World}{l:az}{x:fp}{f a b:Nat}{r:List hi×fp×az}(e:run n f a b ee x l=r)(h:G P w0 aZ n r.1 r.2.1 r.2.2 H):G P w0 aZ n ee x l H:=iO f a b (by rw[e];exact h)
def ux{l:az}{m:Bool}{x:fp}{p:Oper}{d:Nat}{a:Nat}(Y:fJ n a ee x l=some (eR,m,aE,p,bY,d,l')):run n 999 a 999 ee x l=(eR,.op m aE (p::bY),l')/\p.dst=some d/\Nat.blt d n=true/\eB aE l' p:=by
 unfold fJ at Y
 repeat' split at Y
 all_goals first
  |·cases Y
  |(cases Y;exact⟨by assumption,by assumption,by assumption,x0 ch⟩)
def G.ae{w0:World}{l:az}{m:Bool}{x:fp}{p:Oper}{d:Nat}{v:Value}(a:Nat)(Y:fJ n a ee x l=some (eR,m,aE,p,bY,d,l'))(hy:M P w0 n l' H p v)(h:G P w0 aZ n eR (.op m aE bY) ((d,v)::l') H):G P w0 aZ n ee x l H:=
 let⟨e,ab,ar,hw⟩:=ux Y
 jV e (bm.v hy hw ab ar h)
def G.O{w0:World}{l:az}{m:Bool}{x:fp}{p:Oper}{d:Nat}{v:Value}(Y:fJ n 999 ee x l=some (eR,m,aE,p,bY,d,l'))(hy:M P w0 n l' H p v)(h:G P w0 aZ n eR (.op m aE bY) ((d,v)::l') H):G P w0 aZ n ee x l H:=G.ae 999 Y hy h
def G.hj{w0:World}{l:az}{m:Bool}{x:fp}{p:Oper}{d:Nat}{g:aP->Value}{φ:aP->Prop}(Y:fJ n 999 ee x l=some (eR,m,aE,p,bY,d,l'))(hy:∃x,(∀aa,M P w0 n l' aa p (g x))/\φ x)(h:∀x,φ x->G P w0 aZ n eR (.op m aE bY) ((d,g x)::l') H):G P w0 aZ n ee x l H:=
 let⟨e,ab,ar,hw⟩:=ux Y
 jV e (bm.e hy hw ab ar h)
def G.pp{w0:World}{l:az}{m:Bool}{x:fp}{p:Oper}{d:Nat}{φ:Addr->Prop}(Y:fJ n 999 ee x l=some (eR,m,aE,p,bY,d,l'))(hy:∃x,(∀aa,M P w0 n l' aa p (.pointer (some x)))/\φ x)(h:∀x,φ x->G P w0 aZ n eR (.op m aE bY) ((d,.pointer (some x))::l') H):G P w0 aZ n ee x l H:=G.hj (g:=fun ad:Addr=>Value.pointer (some ad)) Y hy h
def G.aR{w0:World}{l:az}{x:fp}{p:Oper}{d:Nat}(Y:fJ n 999 ee x l=some (eR,false,aE,p,bY,d,l'))(k:E.Z P w0 n l' H p R)(h:∀v aa,R v aa->G P w0 aZ n eR (.op false aE bY) ((d,v)::l') aa):G P w0 aZ n ee x l H:=
 let⟨e,ab,ar,hw⟩:=ux Y
 jV e (bm.z k hw ab ar h)
def JB{l:az}{x:fp}{p:Oper}(Y:rs n ee x l=some (eR,aE,p,bY,l')):run n 999 999 999 ee x l=(eR,.op false aE (p::bY),l')/\p.dst=none/\eB aE l' p:=by
 unfold rs at Y
 repeat' split at Y
 all_goals first
  |·cases Y
  |(cases Y;exact⟨by assumption,by assumption,x0 ch⟩)
def G.bl{w0:World}{l:az}{x:fp}{p:Oper}(Y:rs n ee x l=some (eR,aE,p,bY,l'))(k:E.S P w0 n l' H p c3)(h:∀aa,c3 aa->G P w0 aZ n eR (.op false aE bY) l' aa):G P w0 aZ n ee x l H:=
 let⟨e,ab,hw⟩:=JB Y
 jV e (bm.s k hw ab h)
def G.aC{w0:World}{l:az}{x:fp}{p:Oper}{d:Nat}{f:FuncId}(Y:rc n ee x l=some (eR,aE,p,bY,d,l',f,jt,nM,args))(k:∀(args:Array Value) (w:World),(callFunc f args).run P w= .ok (.enter f args) w)(aj:a8 P w0 f args.toArray H R)(h:∀v aa,R v aa->G P w0 aZ n eR (.op false aE bY) ((d,v)::l') aa):G P w0 aZ n ee x l H:=by
 unfold rc at Y
 repeat' split at Y
 all_goals first
  |·cases Y
  |skip
 cases Y;obtain⟨e,ab,ar,hw⟩:=ux ch;exact jV e<|bm.call ch k ch hw ab ar aj h
def G.ci{w0:World}{l:az}{x:fp}{b:Bool}{y z:Code}(Y:hl n ee x l=some (eR,b,y,z,l'))(r:b=true->G P w0 aZ n eR (.co y) l' H)(he:b=false->G P w0 aZ n eR (.co z) l' H):G P w0 aZ n ee x l H:=by
 unfold hl at Y
 repeat' split at Y
 all_goals first
  |·cases Y
  |(cases Y;rename_i A _ _ _ _ k;exact jV k<|b6.cond ch r he)
def G.ip{w0:World}{l:az}{x:fp}{q:Prop}[Decidable q]{y z:Code}(Y:hl n ee x l=some (eR,decide q,y,z,l'))(k:q->G P w0 aZ n eR (.co y) l' H)(he:¬q->G P w0 aZ n eR (.co z) l' H):G P w0 aZ n ee x l H:=
 G.ci Y (fun h=>k (jS h)) (fun h=>he (of_decide_eq_false h))
def G.it{w0:World}{l:az}{x:fp}{y z:Code}(Y:hl n ee x l=some (eR,true,y,z,l'))(k:G P w0 aZ n eR (.co y) l' H):G P w0 aZ n ee x l H:=G.ci Y (fun _=>k) nofun
def G.dP{w0:World}{l:az}{x:fp}{y z:Code}(Y:hl n ee x l=some (eR,false,y,z,l'))(k:G P w0 aZ n eR (.co z) l' H):G P w0 aZ n ee x l H:=G.ci Y nofun (fun _=>k)
def b6.Qa{w0:World}{l:az}{c:Code}(aG:aP->az)(F:aP->Heap->Prop)(μ:aP->Nat)(O:aP)(X:Sub (aG O) l)(Q:F O H)(round:∀s H,F s H->∀bZ:Act->World->Prop,(∀r aa,F r aa->μ r<μ s->rZ w0 bZ n (aG r) aa)->b6 P w0 (Exit.then bZ aZ) n (aG s) c H):b6 P w0 aZ n l (.loop c) H:=by
 intro a w V T b k cs
 have key:∀bZ s H a w,μ s=bZ->F s H->Fr n (aG s) a->At w0 H w->
  ∃e C E,aZ e C E/\Arrives P (lone (b.at a (.code c:: .inLoop c::k)) cs w) b k cs e C E:=by
  intro bZ;induction bZ using Nat.strongRecOn with
  |_ bZ ih=>
   intro s H a w S R W U
   have af:=round s H R (fun C E=>∃r aa,Fr n (aG r) C/\At w0 aa E/\F r aa/\μ r<μ s)
    (fun r aa K N C E M L=>⟨r,aa,M,L,K,N⟩) a w W U
   obtain⟨e,a₁,w₁,B,A⟩:=af b (.inLoop c::k) cs;cases e with
   |normal=>
    obtain⟨r,aa,M,L,K,N⟩:=B;obtain⟨e₂,a₂,w₂,hq₂,harr₂⟩:=ih (μ r) (S▸N) r aa a₁ w₁ o K M L;exact⟨e₂,a₂,w₂,hq₂,.of_steps (Steps.trans A (.one step_inLoop)) harr₂⟩
   |exit id=>exact⟨_,a₁,w₁,B,.pass (x:= .inLoop c) o (fun _ _=> .inl a_) A⟩
   |goto l=>exact⟨_,a₁,w₁,B,.pass (x:= .inLoop c) o (fun _ _=> .inl a_) A⟩
   |ret=>exact⟨_,a₁,w₁,B,.pass (x:= .inLoop c) o (fun _ _=> .inl a_) A⟩
   |panic gG=>exact⟨_,a₁,w₁,B,.pass (x:= .inLoop c) o (fun _ _=> .inl a_) A⟩
   |outgrown=>exact⟨_,a₁,w₁,B,.pass (x:= .inLoop c) o (fun _ _=> .inl a_) A⟩
 obtain⟨e,C,E,B,A⟩:=key _ O H a w o Q (V.sub X) T;exact⟨e,C,E,B,.of_steps (.one step_loop) A⟩
def G.Bg{a b:Int}(h:a=b):some (Value.int cI a)=some (.int cI b):=by rw[h]
def G.bd{w0:World}{l:az}{x:fp}{c:Code}(Y:bK n ee x l=some (eR,c,l'))(aG:aP->az)(k:aP->Heap->Prop)(μ:aP->Nat)(A:aP)(B:k A H)(round:∀s H,k s H->∀bZ:Act->World->Prop,(∀r aa,k r aa->∀(hm:μ r<μ s:=by first|omega|(simp only;omega)|(simp;omega)),rZ w0 bZ n (aG r) aa)->G P w0 aZ n (.iZ bZ::eR) (.co c) (aG s) H)(C:Sub (aG A) l':=by repeat' first|exact trivial|exact rfl|exact G.Bg I|refine⟨?_,?_⟩):G P w0 aZ n ee x l H:=by
 unfold bK at Y;split at Y;rename_i e;split at Y;cases Y;exact jV e<|b6.Qa aG k μ A C B round;cases Y;cases Y
def G.bw{w0:World}{l:az}{x:fp}{y z:Code}(b:Nat)(Y:JE n b ee x l=some (eR,y,z,l'))(aG:aP->az)(A:aP->Heap->Prop)(h:∀bZ:Act->World->Prop,(∀s aa,A s aa->rZ w0 bZ n (aG s) aa)->G P w0 aZ n (.iZ bZ::eR) (.co y) l' H)(hy:∀s aa,A s aa->G P w0 aZ n eR (.co z) (aG s) aa):G P w0 aZ n ee x l H:=by
 unfold JE at Y;split at Y;rename_i e;split at Y;cases Y;exact jV e fun a w r k=>wp_seq<|h _ (fun s aa B a w r k=>hy s aa B a w r k) a w r k;cases Y;cases Y
def rZ.sub{w0:World}{l:az}{bZ:Act->World->Prop}(h:rZ w0 bZ n l' H)(Y:Sub l' l):rZ w0 bZ n l H:=fun a w r k=>h a w (r.sub Y) k
def G.aQ{w0:World}{l:az}{x:fp}{k:az}{bZ:Act->World->Prop}(Y:rx n ee x l=some (bZ,k))(h:rZ w0 bZ n l' H)(r:Sub l' k:=by repeat' first|exact trivial|exact rfl|exact G.Bg I|refine⟨?_,?_⟩):G P w0 aZ n ee x l H:=by
 unfold rx at Y;split at Y;rename_i e;split at Y;cases Y;exact jV e<|h.sub r;cases Y;cases Y
def JA{w0:World}{l:az}{x:fp}{v:Value}(Y:kU n ee x l=some l')(af:∀a w,Fr n l' a->At w0 H w->(results eO a.tmps).run P w= .ok v w)(q:R v H):G P w0 (bodyPost P eO (r1 w0 R)) n ee x l H:=by
 unfold kU at Y;split at Y;rename_i e;split at Y;split at Y;cases Y;exact jV e fun a w r k=>⟨r.defers,v,af a w r k,v,H,o,k,q⟩;cases Y;exact jV e fun a w r k=>⟨r.defers,v,af a w r k,v,H,o,k,q⟩;cases Y;cases Y
def G.rc{w0:World}{l:az}{x:fp}{v:Value}(Y:kU n ee x l=some l')(af:∀a w,Fr n l' a->At w0 H w->(results eO a.tmps).run P w= .ok v w)(q:R v H):G P w0 (bodyPost P eO (r1 w0 R)) n ee x l H:=JA Y af q
def S6{w0:World}{l:az}{v:Value}(Y:C1 eO.results.toList l=some v):∀a w,Fr n l a->At w0 H w->(results eO a.tmps).run P w= .ok v w:=by
 unfold C1 at Y;split at Y;rename_i e;cases Y;exact Jn<|yd.1 e;rename_i e;exact CU (yd.1 e) Y;rename_i e;split at Y;cases Y;exact Jo (yd.1 e) ch ch;cases Y;rename_i e;split at Y;cases Y;exact Jp (yd.1 e) ch ch ch;cases Y;cases Y
def G.rt{w0:World}{l:az}{x:fp}{v:Value}(Y:(kU n ee x l).bind (C1 eO.results.toList)=some v)(q:R v H):G P w0 (bodyPost P eO (r1 w0 R)) n ee x l H:=by
 cases e:kU n ee x l with
 |none=>rw[e]at Y;cases Y
 |some k=>rw[e]at Y;exact JA e (S6 Y) q
def u3(fn:Func):Code:=match fn.body with
 |some c=>c
 |none=> .skip
def G.gq{w0:World}{f:FuncId}(r:P.funcs[f]?=some eO)(hb:(eO.body.isSome&&Nat.ble args.length eO.ntmps)=true)(h:G P w0 (bodyPost P eO (r1 w0 R)) eO.ntmps [] (.co (u3 eO)) (oI args 0) H):a8 P w0 f args.toArray H R:=by
 intro w n;obtain⟨hb,A⟩:=Bool.and_eq_true_iff.1 hb;have hb:eO.body=some (u3 eO):=by unfold u3;split<;>simp_all
 have C:args.length<=eO.ntmps:=hC A;refine calls_of_wp r hb<|h _ w ⟨o,?_,?_⟩ n;simp;omega;intro t v e;obtain⟨_,k⟩:=xf args 0 t v e;simp only[vw]at k;simp only;have B:=(List.getElem?_eq_some_iff.1 k).1;rw[Array.getElem?_append_left (by simpa using B)];simpa using k
def G.bN{w0:World}{f:FuncId}(k:P.funcs[f]?=some eO)(hb:(eO.body.isSome&&Nat.ble args.length eO.ntmps)=true)(h:an H H->G P w0 (bodyPost P eO (r1 w0 R)) eO.ntmps [] (.co (u3 eO)) (oI args 0) H):a8 P w0 f args.toArray H R:=G.gq k hb (h (W.refl _ _))
def G.bc{w0:World}{f:FuncId}(ks:List Nat)(k:P.funcs[f]?=some eO)(hb:(eO.body.isSome&&Nat.ble args.length eO.ntmps)=true)(h:W (aq ks) H H->G P w0 (bodyPost P eO (r1 w0 R)) eO.ntmps [] (.co (u3 eO)) (oI args 0) H):a8 P w0 f args.toArray H R:=G.gq k hb (h (W.refl _ _))
def zi{l:az}{m:Bool}{x:fp}{b:Bool}{a d:Nat}(Y:uy n a d ee x l=some (eR,m,aE,bY,l',b)):run n 999 a 999 ee x l=(eR,.op m aE bY,l')/\dh l' d=some (.bool b):=by
 unfold uy at Y
 repeat' split at Y
 all_goals first
  |·cases Y
  |(cases Y;exact⟨by assumption,by assumption⟩)
def G.sb{w0:World}{l:az}{m:Bool}{x:fp}{b:Bool}(a d:Nat)(Y:uy n a d ee x l=some (eR,m,aE,bY,l',b))(k:b=true->G P w0 aZ n eR (.op m aE bY) ((d,.bool true)::l') H)(he:b=false->G P w0 aZ n eR (.op m aE bY) ((d,.bool false)::l') H):G P w0 aZ n ee x l H:=
 let⟨e,aj⟩:=zi Y
 jV e (bm.split aj k he)
def G.sp{w0:World}{l:az}{m:Bool}{x:fp}{q:Prop}[Decidable q](a d:Nat)(Y:uy n a d ee x l=some (eR,m,aE,bY,l',decide q))(k:q->G P w0 aZ n eR (.op m aE bY) ((d,.bool true)::l') H)(he:¬q->G P w0 aZ n eR (.op m aE bY) ((d,.bool false)::l') H):G P w0 aZ n ee x l H:=
 let⟨e,aj⟩:=zi Y
 jV e (bm.mQ aj k he)
def ro(n a:Nat)(S:List hi)(x:fp)(l:az):Option (List hi×Bool×Array Oper×List Oper×az):=match run n 999 a 999 S x l with
 |(S,.op m J r,l)=>some (S,m,J,r,l)
 |_=>none
def tE(s:Nat)(l:az):az->Bool
 |[]=>true
 |(t,_)::r=>match Nat.beq t s with
  |true=>tE s l r
  |false=>match dh l t with
   |none=>tE s l r
   |some _=>false
def L_:Bool->Bool->Bool
 |true,true=>true
 |false,false=>true
 |_,_=>false
def yZ(n:Nat)(ops:Array Oper):Nat->az->List Oper->Option (az×List Oper)
 |0,l,r=>some (l,r)
 |k+1,l,r=>match r with
  |p::r=>match wO ops n l p with
   |some A=>yZ n ops k A r
   |none=>none
  |[]=>none
def Ju(n a s d:Nat)(b:Bool)(J:Array Oper)(r:List Oper)(l k:az):Option (List Oper×Bool×az):=match yZ n J a l r with
 |some (l,r)=>match dh l d with
  |some (.bool u)=>match dh l s with
   |some (.bool c)=>match L_ b c with
    |true=>match tE s k (l.take (l.length-k.length))with
     |true=>some (r,u,l.drop (l.length-k.length))
     |false=>none
    |false=>none
   |_=>none
  |_=>none
 |_=>none
def IH{w0:World}{m:Bool}:∀(k:Nat) {l A:az} {r B:List Oper},yZ n aE k l r=some (A,B)->bm m P w0 aE aZ n A B H->bm m P w0 aE aZ n l r H
 |0,_,_,_,_,e,h=>by cases e;exact h
 |k+1,l,A,r,B,e,h=>by
  unfold yZ at e;split at e;split at e;rename_i Y;exact bm.st Y<|IH k e h;cases e;cases e
def pk(P:Program)(w0:World)(B:Exit->Act->World->Prop)(n:Nat)(H:Heap)(s d:Nat)(b v:Bool)(k:az)(S:List hi)(m:Bool)(ops:Array Oper)(r:List Oper):Prop:=∀(a:Nat) {A:List Oper} {l':az} {u:Bool},Ju n a s d b ops A l' k=some (r,u,k)->u=v->G P w0 B n S (.op m ops A) l' H
def He{l:az}{s:Nat}:∀{r:az},tE s l r=true->∀t v,t≠s->dh l t=some v->dh (r++l) t=some v
 |[],_,_,_,_,e=>e
 |(t2,u)::r,h,t,v,k,e=>by
  simp only[me,dh];cases hb:Nat.beq t2 t with
  |true=>
   have:=nA hb;subst this;simp only[tE]at h;have n:Nat.beq t2 s=false:=by
    cases A:Nat.beq t2 s with
    |true=>exact absurd (nA A) k
    |false=>rfl
   rw[n]at h;simp only[e]at h;cases h
  |false=>
   simp only;refine He ?_ t v k e;simp only[tE]at h;split at h;exact h;split at h;exact h;cases h
def CY{l:az}{x:fp}(Y:rg n ee x l=some (eR,bY,l')):∃i,run n 999 999 999 ee x l=(eR,.co (.region i bY.toArray true),l'):=by
 unfold rg at Y
 repeat' split at Y
 all_goals first
  |·cases Y
  |(cases Y;exact⟨_,by assumption⟩)
def wD(n:Nat)(S:List hi)(x:fp)(l:az):Option (List hi×Bool×Array Oper×List Oper×Nat×az×TypeId×Nat×Addr):=match fJ n 999 S x l with
 |some (S,m,J,p,r,d,l)=>match p.op with
  | .fieldAddr s x k=>match aI l x with
    |some (.pointer (some ad))=>some (S,m,J,r,d,l,s,k,ad)
    |_=>none
  |_=>none
 |none=>none
def vp(fs:Array Field)(k z:Nat):Option (TypeId×Nat):=match z with
 |0=>none
 |_+1=>match nth fs.toList k with
  |some ⟨_,t,off,_,_,_,_⟩=>some (t,off)
  |none=>none
def ze(n:Nat)(ops:Array Oper)(r:List Oper)(d:Nat)(l:az):Option (List Oper×Nat×TypeId):=match r with
 |[]=>none
 |p::r=>match p.op with
  | .load t x=>match x with
    | .tmp e=>match Nat.beq e d with
      |true=>match p.dst with
       |some d2=>match Nat.blt d2 n with
        |true=>match rf ops l p with
         |some true=>some (r,d2,t)
         |_=>none
        |false=>none
       |none=>none
      |false=>none
    |_=>none
  |_=>none
def Js{l:az}{m:Bool}{x:fp}{d:Nat}{s:TypeId}(Y:wD n ee x l=some (eR,m,aE,bY,d,l',s,k,bL)):∃p r,run n 999 999 999 ee x l=(eR,.op m aE (p::bY),l')/\p.dst=some d/\Nat.blt d n=true/\eB aE l' p/\p.op= .fieldAddr s r k/\aI l' r=some (.pointer (some bL)):=by
 unfold wD at Y;split at Y;rename_i h;split at Y;rename_i A;split at Y;rename_i B;cases Y;obtain⟨a,b,c,e⟩:=ux h;exact⟨_,_,a,b,c,e,A,B⟩;cases Y;cases Y;cases Y
def GA{z:Nat}{t:TypeId}(h:vp ju k z=some (t,n)):z≠0/\∃f,ju[k]?=some f/\f.type=t/\f.offset=n:=by
 unfold vp at h;split at h;cases h;split at h;rename_i e;cases h;rw[uc,Array.getElem?_toList]at e;exact⟨by omega,_,e,o,o⟩;cases h
def SR{l:az}{d:Nat}{r:List Oper}{t:TypeId}(h:ze n aE bY d l=some (r,k,t)):∃p,bY=p::r/\p.op= .load t (.tmp d)/\p.dst=some k/\Nat.blt k n=true/\eB aE l p:=by
 unfold ze at h;split at h;cases h;split at h;rename_i B;split at h;split at h;rename_i hb;split at h;rename_i ab;split at h;rename_i ar;split at h;rename_i A;cases h;cases nA hb;exact⟨_,o,B,ab,ar,x0 A⟩;cases h;cases h;cases h;cases h;cases h;cases h
def zc(n:Nat)(ops:Array Oper)(r:List Oper)(d:Nat)(l:az)(ad:Addr)(fs:Array Field)(k z:Nat):Option (TypeId×Nat×List Oper×Nat×TypeId):=match vp fs k z with
 |some (vu,off)=>match ze n ops r d ((d,.pointer (some (ad.add off)))::l)with
  |some (A,d2,t)=>some (vu,off,A,d2,t)
  |none=>none
 |none=>none
def SL{l:az}{d:Nat}{z:Nat}{t:TypeId}{r:List Oper}(h:zc n aE bY d l bL ju k z=some (gS,vq7z,r,vq28z,t)):vp ju k z=some (gS,vq7z)/\ze n aE bY d ((d,.pointer (some (bL.add vq7z)))::l)=some (r,vq28z,t):=by
 unfold zc at h;split at h;rename_i e;split at h;rename_i A;cases h;exact⟨e,A⟩;cases h;cases h
def Qo{l:az}{s:Nat}{v:Value}:dh ((s,v)::l) s=some v:=by
 simp only[dh];have:Nat.beq s s=true:=by simp
 rw[this]
def G.cJ{w0:World}{l:az}{x:fp}(Y:rg n ee x l=some (eR,bY,l'))(k:Heap->Prop)(r:List Nat)(hm:P.follows .mixedOrders=true)(h:N P w0 bY.toArray (fM P aZ eR) k r n bY.length [] l' H):G P w0 aZ n ee x l H:=
 let⟨_,e⟩:=CY Y
 jV e (b6.Su k r hm h)
def G.dn{w0:World}{l:az}{J:Array Oper}(af:Region.ready .any J (h0 J.size bQ)=[])(h:G P w0 aZ n ee .cx l H):N P w0 J (fM P aZ ee) c3 vq33z n k bQ l H:=N.done af h
def G.rd{w0:World}{l:az}{x:fp}(Y:rg n ee x l=some (eR,bY,l'))(hm:P.follows .mixedOrders=true)(k:Region.lexB .any bY.toArray=true)(h:G P w0 aZ n eR (.op true bY.toArray bY) l' H):G P w0 aZ n ee x l H:=
 let⟨_,e⟩:=CY Y
 jV e (b6.Sv hm k h)
def G.dc{w0:World}{l:az}{S:List hi}{x:fp}(k:Nat)(Y:rg n S x l=some (ee,bY,l'))(hm:P.follows .mixedOrders=true)(r:Region.lexTailB .any bY.toArray k=true)(h:G P w0 aZ n (.dc bY.toArray (bY.drop k)::ee) (.op true bY.toArray (bY.take k)) l' H):G P w0 aZ n S x l H:=
 let⟨_,e⟩:=CY Y
 jV e (fun a w B A=>wp_region_still_tail k hm r (h a _ B A.drew))
def b6.t1{w0:World}{l:az}{x y:Code}(h:∀{K:Exit->Act->World->Prop},(∀{l' aa},b6 P w0 aZ n l' y aa->jy w0 K n l' aa)->b6 P w0 K n l x H):b6 P w0 aZ n l (.seq x y) H:=b6.seq (fun _ dz _=>h (dz _ _))
def b6.t2{w0:World}{l:az}{x y:Code}(h:∀{K:Exit->Act->World->Prop},(∀{l' aa},b6 P w0 aZ n l' y aa->jy w0 K n l' aa)->(∀{e l' aa},kq w0 aZ e n l' aa->∀(he:e≠.normal:=by first|nofun|simp),kq w0 K e n l' aa)->b6 P w0 K n l x H):b6 P w0 aZ n l (.seq x y) H:=b6.seq (fun _ dz k=>h (dz _ _) (fun q he=>k _ he _ _ q))
def b6.al{w0:World}{l:az}{y:Code}(h:∀{K:Exit->Act->World->Prop},(∀{l' aa},b6 P w0 aZ n l' y aa->jy w0 K n l' aa)->bm false P w0 bY.toArray K n l bY H):b6 P w0 aZ n l (.seq (.region k bY.toArray false) y) H:=b6.seq (fun _ dz _=>b6.region (h (dz _ _)))
def b6.aT{w0:World}{l:az}{c:Code}(h:∀{K:Exit->Act->World->Prop},(∀{l' aa},jy w0 aZ n l' aa->jy w0 K n l' aa)->(∀{l' aa},jy w0 aZ n l' aa->kq w0 K (.exit k) n l' aa)->(∀{e l' aa},kq w0 aZ e n l' aa->∀(he:e≠.normal:=by first|nofun|simp)(r:e≠.exit k:=by first|nofun|simp),kq w0 K e n l' aa)->b6 P w0 K n l c H):b6 P w0 aZ n l (.block k c) H:=b6.block (fun _ dz B A=>h (dz _ _) (B _ _) (fun q he r=>A _ he r _ _ q))
def b6.bd{w0:World}{l:az}{c:Code}(aG:aP->az)(k:aP->Heap->Prop)(μ:aP->Nat)(A:aP)(L:Sub (aG A) l)(B:k A H)(round:∀s H,k s H->∀K:Exit->Act->World->Prop,(∀r aa,k r aa->μ r<μ s->jy w0 K n (aG r) aa)->(∀{e l' aa},kq w0 aZ e n l' aa->∀(he:e≠.normal:=by first|nofun|simp),kq w0 K e n l' aa)->b6 P w0 K n (aG s) c H):b6 P w0 aZ n l (.loop c) H:=b6.loop aG k μ A L B (fun s H E K F C=>round s H E K F (fun q he=>C _ he _ _ q))
def a8.bc{w0:World}{f:FuncId}{c:Code}(args:List Value)(r:P.funcs[f]?=some eO)(h:∀k:Exit->Act->World->Prop,(∀{l aa v},R v aa->∀(af:∀a w,Fr n l a->At w0 aa w->(results eO a.tmps).run P w= .ok v w:=by first|exact CU o rfl|exact Jo o o rfl|exact Jp o o o o),kq w0 k .ret n l aa)->b6 P w0 k n (oI args 0) c H)(hb:eO.body=some c:=by exact rfl)(ar:eO.ntmps=n:=by exact rfl)(A:Nat.ble args.length n=true:=by exact rfl):a8 P w0 f args.toArray H R:=a8.enter r hb ar A (fun k B=>h k (fun x af=>B .ret (.inr o) _ _ _ af x))
def dk{a b:List Value}(h:a=b):Value.agg a.toArray=Value.agg b.toArray:=bn (fun z:List Value=>Value.agg z.toArray) h
def bm.v1{w0:World}{l:az}{J:Oper}{m:Bool}{v:Value}{d:Nat}(hy:M P w0 n l H J v)(h:bm m P w0 aE aZ n ((d,v)::l) bY H)(hw:eB aE l J:=by exact fE)(ab:J.dst=some d:=by exact rfl)(ar:Nat.blt d n=true:=by exact rfl):bm m P w0 aE aZ n l (J::bY) H:=bm.v hy hw ab ar h
def zC(l:az)(d:Nat):Op->Option az
 |.move x=>match aI l x with
  |some v=>some ((d,v)::l)
  |none=>none
 |.assign x=>match aI l x with
  |some v=>some ((d,v)::l)
  |none=>none
 |.nilCheck x=>match aI l x with
  |some (.pointer (some ad))=>some ((d,.pointer (some ad))::l)
  |_=>none
 |.pick c x y=>match aI l c with
  |some (.bool true)=>match aI l x with
   |some v=>some ((d,v)::l)
   |none=>none
  |some (.bool false)=>match aI l y with
   |some v=>some ((d,v)::l)
   |none=>none
  |_=>none
 |_=>none
def DJ(ops:Array Oper)(n:Nat)(l:az)(J:Oper):Option az:=match J.dst with
 |none=>none
 |some d=>match Nat.blt d n with
  |false=>none
  |true=>match J.guard with
   |none=>zC l d J.op
   |some (j,b)=>match (ops[j]?).bind (·.dst) with
    |none=>none
    |some e=>match dh l e with
     |some (.bool c)=>match c==b with
      |false=>some ((d,undef)::l)
      |true=>zC l d J.op
     |_=>none
def Ko{w0:World}{l:az}{J:Oper}{d:Nat}(Y:zC l d J.op=some l'):∃v,l'=(d,v)::l/\M P w0 n l H J v:=by
 unfold zC at Y
 repeat' split at Y
 all_goals first|·cases Y|(cases Y;refine ⟨_,o,?_⟩;first|exact M.move ch ch|exact M.assign ch ch|exact M.nilCheck ch ch|exact M.CK ch ch ch|exact M.CJ ch ch ch)
def bm.Un{P:Program}{w0:World}{k:Exit->Act->World->Prop}{n:Nat}{l:az}{H:Heap}{ops:Array Oper}{rest:List Oper}{J:Oper}{m:Bool}{r:az}(h:bm m P w0 ops k n r rest H)(Y:DJ ops n l J=some r):bm m P w0 ops k n l (J::rest) H:=by
 unfold DJ at Y
 repeat' split at Y
 all_goals first|·cases Y|(obtain⟨v,rfl,hy⟩:=Ko Y;exact bm.v hy (eB.u ch) ch ch h)|(cases Y;exact bm.gs ch ch ch ch ch ch h)|(rename_i q;cases eq_of_beq q;obtain⟨v,rfl,hy⟩:=Ko Y;exact bm.v hy (eB.g ch ch ch) ch ch h)
def DH(ops:Array Oper)(n:Nat):Nat->az->List Oper->Option (az×List Oper)
 |k+1,l,J::r=>match DJ ops n l J with
  |some A=>DH ops n k A r
  |none=>none
 |0,l,r=>some (l,r)
 |_,_,_=>none
def bm.cj{w0:World}{m:Bool}{A:az}{B:List Oper}:∀(k:Nat){l:az}{rest:List Oper}(h:bm m P w0 aE aZ n A B H)(Y:DH aE n k l rest=some (A,B):=by exact rfl),bm m P w0 aE aZ n l rest H
 |0,_,_,h,Y=>by cases Y;exact h
 |k+1,_,[],_,Y=>by cases Y
 |k+1,l,J::r,h,Y=>by
  unfold DH at Y;split at Y;rename_i C e;exact bm.Un (bm.cj k h Y) e;cases Y
def bm.bo{w0:World}{l:az}{J:Oper}{m:Bool}{x:Operand}{v:Value}{d:Nat}(h:bm m P w0 aE aZ n ((d,v)::l) bY H)(k:J.op= .move x:=by exact rfl)(r:aI l x=some v:=by exact rfl)(hw:eB aE l J:=by exact fE)(ab:J.dst=some d:=by exact rfl)(ar:Nat.blt d n=true:=by exact rfl):bm m P w0 aE aZ n l (J::bY) H:=bm.v (M.move k r) hw ab ar h
def bm.bq{w0:World}{l:az}{J:Oper}{m:Bool}{x:Operand}{v:Value}{d:Nat}(h:bm m P w0 aE aZ n ((d,v)::l) bY H)(k:J.op= .assign x:=by exact rfl)(r:aI l x=some v:=by exact rfl)(hw:eB aE l J:=by exact fE)(ab:J.dst=some d:=by exact rfl)(ar:Nat.blt d n=true:=by exact rfl):bm m P w0 aE aZ n l (J::bY) H:=bm.v (M.assign k r) hw ab ar h
def M.hh{w0:World}{l:az}{J:Oper}{x:Operand}{s:TypeId}{cs:List Value}{fd:Field}(h:cL H bL cs)(A:J.op= .fieldAddr s x k)(hu:∀w,(underlying s).run P w= .ok (.struct ju) w)(r:ju[k]?=some fd)(C:∀w,(sizeOf fd.type).run P w= .ok vq28z w)(B:fd.offset=vq7z:=by exact rfl)(F:vq28z≠0:=by decide)(E:aI l x=some (.pointer (some bL)):=by exact rfl):M P w0 n l H J (.pointer (some (bL.add vq7z))):=M.fieldAddr h A hu r B C F E
def bm.k0{w0:World}{l:az}{J:Oper}{m:Bool}{v:Value}{d j e:Nat}{b:Bool}(hy:M P w0 n l H J v)(h:bm m P w0 aE aZ n ((d,v)::l) bY H)(k:J.guard=some (j,b):=by exact rfl)(r:(aE[j]?).bind (·.dst)=some e:=by exact rfl)(aj:dh l e=some (.bool b):=by exact rfl)(ab:J.dst=some d:=by exact rfl)(ar:Nat.blt d n=true:=by exact rfl):bm m P w0 aE aZ n l (J::bY) H:=bm.v hy (eB.g k r aj) ab ar h
def M.aK{w0:World}{l:az}{J:Oper}{x:Operand}{s:TypeId}{fd:Field}(C:J.op= .fieldAddr s x k)(hu:∀w,(underlying s).run P w= .ok (.struct ju) w)(B:ju[k]?=some fd)(r:fd.type=gS)(E:fd.offset=vq7z)(F:∀w,(sizeOf gS).run P w= .ok vq28z w)(L:vq28z≠0)(K:aI l x=some (.pointer (some bL))):M P w0 n l H J (.pointer (some (bL.add vq7z))):=by
 intro ac w A N;subst r;simp[execOp,C,A.eval K,Instr.fieldAt,Instr.sureAddr,fieldPlace,hu,B,E,F,L]
def cL.one{cs:List Value}{c:Value}(h:cL H bL cs)(aj:cs[k]?=some c):cL H (bL.add k) (c::cs.drop (k+1)):=by
 have n:=h.drop k;obtain⟨r,A⟩:=List.getElem?_eq_some_iff.1 aj;rwa[na r,A]at n
def bm.aK{w0:World}{l:az}{J:Oper}{m:Bool}{x:Operand}{s:TypeId}{d:Nat}{fd:Field}(hu:∀w,(underlying s).run P w= .ok (.struct ju) w)(K:∀w,(sizeOf gS).run P w= .ok vq28z w)(q:bm m P w0 aE aZ n ((d,.pointer (some (bL.add vq7z)))::l) bY H)(E:J.op= .fieldAddr s x k:=by exact rfl)(B:ju[k]?=some fd:=by exact rfl)(A:fd.type=gS:=by exact rfl)(F:fd.offset=vq7z:=by exact rfl)(O:vq28z≠0:=by decide)(N:aI l x=some (.pointer (some bL)):=by exact rfl)(L:eB aE (l) J:=by exact fE)(r:J.dst=some d:=by exact rfl)(C:Nat.blt d n=true:=by exact rfl):bm m P w0 aE aZ n l (J::bY) H:=bm.v (M.aK E hu B A F K O N) L r C q
def bm.aG{w0:World}{l:az}{J:Oper}{m:Bool}{x:Operand}{s:TypeId}{d:Nat}{fd:Field}{t:TypeId}{y:Operand}{d2:Nat}{c:Value}{cs:List Value}{r:Oper}(h:cL H bL cs)(hu:∀w,(underlying s).run P w= .ok (.struct ju) w)(Q:∀w,(sizeOf gS).run P w= .ok vq28z w)(R:∀w,(isAgg t).run P w= .ok false w)(q:bm m P w0 aE aZ n ((d2,c)::(d,.pointer (some (bL.add vq7z)))::l) bY H)(N:J.op= .fieldAddr s x k:=by exact rfl)(F:ju[k]?=some fd:=by exact rfl)(E:fd.type=gS:=by exact rfl)(O:fd.offset=vq7z:=by exact rfl)(V:vq28z≠0:=by decide)(U:aI l x=some (.pointer (some bL)):=by exact rfl)(S:eB aE (l) J:=by exact fE)(B:J.dst=some d:=by exact rfl)(K:Nat.blt d n=true:=by exact rfl)(aj:cs[vq7z]?=some c:=by exact rfl)(A:r.op= .load t y:=by exact rfl)(hy:aI ((d,.pointer (some (bL.add vq7z)))::l) y=some (.pointer (some (bL.add vq7z))):=by exact rfl)(T:eB aE ((d,.pointer (some (bL.add vq7z)))::l) r:=by exact fE)(C:r.dst=some d2:=by exact rfl)(L:Nat.blt d2 n=true:=by exact rfl):bm m P w0 aE aZ n l (J::r::bY) H:=bm.v (M.aK N hu F E O Q V U) S B K (bm.v (M.gV (cL.one h aj) A R hy) T C L q)
def bm.wl{w0:World}{l:az}{J:Oper}{m:Bool}{x:Operand}{s:TypeId}{d:Nat}{fd:Field}{j e:Nat}{b:Bool}{t:TypeId}{y:Operand}{d2:Nat}{c:Value}{cs:List Value}{r:Oper}(h:cL H bL cs)(hu:∀w,(underlying s).run P w= .ok (.struct ju) w)(W:∀w,(sizeOf gS).run P w= .ok vq28z w)(X:∀w,(isAgg t).run P w= .ok false w)(q:bm m P w0 aE aZ n ((d2,c)::(d,.pointer (some (bL.add vq7z)))::l) bY H)(U:J.op= .fieldAddr s x k:=by exact rfl)(R:ju[k]?=some fd:=by exact rfl)(K:fd.type=gS:=by exact rfl)(V:fd.offset=vq7z:=by exact rfl)(aa:vq28z≠0:=by decide)(Z:aI l x=some (.pointer (some bL)):=by exact rfl)(L:J.guard=some (j,b):=by exact rfl)(O:(aE[j]?).bind (·.dst)=some e:=by exact rfl)(B:dh (l) e=some (.bool b):=by exact rfl)(E:J.dst=some d:=by exact rfl)(S:Nat.blt d n=true:=by exact rfl)(aj:cs[vq7z]?=some c:=by exact rfl)(A:r.op= .load t y:=by exact rfl)(hy:aI ((d,.pointer (some (bL.add vq7z)))::l) y=some (.pointer (some (bL.add vq7z))):=by exact rfl)(N:r.guard=some (j,b):=by exact rfl)(Q:(aE[j]?).bind (·.dst)=some e:=by exact rfl)(C:dh ((d,.pointer (some (bL.add vq7z)))::l) e=some (.bool b):=by exact rfl)(F:r.dst=some d2:=by exact rfl)(T:Nat.blt d2 n=true:=by exact rfl):bm m P w0 aE aZ n l (J::r::bY) H:=bm.v (M.aK U hu R K V W aa Z) (eB.g L O B) E S (bm.v (M.gV (cL.one h aj) A X hy) (eB.g N Q C) F T q)
def G.aK{w0:World}{l:az}{m:Bool}{x:fp}{d:Nat}{s:TypeId}(Y:wD n ee x l=some (eR,m,aE,bY,d,l',s,k,bL))(hu:∀w,(underlying s).run P w= .ok (.struct ju) w)(E:∀w,(sizeOf gS).run P w= .ok vq28z w)(r:vp ju k vq28z=some (gS,vq7z))(q:G P w0 aZ n eR (.op m aE bY) ((d,.pointer (some (bL.add vq7z)))::l') H):G P w0 aZ n ee x l H:=
 let⟨_,_,e,ab,ar,hw,B,K⟩:=Js Y
 let⟨L,_,A,F,C⟩:=GA r
 jV e (bm.v (M.aK B hu A F C E L K) hw ab ar q)
def G.a1{w0:World}{l:az}{m:Bool}{x:fp}{d:Nat}{s t:TypeId}{d2:Nat}{r:List Oper}{c:Value}{cs:List Value}(Y:wD n ee x l=some (eR,m,aE,bY,d,l',s,k,bL))(h:cL H (bL.add vq7z) (c::cs))(hu:∀w,(underlying s).run P w= .ok (.struct ju) w)(R:∀w,(sizeOf gS).run P w= .ok vq28z w)(S:∀w,(isAgg t).run P w= .ok false w)(K:zc n aE bY d l' bL ju k vq28z=some (gS,vq7z,r,d2,t))(q:G P w0 aZ n eR (.op m aE r) ((d2,c)::(d,.pointer (some (bL.add vq7z)))::l') H):G P w0 aZ n ee x l H:=by
 obtain⟨_,_,e,ab,ar,hw,N,U⟩:=Js Y;obtain⟨A,B⟩:=SL K;obtain⟨V,_,F,C,Q⟩:=GA A;obtain⟨_,rfl,O,E,L,T⟩:=SR B;exact jV e<|bm.v (M.aK N hu F C Q R V U) hw ab ar<|bm.v (M.gV h O S Qo) T E L q
def G.aG{w0:World}{l:az}{m:Bool}{x:fp}{d:Nat}{s t:TypeId}{d2:Nat}{r:List Oper}{c:Value}{cs:List Value}(Y:wD n ee x l=some (eR,m,aE,bY,d,l',s,k,bL))(h:cL H bL cs)(hu:∀w,(underlying s).run P w= .ok (.struct ju) w)(B:∀w,(sizeOf gS).run P w= .ok vq28z w)(C:∀w,(isAgg t).run P w= .ok false w)(A:zc n aE bY d l' bL ju k vq28z=some (gS,vq7z,r,d2,t))(aj:nth cs vq7z=some c)(q:G P w0 aZ n eR (.op m aE r) ((d2,c)::(d,.pointer (some (bL.add vq7z)))::l') H):G P w0 aZ n ee x l H:=G.a1 Y (cL.one h (by rw[<-uc];exact aj)) hu B C A q
def Z.gA{w0:World}{l:az}{J:Oper}{B k:Value->Heap->Prop}(h:E.Z P w0 n l H J (fun v aa=>R v aa/\B v aa/\k v aa/\∃r,aa=H.push r)):E.Z P w0 n l H J (fun v aa=>R v aa/\B v aa/\k v aa/\aa.size=H.size+1):=h.mono (fun v aa ⟨a,b,c,r,e⟩=>⟨a,b,c,by rw[e];simp⟩)
def Z.cV{w0:World}{l:az}{J:Oper}{B:Value->Heap->Prop}(h:E.Z P w0 n l H J (fun v aa=>R v aa/\B v aa/\∃k,aa=H.push k)):E.Z P w0 n l H J (fun v aa=>R v aa/\B v aa/\aa.size=H.size+1):=h.mono (fun v aa ⟨a,b,k,e⟩=>⟨a,b,by rw[e];simp⟩)
def Z.bt{w0:World}{l:az}{J:Oper}{t:TypeId}{z:Value}(r:∀w,(zeroValue t).run P w= .ok z w)(k:J.op= .alloc t:=by exact rfl):E.Z P w0 n l H J (fun v aa=>v= .pointer (some ⟨H.size,0,none⟩)/\Var t aa H.size z.cells.toList/\an H aa/\aa.size=H.size+1):=Z.gA (Z.nT k r)
def Z.bv{w0:World}{l:az}{J:Oper}{t:TypeId}{x:Operand}{v:Value}(k:J.op= .box t x:=by exact rfl)(A:aI l x=some v:=by exact rfl):E.Z P w0 n l H J (fun r aa=>r= .pointer (some ⟨H.size,0,none⟩)/\Var t aa H.size v.cells.toList/\an H aa/\aa.size=H.size+1):=Z.gA (Z.qi k A)
def Z.bT{w0:World}{l:az}{J:Oper}{t:TypeId}{x:Operand}{v:Value}(cs:List Value)(k:J.op= .box t x:=by exact rfl)(A:aI l x=some v:=by exact rfl)(aj:v.cells.toList=cs:=by exact rfl):E.Z P w0 n l H J (fun r aa=>r= .pointer (some ⟨H.size,0,none⟩)/\Var t aa H.size cs/\an H aa/\aa.size=H.size+1):=by subst aj;exact Z.bv k A
def Z.aU{w0:World}{l:az}{J:Oper}{t:TypeId}{z:Value}(A:∀w,(zeroValue t).run P w= .ok z w)(cs:List Value)(k:J.op= .alloc t:=by exact rfl)(aj:z.cells.toList=cs:=by exact rfl):E.Z P w0 n l H J (fun r aa=>r= .pointer (some ⟨H.size,0,none⟩)/\Var t aa H.size cs/\an H aa/\aa.size=H.size+1):=by subst aj;exact Z.bt A k
def M.cw{w0:World}{l:az}{J:Oper}{f:aP->List Value}{v:Value}{x i:Operand}{t e:TypeId}(h:Rd F H f vq7z v bW)(j:Nat)(B:J.op= .indexAddr t x i)(C:∀w,(underlying t).run P w= .ok (.slice e) w)(Y:∀w,(sizeOf e).run P w= .ok vq7z w)(E:aI l x=some v)(k:aI l i=some (.int cI vq24z))(r:vq24z=j:=by first|rfl|omega)(A:j<bW.length:=by first|omega|(simp;omega)|·simp):∃ad,(∀aa,M P w0 n l aa J (.pointer (some ad)))/\nu F H ad (f bW[j]):=M.rk h j B C Y E k r A
def bm.eE{w0:World}{l:az}{J:Oper}{d:Nat}(k:E.Z P w0 n l H J R)(h:∀v aa,R v aa->bm false P w0 aE aZ n ((d,v)::l) bY aa)(hw:eB aE l J:=by exact fE)(ab:J.dst=some d:=by exact rfl)(ar:Nat.blt d n=true:=by exact rfl):bm false P w0 aE aZ n l (J::bY) H:=bm.z k hw ab ar h
def bm.s1{w0:World}{l:az}{J:Oper}(k:E.S P w0 n l H J c3)(h:∀aa,c3 aa->bm false P w0 aE aZ n l bY aa)(hw:eB aE l J:=by exact fE)(ab:J.dst=none:=by exact rfl):bm false P w0 aE aZ n l (J::bY) H:=bm.s k hw ab h
def bm.dm{w0:World}{l:az}{J:Oper}{m:Bool}{x:Operand}{v:Value}{d:Nat}(h:jy w0 aZ n ((d,v)::l) H)(k:J.op= .assign x:=by exact rfl)(r:aI l x=some v:=by exact rfl)(hw:eB aE l J:=by exact fE)(ab:J.dst=some d:=by exact rfl)(ar:Nat.blt d n=true:=by exact rfl):bm m P w0 aE aZ n l [J] H:=bm.v (M.assign k r) hw ab ar (bm.nil h)
def bm.bx{w0:World}{l:az}{J:Oper}{m:Bool}{x:Operand}{d:Nat}(h:bm m P w0 aE aZ n ((d,.pointer (some bL))::l) bY H)(k:J.op= .nilCheck x:=by exact rfl)(r:aI l x=some (.pointer (some bL)):=by exact rfl)(hw:eB aE l J:=by exact fE)(ab:J.dst=some d:=by exact rfl)(ar:Nat.blt d n=true:=by exact rfl):bm m P w0 aE aZ n l (J::bY) H:=bm.v (M.nilCheck k r) hw ab ar h
def bm.UR{w0:World}{l:az}{J:Oper}{m:Bool}{x:Operand}{v:Value}{d j e:Nat}{b:Bool}(h:bm m P w0 aE aZ n ((d,v)::l) bY H)(A:J.op= .move x:=by exact rfl)(B:aI l x=some v:=by exact rfl)(k:J.guard=some (j,b):=by exact rfl)(r:(aE[j]?).bind (·.dst)=some e:=by exact rfl)(aj:dh l e=some (.bool b):=by exact rfl)(ab:J.dst=some d:=by exact rfl)(ar:Nat.blt d n=true:=by exact rfl):bm m P w0 aE aZ n l (J::bY) H:=bm.v (M.move A B) (eB.g k r aj) ab ar h
def N.cx{w0:World}{l:az}{i:Nat}(x:an V H)(h:N P w0 aE aZ (fun r=>an H r) bQ n k vq33z l H):(bQ.contains i=true\/an V H)/\N P w0 aE aZ (fun r=>an V r) bQ n k vq33z l H:=⟨.inr x,N.narrow (fun r A=>x.al A) h⟩
def N.aN{w0:World}{l:az}{i:Nat}{ks fY:List Nat}(x:W (aq ks) V H)(d:ag ks V.size fY)(h:N P w0 aE aZ (fun r=>W (aq fY) H r) bQ n k vq33z l H):(bQ.contains i=true\/W (aq ks) V H)/\N P w0 aE aZ (fun r=>W (aq ks) V r) bQ n k vq33z l H:=⟨.inr x,N.narrow (fun r A=>x.bf A d) h⟩
def N.t1{w0:World}{l:az}{J:Oper}{v:Value}{d:Nat}(i:Nat)(C:aE[i]?=some J)(hy:∀aa,c3 aa->M P w0 n l aa J v)(r:c3 H)(h:N P w0 aE aZ c3 bQ n k (i::vq33z) ((d,v)::l) H)(A:bQ.all (fun j=>Nat.beq j i||Region.waitsFor .any aE j i)=true:=by kernel_rfl)(Y:Region.noSelect aE=true:=by kernel_rfl)(B:Region.free .any aE (h0 aE.size vq33z) i=true:=by kernel_rfl)(af:(Region.ready .any aE (h0 aE.size vq33z)).contains i=true:=by kernel_rfl)(hw:eB aE l J:=by exact fE)(ab:J.dst=some d:=by exact rfl)(ar:Nat.blt d n=true:=by exact rfl):N P w0 aE aZ c3 bQ n (k+1) vq33z l H:=N.take i A C Y B af hy hw ab ar r h
def N.aK{w0:World}{l:az}{J:Oper}{x:Operand}{s:TypeId}{r d:Nat}{fd:Field}(i:Nat)(hu:∀w,(underlying s).run P w= .ok (.struct ju) w)(Q:∀w,(sizeOf gS).run P w= .ok r w)(A:c3 H)(h:N P w0 aE aZ c3 bQ n vq7z (i::vq33z) ((d,.pointer (some (bL.add vq28z)))::l) H)(F:aE[i]?=some J:=by exact rfl)(L:J.op= .fieldAddr s x k:=by exact rfl)(K:ju[k]?=some fd:=by exact rfl)(C:fd.type=gS:=by exact rfl)(O:fd.offset=vq28z:=by exact rfl)(S:r≠0:=by decide)(R:aI l x=some (.pointer (some bL)):=by exact rfl)(B:bQ.all (fun j=>Nat.beq j i||Region.waitsFor .any aE j i)=true:=by kernel_rfl)(Y:Region.noSelect aE=true:=by kernel_rfl)(E:Region.free .any aE (h0 aE.size vq33z) i=true:=by kernel_rfl)(af:(Region.ready .any aE (h0 aE.size vq33z)).contains i=true:=by kernel_rfl)(hw:eB aE l J:=by exact fE)(ab:J.dst=some d:=by exact rfl)(ar:Nat.blt d n=true:=by exact rfl):N P w0 aE aZ c3 bQ n (vq7z+1) vq33z l H:=N.take i B F Y E af (fun _ _=>M.aK L hu K C O Q S R) hw ab ar A h
def N.bo{w0:World}{l:az}{J:Oper}{x:Operand}{v:Value}{d:Nat}(i:Nat)(C:aE[i]?=some J)(r:c3 H)(h:N P w0 aE aZ c3 bQ n k (i::vq33z) ((d,v)::l) H)(E:J.op= .move x:=by exact rfl)(F:aI l x=some v:=by exact rfl)(A:bQ.all (fun j=>Nat.beq j i||Region.waitsFor .any aE j i)=true:=by kernel_rfl)(Y:Region.noSelect aE=true:=by kernel_rfl)(B:Region.free .any aE (h0 aE.size vq33z) i=true:=by kernel_rfl)(af:(Region.ready .any aE (h0 aE.size vq33z)).contains i=true:=by kernel_rfl)(hw:eB aE l J:=by exact fE)(ab:J.dst=some d:=by exact rfl)(ar:Nat.blt d n=true:=by exact rfl):N P w0 aE aZ c3 bQ n (k+1) vq33z l H:=N.take i A C Y B af (fun _ _=>M.move E F) hw ab ar r h
def N.bx{w0:World}{l:az}{J:Oper}{x:Operand}{d:Nat}(i:Nat)(C:aE[i]?=some J)(r:c3 H)(h:N P w0 aE aZ c3 bQ n k (i::vq33z) ((d,.pointer (some bL))::l) H)(E:J.op= .nilCheck x:=by exact rfl)(F:aI l x=some (.pointer (some bL)):=by exact rfl)(A:bQ.all (fun j=>Nat.beq j i||Region.waitsFor .any aE j i)=true:=by kernel_rfl)(Y:Region.noSelect aE=true:=by kernel_rfl)(B:Region.free .any aE (h0 aE.size vq33z) i=true:=by kernel_rfl)(af:(Region.ready .any aE (h0 aE.size vq33z)).contains i=true:=by kernel_rfl)(hw:eB aE l J:=by exact fE)(ab:J.dst=some d:=by exact rfl)(ar:Nat.blt d n=true:=by exact rfl):N P w0 aE aZ c3 bQ n (k+1) vq33z l H:=N.take i A C Y B af (fun _ _=>M.nilCheck E F) hw ab ar r h
def N.cy{w0:World}{l:az}{J:Oper}{v:Value}{d:Nat}(i:Nat)(C:aE[i]?=some J)(hy:∀aa,c3 aa->M P w0 n l aa J v)(hw:eB aE l J)(r:c3 H)(h:N P w0 aE aZ c3 bQ n k (i::vq33z) ((d,v)::l) H)(A:bQ.all (fun j=>Nat.beq j i||Region.waitsFor .any aE j i)=true:=by kernel_rfl)(Y:Region.noSelect aE=true:=by kernel_rfl)(B:Region.free .any aE (h0 aE.size vq33z) i=true:=by kernel_rfl)(af:(Region.ready .any aE (h0 aE.size vq33z)).contains i=true:=by kernel_rfl)(ab:J.dst=some d:=by exact rfl)(ar:Nat.blt d n=true:=by exact rfl):N P w0 aE aZ c3 bQ n (k+1) vq33z l H:=N.take i A C Y B af hy hw ab ar r h
def N.g1{w0:World}{l:az}{J:Oper}{d j e:Nat}{b c:Bool}(i:Nat)(E:aE[i]?=some J)(C:J.guard=some (j,b))(F:(aE[j]?).bind (·.dst)=some e)(aj:dh l e=some (.bool c))(r:c3 H)(h:N P w0 aE aZ c3 bQ n k (i::vq33z) ((d,undef)::l) H)(A:bQ.all (fun j=>Nat.beq j i||Region.waitsFor .any aE j i)=true:=by kernel_rfl)(Y:Region.noSelect aE=true:=by kernel_rfl)(B:Region.free .any aE (h0 aE.size vq33z) i=true:=by kernel_rfl)(af:(Region.ready .any aE (h0 aE.size vq33z)).contains i=true:=by kernel_rfl)(K:(c==b)=false:=by exact rfl)(ab:J.dst=some d:=by exact rfl)(ar:Nat.blt d n=true:=by exact rfl):N P w0 aE aZ c3 bQ n (k+1) vq33z l H:=N.gs i A E Y B af C F aj K ab ar r h
def N.n1{w0:World}{l:az}{J:Oper}{d j e:Nat}{b:Bool}(i:Nat)(E:aE[i]?=some J)(C:J.guard=some (j,b))(F:(aE[j]?).bind (·.dst)=some e)(aj:dh l e=some undef)(r:c3 H)(h:N P w0 aE aZ c3 bQ n k (i::vq33z) ((d,undef)::l) H)(A:bQ.all (fun j=>Nat.beq j i||Region.waitsFor .any aE j i)=true:=by kernel_rfl)(Y:Region.noSelect aE=true:=by kernel_rfl)(B:Region.free .any aE (h0 aE.size vq33z) i=true:=by kernel_rfl)(af:(Region.ready .any aE (h0 aE.size vq33z)).contains i=true:=by kernel_rfl)(ab:J.dst=some d:=by exact rfl)(ar:Nat.blt d n=true:=by exact rfl):N P w0 aE aZ c3 bQ n (k+1) vq33z l H:=N.Bb i A E Y B af C F aj ab ar r h
def N.ba{w0:World}{l:az}(i:Nat)(h:fN P w0 aE aZ c3 bQ n k i vq33z l H)(af:Region.ready .any aE (h0 aE.size vq33z)=[i]:=by kernel_rfl):N P w0 aE aZ c3 bQ n (k+1) vq33z l H:=N.one af h
def ah.q{h:Nat}(x:U 0 h n):ah vq33z h n:=ah.app ah.z x (dF _)
def ah.r{h:Nat}(x:U k h n)(hm:k∈vq33z:=by simp):ah vq33z h n:=ah.app (ah.root hm) x (dF _)
def W.gK(x:an V H)(s:W (aq vq33z) H lx)(d:ag [] V.size vq33z):an V lx:=(W.bf (ks:=[]) (x.nE []) s d).nil
def cQ:= @isAgg3
def eW:= @isAgg4
def e8:= @isAgg5
def cm:= @isAgg9
def q2:= @isAgg24
def oH:= @isAgg25
def uW:= @isAgg29
def gU:= @isAgg38
def dj:= @isAgg40
def h4:= @isAgg41
def l6:= @isAgg43
def gE:= @isAgg44
def gY:= @isAgg46
def Lk:= @isAgg47
def uX:= @isAgg48
def Ll:= @isAgg50
def m1:= @isAgg56
def k4:= @isAgg57
def iA:= @isAgg59
def Lm:= @isAgg60
def lI:= @isAgg70
def mA:= @isAgg71
def w_:= @isAgg73
def D7:= @isAgg75
def q3:= @isAgg76
def mB:= @isAgg84
def j1:= @isAgg87
def s5:= @isAgg88
def eI:= @isAgg93
def lH:= @isAgg104
def D4:= @isAgg108
def qd:= @isAgg115
def w5:= @isAgg118
def D5:= @isAgg122
def w6:= @isAgg124
def uV:= @isAgg131
def q1:= @isAgg135
def oG:= @isAgg136
def w7:= @isAgg137
def zP:= @isAgg142
def zQ:= @isAgg144
def s3:= @isAgg145
def w8:= @isAgg159
def D6:= @isAgg173
def s4:= @isAgg187
def Lf:= @isAgg188
def m0:= @isAgg220
def Lg:= @isAgg224
def Lh:= @isAgg233
def dY:= @isAgg311
def Li:= @isAgg314
def w9:= @isAgg315
def Lj:= @isAgg338
def Nq:= @call4
def Fh:= @call5
def xw:= @call6
def NB:= @call7
def Ay:= @call8
def Fq:= @call9
def Mh:= @call10
def Mm:= @call11
def Mq:= @call12
def Mv:= @call13
def MC:= @call14
def EO:= @call15
def Ao:= @call16
def ES:= @call17
def MX:= @call18
def MY:= @call19
def EZ:= @call20
def M6:= @call21
def M9:= @call22
def E5:= @call23
def E6:= @call24
def Nf:= @call25
def Nj:= @call26
def E7:= @call27
def E8:= @call28
def As:= @call29
def Nk:= @call30
def E9:= @call31
def E_:= @call32
def Au:= @call33
def Nl:= @call34
def Nn:= @call35
def No:= @call36
def Fa:= @call37
def Av:= @call38
def Np:= @call39
def Nr:= @call40
def Fb:= @call41
def Fc:= @call42
def Ns:= @call43
def Fe:= @call44
def Nt:= @call45
def Nu:= @call46
def Ff:= @call47
def r7:= @call48
def Fg:= @call49
def Aw:= @call50
def Fi:= @call51
def px:= @call52
def mD:= @call53
def u_:= @call54
def tj:= @call55
def Nv:= @call56
def Nw:= @call57
def kt:= @call58
def py:= @call59
def xx:= @call60
def Nx:= @call61
def Ny:= @call62
def Nz:= @call63
def Fj:= @call64
def Fk:= @call65
def Fl:= @call66
def pz:= @call67
def NA:= @call68
def Fm:= @call69
def tk:= @call70
def NC:= @call71
def ND:= @call72
def NF:= @call73
def NG:= @call74
def qj:= @call75
def NH:= @call76
def Ax:= @call77
def NI:= @call78
def pA:= @call79
def va:= @call80
def tl:= @call81
def NJ:= @call82
def xy:= @call83
def NK:= @call84
def NL:= @call85
def Fo:= @call86
def Fp:= @call87
def NM:= @call88
def xz:= @call89
def Az:= @call90
def AA:= @call94
def NN:= @call95
def tm:= @call96
def Ft:= @call97
def NO:= @call98
def pB:= @call99
def Aj:= @call100
def u6:= @call101
def tf:= @call102
def Mi:= @call103
def Mj:= @call104
def Mk:= @call105
def ED:= @call106
def EE:= @call107
def EF:= @call108
def Ml:= @call109
def EG:= @call110
def EH:= @call111
def Mn:= @call112
def Mo:= @call113
def u7:= @call114
def oL:= @call115
def tg:= @call116
def Mp:= @call117
def EI:= @call118
def Ak:= @call119
def Al:= @call120
def EJ:= @call121
def u9:= @call122
def Mr:= @call123
def EK:= @call124
def nU:= @call125
def xq:= @call126
def Ms:= @call127
def Mt:= @call128
def Mu:= @call129
def Mw:= @call130
def Mx:= @call131
def My:= @call132
def Mz:= @call133
def MA:= @call134
def th:= @call135
def MB:= @call136
def EL:= @call137
def EM:= @call138
def Am:= @call139
def EN:= @call140
def MD:= @call141
def ME:= @call142
def MF:= @call143
def MG:= @call144
def MH:= @call145
def MI:= @call146
def MJ:= @call147
def MK:= @call148
def ML:= @call149
def MM:= @call150
def An:= @call155
def MN:= @call156
def MO:= @call157
def MP:= @call158
def MQ:= @call159
def ti:= @call160
def EP:= @call161
def ER:= @call162
def MR:= @call163
def MS:= @call164
def MT:= @call165
def MU:= @call166
def Ap:= @call167
def ET:= @call170
def MV:= @call171
def q7:= @call172
def xr:= @call173
def EU:= @call174
def EV:= @call175
def xt:= @call176
def EW:= @call177
def MW:= @call178
def xu:= @call179
def EX:= @call189
def Aq:= @call190
def MZ:= @call191
def M0:= @call192
def M1:= @call193
def M3:= @call194
def M4:= @call196
def M5:= @call197
def EY:= @call198
def E0:= @call200
def xv:= @call201
def E1:= @call202
def E2:= @call203
def M7:= @call215
def Ar:= @call216
def E3:= @call217
def M8:= @call218
def pv:= @call219
def M_:= @call226
def Na:= @call227
def E4:= @call228
def Nb:= @call229
def Nc:= @call232
def Nd:= @call248
def Ng:= @call254
def pw:= @call255
def Nh:= @call256
def Ni:= @call257
def Tr:= @sizeOf2
def bV:= @sizeOf3
def c8:= @sizeOf4
def db:= @sizeOf5
def b7:= @sizeOf9
def rI:= @sizeOf24
def nJ:= @sizeOf25
def wG:= @sizeOf29
def gn:= @sizeOf38
def bE:= @sizeOf40
def gz:= @sizeOf41
def eK:= @sizeOf43
def fo:= @sizeOf44
def fe:= @sizeOf46
def Tt:= @sizeOf47
def wH:= @sizeOf48
def C8:= @sizeOf50
def kE:= @sizeOf56
def iP:= @sizeOf57
def ff:= @sizeOf59
def Tu:= @sizeOf60
def fD:= @sizeOf70
def ka:= @sizeOf71
def jm:= @sizeOf73
def rJ:= @sizeOf75
def sO:= @sizeOf76
def C9:= @sizeOf81
def l0:= @sizeOf84
def Tv:= @sizeOf87
def wI:= @sizeOf88
def cZ:= @sizeOf93
def dM:= @sizeOf104
def Tq:= @sizeOf108
def nk:= @sizeOf115
def o9:= @sizeOf117
def ot:= @sizeOf118
def JM:= @sizeOf122
def sN:= @sizeOf124
def ou:= @sizeOf130
def nH:= @sizeOf131
def p1:= @sizeOf135
def kV:= @sizeOf136
def p2:= @sizeOf137
def C6:= @sizeOf142
def nI:= @sizeOf144
def ov:= @sizeOf145
def mP:= @sizeOf159
def iD:= @sizeOf170
def zj:= @sizeOf173
def kD:= @sizeOf187
def lq:= @sizeOf220
def zk:= @sizeOf224
def Ts:= @sizeOf233
def cN:= @sizeOf311
def C7:= @sizeOf314
def ow:= @sizeOf315
def JN:= @sizeOf336
def JO:= @sizeOf338
def ht:= @runUnderlying3
def kg:= @runUnderlying5
def e6:= @runUnderlying9
def Kz:= @runUnderlying22
def gg:= @runUnderlying38
def kf:= @runUnderlying40
def iF:= @runUnderlying41
def cd:= @runUnderlying43
def er:= @runUnderlying44
def b0:= @runUnderlying46
def KD:= @runUnderlying47
def sU:= @runUnderlying48
def p7:= @runUnderlying50
def kZ:= @runUnderlying56
def jd:= @runUnderlying57
def dN:= @runUnderlying59
def qV:= @runUnderlying62
def dJ:= @runUnderlying70
def np:= @runUnderlying71
def js:= @runUnderlying73
def UE:= @runUnderlying75
def sV:= @runUnderlying76
def UF:= @runUnderlying81
def iz:= @runUnderlying83
def mW:= @runUnderlying84
def hW:= @runUnderlying86
def je:= @runUnderlying88
def rV:= @runUnderlying92
def c_:= @runUnderlying93
def hN:= @runUnderlying104
def sT:= @runUnderlying107
def lr:= @runUnderlying108
def rR:= @runUnderlying115
def pb:= @runUnderlying117
def wU:= @runUnderlying118
def kW:= @runUnderlying120
def wV:= @runUnderlying124
def oB:= @runUnderlying130
def wW:= @runUnderlying131
def ke:= @runUnderlying133
def mq:= @runUnderlying136
def DN:= @runUnderlying137
def jL:= @runUnderlying139
def rS:= @runUnderlying144
def wX:= @runUnderlying145
def kX:= @runUnderlying147
def rT:= @runUnderlying159
def iU:= @runUnderlying163
def iE:= @runUnderlying170
def kY:= @runUnderlying172
def hO:= @runUnderlying173
def nn:= @runUnderlying187
def p5:= @runUnderlying188
def wY:= @runUnderlying190
def lu:= @runUnderlying204
def jM:= @runUnderlying209
def mU:= @runUnderlying220
def uG:= @runUnderlying224
def rU:= @runUnderlying226
def DO:= @runUnderlying254
def KA:= @runUnderlying257
def DP:= @runUnderlying265
def KB:= @runUnderlying280
def p6:= @runUnderlying311
def kF:= @runUnderlying314
def ez:= @runUnderlying315
def KC:= @runUnderlying336
def mV:= @runUnderlying338
def zL:= @zeroValue5
def Va:= @zeroValue9
def mZ:= @zeroValue40
def zK:= @zeroValue43
def pg:= @zeroValue46
def U_:= @zeroValue50
def qY:= @zeroValue59
def p9:= @zeroValue70
def K7:= @zeroValue71
def DX:= @zeroValue73
def pf:= @zeroValue104
def zH:= @zeroValue113
def K5:= @zeroValue122
def U7:= @zeroValue124
def U8:= @zeroValue159
def zI:= @zeroValue187
def K6:= @zeroValue220
def U9:= @zeroValue224
def zJ:= @zeroValue314
def DW:= @zeroValue315
def sl:hQ prog 38 70 66 96:=⟨underlying38,_,_,o,o,o,o,o⟩
def pG:hQ prog 41 187 33 40:=⟨underlying41,_,_,o,o,o,o,o⟩
def lS:hQ prog 44 104 33 56:=⟨underlying44,_,_,o,o,o,o,o⟩
def Be:hQ prog 48 3 1 8:=⟨underlying48,_,_,o,o,o,o,o⟩
def pH:hQ prog 56 159 33 48:=⟨underlying56,_,_,o,o,o,o,o⟩
def pI:hQ prog 57 73 2 40:=⟨underlying57,_,_,o,o,o,o,o⟩
def qs:hQ prog 71 75 65 80:=⟨underlying71,_,_,o,o,o,o,o⟩
def x7:hQ prog 84 135 1 8:=⟨underlying84,_,_,o,o,o,o,o⟩
def pJ:hQ prog 88 93 1 24:=⟨underlying88,_,_,o,o,o,o,o⟩
def dv:hQ prog 93 5 1 1:=⟨underlying93,_,_,o,o,o,o,o⟩
def x5:hQ prog 108 9 1 16:=⟨underlying108,_,_,o,o,o,o,o⟩
def G9:hQ prog 118 124 3 40:=⟨underlying118,_,_,o,o,o,o,o⟩
def x6:hQ prog 131 220 2 32:=⟨underlying131,_,_,o,o,o,o,o⟩
def tD:hQ prog 136 144 2 24:=⟨underlying136,_,_,o,o,o,o,o⟩
def G_:hQ prog 137 136 1 24:=⟨underlying137,_,_,o,o,o,o,o⟩
def Ha:hQ prog 145 224 2 32:=⟨underlying145,_,_,o,o,o,o,o⟩
def pF:hQ prog 257 25 1 8:=⟨underlying257,_,_,o,o,o,o,o⟩
def Hb:hQ prog 280 233 1 8:=⟨underlying280,_,_,o,o,o,o,o⟩
structure dA {κ β:Type} (H:Heap) (a1:κ->Value) (fv:β->Value) (b:Nat) (m:List (κ×β)):Prop where
 fQ:kp (fun x=>x=b) H a1 fv (.map (some b)) m
def dA.lt{b:Nat}{m:List (aP×oC)}(h:dA H gp ly b m):b<H.size:=h.fQ.L3
def dA.up{b:Nat}{m:List (aP×oC)}(h:dA H gp ly b m)(s:W F H V)(n:¬F b):dA V gp ly b m:=⟨h.fQ.up s (fun x _ e k=>n (by rw[<-e];exact k))⟩
def dA.aL{b:Nat}{m:List (aP×oC)}(h:dA H gp ly b m)(s:an H V):dA V gp ly b m:=⟨h.fQ.aL s⟩
def dA.aA{b:Nat}{m:List (aP×oC)}(x:dA H gp ly b m)(s:W (aq vq33z) H V)(d:ak (b+1) vq33z):dA V gp ly b m:=x.up s (fun k=>d (b+1) k b o o)
instance{b:Nat}{m:List (aP×oC)}:cO (dA H gp ly b m) H V (dA V gp ly b m):=⟨fun s h=>h.aL s⟩
instance{b:Nat}{m:List (aP×oC)}:cP (dA H gp ly b m) H V (dA V gp ly b m) (ai (b+1)):=⟨fun s h d=>h.aA s (ak.J d)⟩
def Z.sD{w0:World}{l:az}{J:Oper}{κ:Type}[DecidableEq κ](a1:κ->Value)(fv:aP->Value){t:TypeId}(A:J.op= .makeMap t none):Z P w0 n l H J (fun r aa=>r= .map (some H.size)/\dA aa a1 fv H.size ([]:List (κ×aP))/\an H aa/\∃B,aa=H.push B):=by
 intro a w C k;refine⟨.map (some w.heap.size),H.push (.map #[] 0),w.alloc (.map #[] 0),?_,k.alloc _,by rw[k.heap],⟨H.size,#[],0,o,o,by simp,stamped_empty 0,o⟩,an.pu _ _,_,o⟩;simp[execOp,A,Instr.makeMap]
def S.qO{w0:World}{l:az}{J:Oper}{κ:Type}[DecidableEq κ]{a1:κ->Value}{b:Nat}{m:List (κ×aP)}{d:TypeDesc}{t r:TypeId}{x i y:Operand}{k:κ}(z:aP)(h:dA H a1 gp b m)(C:qb d a1)(K:J.op= .mapUpdate t x i y)(hm:∀w,(underlying t).run P w= .ok (.map gS r) w)(F:P.underlying gS=some d)(L:aI l x=some (.map (some b)))(E:aI l i=some (a1 k))(hy:aI l y=some (gp z)):S P w0 n l H J (fun aa=>dA aa a1 gp b (h8 m k z)/\W (fun c=>c=b) H aa):=
 (S.mapUpdate h.fQ C K hm F L E hy).mono fun aa ⟨A,B⟩=>⟨⟨A⟩,B⟩
def o1{κ:Type}[DecidableEq κ](m:List (κ×aP))(k:κ)(b:aP)(q:κ):ax (h8 m k b) q=if q=k then some b else ax m q:=by
 have A:∀m:List (κ×aP),ax (m.map (fun p=>if p.1=k then(p.1,b)else p)) q=if q=k then(ax m q).map (fun _=>b)else ax m q:=by
  intro m;induction m with
  |nil=>simp[ax]
  |cons p m ih=>
   simp only[dQ];by_cases r:p.1=k;rw[aD r];by_cases n:q=p.1;have:q=k:=n.trans r;simp[ax,n,r];simp only[ax];rw[au n,ih,au n];rw[au r];by_cases n:q=p.1;have:¬q=k:=fun e=>r (by rw[<-n,e]);simp[ax,n,r];simp only[ax];rw[au n,ih,au n]
 have B:∀m:List (κ×aP),ax (m++[(k,b)]) q=(ax m q).or (if q=k then some b else none):=by
  intro m;induction m with
  |nil=>simp[ax]
  |cons p m ih=>
   simp only[me,ax];split;simp;exact ih
 unfold h8;split;rename_i h;rw[A];by_cases n:q=k;subst n;obtain⟨z,C⟩:=vE.1 h;simp[C];simp[n];rename_i h;rw[B];by_cases n:q=k;subst n;have:ax m q=none:=by simpa using h
 simp[this];simp[n]
def bm.uM{w0:World}{l:az}{J:Oper}(E:Z P w0 n l H J R)(hw:eB aE l J)(ab:J.dst=none)(h:∀v aa,R v aa->bm false P w0 aE aZ n l bY aa):bm false P w0 aE aZ n l (J::bY) H:=by
 intro a w k B;obtain⟨v,aa,r,af,C,A⟩:=E a w k B;have bP:=h v aa A a r k C;simp only[ns]at bP⊢;unfold wpList;rw[aD (hw n a k)];refine .inl ?_;unfold Oper.wp;rw[af];show wpList P aE aZ bY (a.put J.dst v) r;rw[ab];exact bP
def G.uM{w0:World}{l:az}{x:fp}{p:Oper}(Y:rs n ee x l=some (eR,aE,p,bY,l'))(k:E.Z P w0 n l' H p R)(h:∀v aa,R v aa->G P w0 aZ n eR (.op false aE bY) l' aa):G P w0 aZ n ee x l H:=
 let⟨e,ab,hw⟩:=JB Y
 jV e (bm.uM k hw ab h)
def M.ext{w0:World}{l:az}{J:Oper}{f:FuncId}{e:Array Value->Sem Value}{v:Value}(K:J.op= .call {callee:= .value (.func f),args:=jt.toArray,argTypes:=nM})(C:P.funcs[f]?=some eO)(F:(eO.name== "runtime.NumGoroutine")=false)(hb:eO.body.isNone=true)(ar:Extern.findNext eO=none)(he:Extern.find eO=some e)(L:jb l jt=some hv)(af:∀w,At w0 H w->(e hv.toArray).run P w= .ok v w):M P w0 n l H J v:=by
 intro a w E B;have r:a.eval (.func f)= .func (.func f) #[] #[]:=rfl;have A:=E.oM L;have k:=run_callFunc_extern (P:=P) C F hb ar he hv.toArray w;rw[af w B]at k;simp only[Result.andThen]at k;simp[execOp,K,resolve,Deferred.ofValue,r,invoke,A,k]
def Mg(xs:List UInt8):Lib.bytesOf (xs.map (fun b=>(b.toNat:Int)))=xs:=by
 induction xs with
 |nil=>rfl
 |cons b xs ih=>simp only[Lib.bytesOf,dQ,oU]at ih⊢;rw[ih];simp
def wrap_u8(n:Int):IntKind.u8.wrap n=n%256:=by
 have k:IntKind.u8.signed=false:=rfl;have r:(2^IntKind.u8.bits:Int)=256:=by decide
 simp only[IntKind.wrap,k,r,ye,nb,if_false]
def UN{x y:UInt8}:IntKind.u8.wrap ((x.toNat:Int)+y.toNat)=((x+y).toNat:Int):=by
 rw[wrap_u8,UInt8.toNat_add];omega
def UT(a:Nat):IntKind.u8.wrap (a:Int)=((UInt8.ofNat a).toNat:Int):=by
 rw[wrap_u8,tH];omega
def M.Lt{w0:World}{l:az}{J:Oper}{x y:Operand}{t u:TypeId}{a b:UInt8}(k:J.op= .binOp .add t x y u)(r:aI l x=some (.int .u8 a.toNat))(hy:aI l y=some (.int .u8 b.toNat)):M P w0 n l H J (.int .u8 (a+b).toNat):=M.zV k r hy (UN)
def M.r9{w0:World}{l:az}{J:Oper}{x:Operand}{s d:TypeId}{a:Nat}(k:J.op= .convert s d x)(Y:∀w,(underlying s).run P w= .ok rW w)(ab:∀w,(underlying d).run P w= .ok (.int .u8) w)(r:aI l x=some (.int cI a)):M P w0 n l H J (.int .u8 (UInt8.ofNat a).toNat):=by
 have h:=M.conv (P:=P) (w0:=w0) (n:=n) (H:=H) k Y ab r
 rwa[UT]at h
def wrap_u32(n:Int):IntKind.u32.wrap n=n%4294967296:=by
 have k:IntKind.u32.signed=false:=rfl;have r:(2^IntKind.u32.bits:Int)=4294967296:=by decide
 simp only[IntKind.wrap,k,r,ye,nb,if_false]
def UL{x y:UInt32}:IntKind.u32.wrap ((x.toNat:Int)+y.toNat)=((x+y).toNat:Int):=by
 rw[wrap_u32,UInt32.toNat_add];omega
def KY(a:Nat):IntKind.u32.wrap (a:Int)=((UInt32.ofNat a).toNat:Int):=by
 rw[wrap_u32,UInt32.toNat_ofNat'];omega
def wZ(x:UInt32):BitVec.ofInt IntKind.u32.bits (x.toNat:Int)=x.toBitVec:=by
 apply BitVec.eq_of_toNat_eq;have:=x.toNat_lt;show(BitVec.ofInt 32 (x.toNat:Int)).toNat=x.toNat;rw[Bn];omega
def zF(x:UInt32):IntKind.u32.wrap (x.toBitVec.toNat:Int)=(x.toNat:Int):=by
 have:=x.toNat_lt;rw[wrap_u32];show((x.toNat:Nat):Int)%_=_;omega
def M.Lr{w0:World}{l:az}{J:Oper}{x y:Operand}{t u:TypeId}{a b:UInt32}(k:J.op= .binOp .add t x y u)(r:aI l x=some (.int .u32 a.toNat))(hy:aI l y=some (.int .u32 b.toNat)):M P w0 n l H J (.int .u32 (a+b).toNat):=M.zV k r hy (UL)
def jW{w0:World}{l:az}{J:Oper}{x y : Operand}{t u : TypeId}{a b : UInt32}(k : J.op= .binOp .add t x y u := by exact rfl)(r : aI l x=some (.int .u32 a.toNat) := by exact rfl)(hy : aI l y=some (.int .u32 b.toNat) := by exact rfl): M P w0 n l H J (.int .u32 (a+b).toNat) := M.Lr k r hy
def sP(x:UInt32)(j:Nat):UInt32:=UInt32.ofNat (x.toNat*2^j)
def nm(x:UInt32)(j:Nat):UInt32:=UInt32.ofNat (x.toNat/2^j)
def TC(x:UInt32)(j:Nat):(nm x j).toNat=x.toNat/2^j:=by
 have:=x.toNat_lt;rw[nm,UInt32.toNat_ofNat'];exact sw<|vF (Nat.div_le_self _ _) this
def M.rO{w0:World}{l:az}{J:Oper}{x y:Operand}{t u:TypeId}{a:UInt32}(j:Nat)(A:J.op= .binOp .shl t x y u)(B:aI l x=some (.int .u32 a.toNat))(hy:aI l y=some (.int cI vq24z))(k:vq24z=j)(r:j<=32):M P w0 n l H J (.int .u32 (sP a j).toNat):=by
 have h:=M.shl (P:=P) (w0:=w0) (n:=n) (H:=H) A B hy I;rw[k,tG,show min j IntKind.u32.bits=j from kx r]at h;rw[show IntKind.u32.wrap ((a.toNat:Int)*2^j)=((sP a j).toNat:Int)by rw[sP,<-KY];congr 1]at h;exact h
def M.rP{w0:World}{l:az}{J:Oper}{x y:Operand}{t u:TypeId}{a:UInt32}(j:Nat)(A:J.op= .binOp .shr t x y u)(B:aI l x=some (.int .u32 a.toNat))(hy:aI l y=some (.int cI vq24z))(k:vq24z=j)(r:j<=32):M P w0 n l H J (.int .u32 (nm a j).toNat):=by
 have h:=M.shr (P:=P) (w0:=w0) (n:=n) (H:=H) A B hy I;rw[k,tG,show min j IntKind.u32.bits=j from kx r]at h;rw[show(a.toNat:Int).fdiv (2^j)=((nm a j).toNat:Int)by
  rw[TC,Hg _ (by exact Int.le_of_lt<|Int.pow_pos aO)];simp]at h
 exact h
def M.Is{w0:World}{l:az}{J:Oper}{x:Operand}{t:TypeId}{a:UInt32}(B:J.op= .unOp .xor t x)(C:aI l x=some (.int .u32 a.toNat)):M P w0 n l H J (.int .u32 (~~~a).toNat):=by
 intro ac w A E;have k:(if IntKind.u32.signed then(-1:Int)else IntKind.u32.max)=((UInt32.ofNat 4294967295).toNat:Int):=by decide
 have r:(BitVec.ofInt IntKind.u32.bits (if IntKind.u32.signed then(-1:Int)else IntKind.u32.max))^^^(BitVec.ofInt IntKind.u32.bits (a.toNat:Int))=(~~~a).toBitVec:=by
  rw[k,wZ,wZ];show BitVec.ofNat 32 4294967295^^^a.toBitVec= ~~~a.toBitVec;rw[show BitVec.ofNat 32 4294967295=BitVec.allOnes 32 by decide,BitVec.allOnes_xor]
 simp only[execOp,B,A.eval C,Op.unary,Op.intBits,r,Sem.run_bind,Sem.run_pure,Result.andThen_ok];exact bn (fun v=>Result.ok (Next.value<|Value.int .u32 v) w)<|zF (~~~a)
def M.pq{w0:World}{l:az}{J:Oper}{x y:Operand}{t u:TypeId}{a b:UInt32}(k:J.op= .binOp .and t x y u)(r:aI l x=some (.int .u32 a.toNat))(hy:aI l y=some (.int .u32 b.toNat)):M P w0 n l H J (.int .u32 (a&&&b).toNat):=
 M.bits .and _ k r hy a_ (fun w=>by
  simp only[Op.intBits,wZ];show(pure (Value.int .u32 (IntKind.u32.wrap ((a&&&b).toBitVec.toNat:Int))):Sem Value).run P w=_;rw[zF];rfl)
def M.rD{w0:World}{l:az}{J:Oper}{x y:Operand}{t u:TypeId}{a b:UInt32}(k:J.op= .binOp .or t x y u)(r:aI l x=some (.int .u32 a.toNat))(hy:aI l y=some (.int .u32 b.toNat)):M P w0 n l H J (.int .u32 (a|||b).toNat):=
 M.bits .or _ k r hy a_ (fun w=>by
  simp only[Op.intBits,wZ];show(pure (Value.int .u32 (IntKind.u32.wrap ((a|||b).toBitVec.toNat:Int))):Sem Value).run P w=_;rw[zF];rfl)
def M.U6{w0:World}{l:az}{J:Oper}{x y:Operand}{t u:TypeId}{a b:UInt32}(k:J.op= .binOp .xor t x y u)(r:aI l x=some (.int .u32 a.toNat))(hy:aI l y=some (.int .u32 b.toNat)):M P w0 n l H J (.int .u32 (a^^^b).toNat):=
 M.bits .xor _ k r hy a_ (fun w=>by
  simp only[Op.intBits,wZ];show(pure (Value.int .u32 (IntKind.u32.wrap ((a^^^b).toBitVec.toNat:Int))):Sem Value).run P w=_;rw[zF];rfl)
def jX{w0:World}{l:az}{J:Oper}{x y : Operand}{t u : TypeId}{a b : UInt32}(k : J.op= .binOp .xor t x y u := by exact rfl)(r : aI l x=some (.int .u32 a.toNat) := by exact rfl)(hy : aI l y=some (.int .u32 b.toNat) := by exact rfl): M P w0 n l H J (.int .u32 (a^^^b).toNat) := M.U6 k r hy
def M.q8{w0:World}{l:az}{J:Oper}{x:Operand}{s d:TypeId}{a:Nat}(k:J.op= .convert s d x)(Y:∀w,(underlying s).run P w= .ok rW w)(ab:∀w,(underlying d).run P w= .ok (.int .u32) w)(r:aI l x=some (.int cI a)):M P w0 n l H J (.int .u32 (UInt32.ofNat a).toNat):=by
 have h:=M.conv (P:=P) (w0:=w0) (n:=n) (H:=H) k Y ab r
 rwa[KY]at h
def wrap_u64(n:Int):IntKind.u64.wrap n=n%18446744073709551616:=by
 have k:IntKind.u64.signed=false:=rfl;have r:(2^IntKind.u64.bits:Int)=18446744073709551616:=by decide
 simp only[IntKind.wrap,k,r,ye,nb,if_false]
def UM{x y:UInt64}:IntKind.u64.wrap ((x.toNat:Int)+y.toNat)=((x+y).toNat:Int):=by
 rw[wrap_u64,UInt64.toNat_add];omega
def U5{x y:UInt64}:IntKind.u64.wrap ((x.toNat:Int)-y.toNat)=((x-y).toNat:Int):=by
 have:=x.toNat_lt;have:=y.toNat_lt;rw[wrap_u64,Bo];omega
def US{x y:UInt64}:IntKind.u64.wrap ((x.toNat:Int)*y.toNat)=((x*y).toNat:Int):=by
 rw[wrap_u64,UInt64.toNat_mul];rfl
def KZ(a:Nat):IntKind.u64.wrap (a:Int)=((UInt64.ofNat a).toNat:Int):=by
 rw[wrap_u64,n9];omega
def KS(x:UInt64):BitVec.ofInt IntKind.u64.bits (x.toNat:Int)=x.toBitVec:=by
 apply BitVec.eq_of_toNat_eq;have:=x.toNat_lt;show(BitVec.ofInt 64 (x.toNat:Int)).toNat=x.toNat;rw[Bn];omega
def KR(x:UInt64):IntKind.u64.wrap (x.toBitVec.toNat:Int)=(x.toNat:Int):=by
 have:=x.toNat_lt;rw[wrap_u64];show((x.toNat:Nat):Int)%_=_;omega
def M.Ls{w0:World}{l:az}{J:Oper}{x y:Operand}{t u:TypeId}{a b:UInt64}(k:J.op= .binOp .add t x y u)(r:aI l x=some (.int .u64 a.toNat))(hy:aI l y=some (.int .u64 b.toNat)):M P w0 n l H J (.int .u64 (a+b).toNat):=M.zV k r hy (UM)
def M.zx{w0:World}{l:az}{J:Oper}{x y:Operand}{t u:TypeId}{a b:UInt64}(k:J.op= .binOp .sub t x y u)(r:aI l x=some (.int .u64 a.toNat))(hy:aI l y=some (.int .u64 b.toNat)):M P w0 n l H J (.int .u64 (a-b).toNat):=M.T_ k r hy (U5)
def M.QW{w0:World}{l:az}{J:Oper}{x y:Operand}{t u:TypeId}{a b:UInt64}(k:J.op= .binOp .mul t x y u)(r:aI l x=some (.int .u64 a.toNat))(hy:aI l y=some (.int .u64 b.toNat)):M P w0 n l H J (.int .u64 (a*b).toNat):=M.QX k r hy (US)
def wK(x:UInt64)(j:Nat):UInt64:=UInt64.ofNat (x.toNat*2^j)
def mo(x:UInt64)(j:Nat):UInt64:=UInt64.ofNat (x.toNat/2^j)
def Dc(x:UInt64)(j:Nat):(mo x j).toNat=x.toNat/2^j:=by
 have:=x.toNat_lt;rw[mo,n9];exact sw<|vF (Nat.div_le_self _ _) this
def M.TB{w0:World}{l:az}{J:Oper}{x y:Operand}{t u:TypeId}{a:UInt64}(j:Nat)(A:J.op= .binOp .shl t x y u)(B:aI l x=some (.int .u64 a.toNat))(hy:aI l y=some (.int cI vq24z))(k:vq24z=j)(r:j<=64):M P w0 n l H J (.int .u64 (wK a j).toNat):=by
 have h:=M.shl (P:=P) (w0:=w0) (n:=n) (H:=H) A B hy I;rw[k,tG,show min j IntKind.u64.bits=j from kx r]at h;rw[show IntKind.u64.wrap ((a.toNat:Int)*2^j)=((wK a j).toNat:Int)by rw[wK,<-KZ];congr 1]at h;exact h
def M.uB{w0:World}{l:az}{J:Oper}{x y:Operand}{t u:TypeId}{a:UInt64}(j:Nat)(A:J.op= .binOp .shr t x y u)(B:aI l x=some (.int .u64 a.toNat))(hy:aI l y=some (.int cI vq24z))(k:vq24z=j)(r:j<=64):M P w0 n l H J (.int .u64 (mo a j).toNat):=by
 have h:=M.shr (P:=P) (w0:=w0) (n:=n) (H:=H) A B hy I;rw[k,tG,show min j IntKind.u64.bits=j from kx r]at h;rw[show(a.toNat:Int).fdiv (2^j)=((mo a j).toNat:Int)by
  rw[Dc,Hg _ (by exact Int.le_of_lt<|Int.pow_pos aO)];simp]at h
 exact h
def M.zX{w0:World}{l:az}{J:Oper}{x y:Operand}{t u:TypeId}{a b:UInt64}(k:J.op= .binOp .and t x y u)(r:aI l x=some (.int .u64 a.toNat))(hy:aI l y=some (.int .u64 b.toNat)):M P w0 n l H J (.int .u64 (a&&&b).toNat):=
 M.bits .and _ k r hy a_ (fun w=>by
  simp only[Op.intBits,KS];show(pure (Value.int .u64 (IntKind.u64.wrap ((a&&&b).toBitVec.toNat:Int))):Sem Value).run P w=_;rw[KR];rfl)
def M.II{w0:World}{l:az}{J:Oper}{x y:Operand}{t u:TypeId}{a b:UInt64}(k:J.op= .binOp .or t x y u)(r:aI l x=some (.int .u64 a.toNat))(hy:aI l y=some (.int .u64 b.toNat)):M P w0 n l H J (.int .u64 (a|||b).toNat):=
 M.bits .or _ k r hy a_ (fun w=>by
  simp only[Op.intBits,KS];show(pure (Value.int .u64 (IntKind.u64.wrap ((a|||b).toBitVec.toNat:Int))):Sem Value).run P w=_;rw[KR];rfl)
def M.jh{w0:World}{l:az}{J:Oper}{x:Operand}{s d:TypeId}{a:Nat}(k:J.op= .convert s d x)(Y:∀w,(underlying s).run P w= .ok rW w)(ab:∀w,(underlying d).run P w= .ok (.int .u64) w)(r:aI l x=some (.int cI a)):M P w0 n l H J (.int .u64 (UInt64.ofNat a).toNat):=by
 have h:=M.conv (P:=P) (w0:=w0) (n:=n) (H:=H) k Y ab r
 rwa[KZ]at h
def cL.at{cs:List Value}{c:Value}(h:cL H bL cs)(j:Nat)(aj:cs[j]?=some c):cL H ⟨bL.block,bL.off+j,none⟩ [c]:=
 ⟨o,fun i d ab=>by
  match i,ab with
  |0,ab=>simp only[List.getElem?_cons_zero,ld]at ab;subst ab;exact h.cells j _ aj⟩
def M.lJ{w0:World}{l:az}{J:Oper}{x i:Operand}{t e:TypeId}{cs:List Value}(h:cL H bL cs)(j:Nat)(C:J.op= .indexAddr t x i)(E:∀w,(underlying t).run P w= .ok (.array vq7z e) w)(Y:∀w,(sizeOf e).run P w= .ok 1 w)(F:aI l x=some (.pointer (some bL)))(r:aI l i=some (.int cI vq24z))(A:vq24z=j)(B:j<vq7z):M P w0 n l H J (.pointer (some ⟨bL.block,bL.off+j,none⟩)):=by
 subst A;intro ac w k K;have:=add_eq h.spot j;simp[execOp,C,k.eval F,k.eval r,Instr.indexAt,asIntOf,Instr.sureAddr,E,Y,B,this]
def dt{w0:World}{l:az}{J:Oper}{x i : Operand}{t e : TypeId}{cs : List Value}(h : cL H bL cs)(j : Nat)(C : ∀w,(underlying t).run P w= .ok (.array vq7z e) w)(Y : ∀w,(sizeOf e).run P w= .ok 1 w)(B : J.op= .indexAddr t x i := by exact rfl)(E : aI l x=some (.pointer (some bL)) := by exact rfl)(k : aI l i=some (.int cI vq24z) := by exact rfl)(r : vq24z=j := by first|rfl|omega)(A : j<vq7z := by first|omega|(simp;omega)|·simp): M P w0 n l H J (.pointer (some ⟨bL.block,bL.off+j,none⟩)) := M.lJ h j B C Y E k r A
def M.z7{w0:World}{l:az}{J:Oper}{x i:Operand}{t e:TypeId}{cs:Array Value}{c:Value}(j:Nat)(E:J.op= .index t x i)(F:∀w,(underlying t).run P w= .ok (.array vq7z e) w)(Y:∀w,(sizeOf e).run P w= .ok 1 w)(r:∀w,(isAgg e).run P w= .ok false w)(K:aI l x=some (.agg cs))(A:aI l i=some (.int cI vq24z))(B:vq24z=j)(C:j<vq7z)(aj:cs[j]?=some c):M P w0 n l H J c:=by
 subst B;intro ac w k L;simp[execOp,E,k.eval K,k.eval A,Instr.index,asIntOf,F,Y,r,C,part,aj]
def M.Dd{w0:World}{l:az}{J:Oper}{f:aP->List Value}{x:Operand}{C B:Option Operand}{t e:TypeId}{cs:List Value}{xs:List aP}(h:cL H bL cs)(R:F bL.block)(hb:bL.block<H.size)(al:xs.length=vq7z)(S:∀(i:Nat) (x:aP),xs[i]?=some x->cs[i]?=(f x)[0]?/\(f x).length=1)(i j:Nat)(O:J.op= .slice t x C B none)(A:∀w,(underlying t).run P w= .ok (.array vq7z e) w\/∃K,(underlying t).run P w= .ok (.pointer K) w/\(underlying K).run P w= .ok (.array vq7z e) w)(Y:∀w,(sizeOf e).run P w= .ok 1 w)(Q:aI l x=some (.pointer (some bL)))(U:C=none/\i=0\/∃p k fa,C=some p/\aI l p=some (.int k fa)/\fa=(i:Int))(T:B=none/\j=vq7z\/∃p k fa,B=some p/\aI l p=some (.int k fa)/\fa=(j:Int))(ah:i<=j)(ai:j<=vq7z)(hm:vq7z<=maxLen):
 (∀aa,M P w0 n l aa J (.slice (some (if vq7z=i then bL else⟨bL.block,bL.off+i,none⟩)) (j-i) (vq7z-i)))/\Rd F H f 1 (.slice (some (if vq7z=i then bL else⟨bL.block,bL.off+i,none⟩)) (j-i) (vq7z-i)) ((xs.take j).drop i):=by
 constructor;intro aa ac w E ag;have bc:∀w,(Instr.sliceBounds false vq7z vq7z (C.map ac.eval) (B.map ac.eval) none).run P w= .ok (i,j,vq7z) w:=by
  intro w
  rcases U with⟨rfl,rfl⟩|⟨p,k,fa,rfl,L,rfl⟩<;>rcases T with⟨rfl,rfl⟩|⟨aw,av,aq,rfl,ae,rfl⟩<;>
   simp[Instr.sliceBounds,Instr.sliceBound,asIntOf,E.eval, *]
 have N:=add_eq h.spot i;rcases A w with A|⟨K,A,X⟩;simp[execOp,O,E.eval Q,Instr.sliceAt,Instr.sureAddr,A,Y,bc,N];simp[execOp,O,E.eval Q,Instr.sliceAt,Instr.slice,asAddr,A,X,Y,bc,N];have hlen:((xs.take j).drop i).length=j-i:=by simp;omega
 refine⟨_,_,by rw[hlen],by rw[hlen];omega,by omega,fun V=>?_⟩;have ak:i<j:=by
  apply hB;intro aj;exact V<|lT (by rw[hlen];omega)
 rw[au I];refine⟨_,o,o,R,hb,fun q y hy=>⟨o,fun r c af=>?_⟩⟩;rw[List.getElem?_drop,List.getElem?_take]at hy;split at hy;obtain⟨L,Z⟩:=S (i+q) y hy;have W:r=0:=by have:=(List.getElem?_eq_some_iff.1 af).1;omega
 subst W;have:=h.cells (i+q) c (by rw[L];exact af);simpa[sm]using this;cases hy
def M.wL{w0:World}{l:az}{J:Oper}{f:aP->List Value}{x:Operand}{A r:Option Operand}{t e:TypeId}{cs:List Value}{xs:List aP}(h:cL H bL cs)(E:F bL.block)(hb:bL.block<H.size)(U:xs.length=vq7z)(K:∀(i:Nat) (x:aP),xs[i]?=some x->cs[i]?=(f x)[0]?/\(f x).length=1)(i j:Nat)(R:J.op= .slice t x A r none)(S:∀w,(underlying t).run P w= .ok (.array vq7z e) w\/∃B,(underlying t).run P w= .ok (.pointer B) w/\(underlying B).run P w= .ok (.array vq7z e) w)(Y:∀w,(sizeOf e).run P w= .ok 1 w)(T:aI l x=some (.pointer (some bL)))(Q:A=none/\i=0\/∃p k fa,A=some p/\aI l p=some (.int k fa)/\fa=(i:Int))(L:r=none/\j=vq7z\/∃p k fa,r=some p/\aI l p=some (.int k fa)/\fa=(j:Int))(N:i<=j)(O:j<=vq7z)(hm:vq7z<=maxLen):
 ∃C,(∀aa,M P w0 n l aa J C)/\Rd F H f 1 C ((xs.take j).drop i):=
 ⟨_,M.Dd h E hb U K i j R S Y T Q L N O hm⟩
def Tb(d:Nat){t e:TypeId}{k:IntKind}{f:Nat->Int}{xs ys:List Int}(L:P.underlying t=some (.array n e))(he:P.underlying e=some (.int k))(Y:∀w,(sizeOf e).run P w= .ok 1 w)(F:∀w,(isAgg e).run P w= .ok false w)(M:xs.length=n)(hy:ys.length=n)(w:World):
 (Op.equalIn (d+2) t (.agg (xs.map (Value.int k)).toArray) (.agg (ys.map (Value.int k)).toArray)).run P w= .ok (decide (xs=ys)) w:=by
 have key:∀(m i:Nat),i+m=n->xs.take i=ys.take i->∀body:Nat->Option Bool×Unit->Sem (ForInStep (Option Bool×Unit)),
  (∀j (B:j<xs.length) (C:j<ys.length) r,(body j r).run P w= .ok (if xs[j]=ys[j]then .yield (none,())else .done (some false,())) w)->
  (forIn (List.range' i m) (none,()) body).run P w= .ok (if xs=ys then(none,())else(some false,())) w:=by
  intro m;induction m with
  |zero=>
   intro i H A body _;rw[e5 I,e5 I]at A;simp[A]
  |succ m ih=>
   intro i H A body hb;rw[List.range'_succ,List.forIn_cons,Sem.run_bind,hb i I I];by_cases h:xs[i]' I=ys[i]' I;simp only[h,if_true,Result.andThen_ok];exact ih (i+1) I (by rw[fc (show i<xs.length by omega),fc (show i<ys.length by omega),A,h]) body hb;have K:xs≠ys:=fun e=>h (by subst e;rfl);simp only[h,if_false,Result.andThen_ok,K];rfl
 unfold Op.equalIn;simp only[Sem.run_bind,run_underlying L,Result.andThen_ok,Y];rw[Hh];simp only[Std.Legacy.Range.size,vw,yf,Nat.div_one];rw[key n 0 I o _ (fun j B C r=>?_)];by_cases h:xs=ys<;>simp[h,Result.andThen];have E:∀(zs:List Int) (h:j<zs.length),(part e (zs.map (Value.int k)).toArray (j*1)).run P w= .ok (.int k zs[j]) w:=fun zs h=>by simp[part,F,h]
 have q:(Op.equalIn (d+1) e (.int k xs[j]) (.int k ys[j])).run P w= .ok (xs[j]==ys[j]) w:=run_equalIn_int w d e k k _ _ he;simp only[Sem.run_bind,E xs B,E ys C,Result.andThen_ok,q];by_cases h:xs[j]=ys[j]<;>simp[h]
abbrev Bd(l:List UInt8):Value:= .agg (l.map (fun b=>Value.int .u8 b.toNat)).toArray
def jH(d:Nat){t e:TypeId}{xs ys:List UInt8}(B:P.underlying t=some (.array n e))(he:P.underlying e=some (.int .u8))(Y:∀w,(sizeOf e).run P w= .ok 1 w)(r:∀w,(isAgg e).run P w= .ok false w)(C:xs.length=n)(hy:ys.length=n)(w:World):
 (Op.equalIn (d+2) t (Bd xs) (Bd ys)).run P w= .ok (decide (xs=ys)) w:=by
 have h:=Tb (P:=P) d (k:= .u8) (f:=fun _=>0) (xs:=xs.map (fun b=>(b.toNat:Int))) (ys:=ys.map (fun b=>(b.toNat:Int))) B he Y r (by simpa using C) (by simpa using hy) w;rw[oU,oU]at h;have A:(xs.map (fun b=>(b.toNat:Int))=ys.map (fun b=>(b.toNat:Int)))↔xs=ys:=
  ⟨fun e=>(List.map_inj_right (fun a b h=>yg.1 I)).1 e,fun e=>by rw[e]⟩
 rw[decide_eq_decide.2 A]at h;exact h
def Z.copy{w0:World}{l:az}{J:Oper}{f:aP->List Value}{d x:Operand}{t e C:TypeId}{b off:Nat}{u:Value}{cs:List Value}(N:Var e H b cs)(af:Rd F H f 1 u bW)(K:∀x,(f x).length=1)(ag:∀x,∀u∈f x,u.oneCell'=true)(ae:J.op= .call {callee:= .builtin .copy,args:= #[d,x],argTypes:= #[t,gS]})(ai:P.underlying t=some (.slice C))(Y:∀w,(sizeOf C).run P w= .ok 1 w)(ab:aI l d=some (.slice (some ⟨b,off,none⟩) vq7z vq28z))(ak:aI l x=some u)(al:off+vq7z<=cs.length)(k:Nat)(U:k=min bW.length vq7z):
 Z P w0 n l H J (fun r aa=>r= .int .i64 k/\Var e aa b (eD cs off ((bW.take k).flatMap f))/\W (fun g=>g=b) H aa):=by
 intro a w E A;obtain⟨fz,R,S⟩:=id N.row;have hlen:((bW.take k).flatMap f).length=k:=by rw[length_flatMap K,m_,eC];omega
 have O:∀c∈(bW.take k).flatMap f,c.oneCell'=true:=by
  intro c aj;obtain⟨y,_,hy⟩:=vA.1 aj;exact ag y c hy
 obtain⟨ad,cap,rfl,_,_,Q⟩:=id af.ex;have V:Nat.min bW.length vq7z=k:=U.symm;have T:(Builtin.firstCells 1 k (.slice ad bW.length cap)).run P w= .ok ((bW.take k).flatMap f).toArray w:=by
  cases ad with
  |none=>
   have B:bW=[]:=by
    apply hB;intro X;obtain⟨ad,ar,_⟩:=Q X;cases ar
   subst B;simp[Builtin.firstCells]
  |some ad=>
   have ah:=af.qN K o A;exact run_firstCells_some (P:=P) w 1 k ad bW.length cap _ (by rw[hlen,m_]) (fun j v L=>ah j v (by
    have B:bW.flatMap f=(bW.take k).flatMap f++(bW.drop k).flatMap f:=by rw[<-j5,hY]
    rw[B,List.getElem?_append_left (List.getElem?_eq_some_iff.1 L).1];exact L))
 have M:=sM P b off e fz ((bW.take k).flatMap f) 0 cs.toArray w (by rw[A.heap];exact R) S (by rw[hlen];simp;omega) O;simp only[n6]at M;refine⟨_,_,w.setRow b (eD cs off ((bW.take k).flatMap f)).toArray,?_,A.row _ _,o,⟨zl A N.row (by simp[eD,hlen];omega)⟩,wJ A⟩;simp[execOp,ae,E.eval ab,E.eval ak,resolve,invoke,builtin,Builtin.copy_,run_underlying ai,Builtin.lenOf,Y,V,T,M,eD,goInt]
def JJ{w0:World}{cs:List Value}{w:World}(n:At w0 H w)(h:cL H bL cs)(A:∀w,(isAgg gS).run P w= .ok true w)(Y:∀w,(sizeOf gS).run P w= .ok k w)(r:cs.length=k):(loadVar gS bL).run P w= .ok (.agg cs.toArray) w:=by
 have:=run_loadCellsFrom (P:=P) (w:=w) h.spot k 0 cs #[] r (fun j c e=>by rw[n.cell];simpa using h.cells j c e);simp[loadVar,A,Y,loadCells,this]
def lo{w0:World}{l:az}{p:Nat}{cs:List Value}(h:eO.results= #[.cell p gS])(e:dh l p=some (.pointer (some bL)))(F:cL H bL cs)(K:∀w,(isAgg gS).run P w= .ok true w)(Y:∀w,(sizeOf gS).run P w= .ok k w)(E:cs.length=k):
 ∀a w,Fr n l a->At w0 H w->(results eO a.tmps).run P w= .ok (.agg cs.toArray) w:=by
 intro a w C B;have r:=C.get p _ e;have A:=JJ (P:=P) B F K Y E;simp only[results,h];simp[r,asAddr,A]
def qP{w0:World}{l:az}{p u:Nat}{cs:List Value}{v:Value}(h:eO.results= #[.cell p gS,.tmp u])(e:dh l p=some (.pointer (some bL)))(L:cL H bL cs)(M:∀w,(isAgg gS).run P w= .ok true w)(Y:∀w,(sizeOf gS).run P w= .ok k w)(K:cs.length=k)(A:dh l u=some v):
 ∀a w,Fr n l a->At w0 H w->(results eO a.tmps).run P w= .ok (.tuple #[.agg cs.toArray,v]) w:=by
 intro a w r F;have B:=r.get p _ e;have E:=r.get u _ A;have C:=JJ (P:=P) F L M Y K;simp only[results,h];simp[B,E,asAddr,C]
def iV(P:Program)(w0:World)(v:Value)(args:List Value)(H:Heap)(R:Value->Heap->Prop):Prop:=
 ∃f caps,v= .func (.func f) #[] caps/\(∀(vs:Array Value) (w:World),(callFunc f vs).run P w= .ok (.enter f vs) w)/\a8 P w0 f (args.toArray++caps) H R
def iV.of{w0:World}{f:FuncId}{caps:List Value}(k:∀(vs:Array Value) (w:World),(callFunc f vs).run P w= .ok (.enter f vs) w)(h:a8 P w0 f (args++caps).toArray H R):iV P w0 (.func (.func f) #[] caps.toArray) args H R:=
 ⟨f,caps.toArray,o,k,by simpa using h⟩
def bm.AB{w0:World}{l:az}{J:Oper}{d:Nat}{c:Operand}{fO:Value}(N:J.op= .call {callee:= .value c,args:=jt.toArray,argTypes:=nM})(M:aI l c=some fO)(O:jb l jt=some hv)(hw:eB aE l J)(ab:J.dst=some d)(ar:Nat.blt d n=true)(aj:iV P w0 fO hv H R)(h:∀v aa,R v aa->bm false P w0 aE aZ n ((d,v)::l) bY aa):bm false P w0 aE aZ n l (J::bY) H:=by
 intro a w k E;simp only[ns];obtain⟨f,caps,rfl,K,L⟩:=aj;have af:(execOp a.eval J).run P w= .ok (.enter f (hv.toArray++caps)) w:=by
  have A:=k.oM O;have S:(jt.toArray.map a.eval)=hv.toArray:=by rw[tF,A]
  simp[execOp,N,resolve,Deferred.ofValue,k.eval M,invoke,K,A]
 unfold wpList;rw[aD (hw n a k)];refine .inl ?_;unfold Oper.wp;rw[af];show Calls P f (hv.toArray++caps) w _;refine(L w E).mono ?_;rintro e Q ⟨r,aa,rfl,F,C⟩;have B:=k.put ar r;rw[<-ab]at B;exact h r aa C _ Q B F
def G.gF{w0:World}{l:az}{x:fp}{p:Oper}{d:Nat}{c:Operand}{fO:Value}(Y:fJ n 999 ee x l=some (eR,false,aE,p,bY,d,l'))(r:p.op= .call {callee:= .value c,args:=jt.toArray,argTypes:=nM})(k:aI l' c=some fO)(A:jb l' jt=some hv)(aj:iV P w0 fO hv H R)(h:∀v aa,R v aa->G P w0 aZ n eR (.op false aE bY) ((d,v)::l') aa):G P w0 aZ n ee x l H:=
 let⟨e,ab,ar,hw⟩:=ux Y
 jV e (bm.AB r k A hw ab ar aj h)
def M.makeFunc{w0:World}{l:az}{J:Oper}{f:FuncId}(A:J.op= .makeFunc (.func f) #[] jt.toArray)(B:jb l jt=some args):M P w0 n l H J (.func (.func f) #[] args.toArray):=by
 intro a w r C;have k:=r.oM B;simp[execOp,A,Instr.makeFunc,k]
def M.o_{w0:World}{l:az}{J:Oper}{x y:Operand}{t u:TypeId}{a:Nat}(j:Nat)(A:J.op= .binOp .shl t x y u)(B:aI l x=some (.int .i64 a))(hy:aI l y=some (.int cI vq24z))(k:vq24z=j)(r:j<=64)(hb:a*2^j<=9223372036854775807):M P w0 n l H J (.int .i64 ((a*2^j:Nat):Int)):=by
 have h:=M.shl (P:=P) (w0:=w0) (n:=n) (H:=H) A B hy I;rw[k,tG,show min j IntKind.i64.bits=j from kx r]at h;rw[show((a:Int)*2^j)=((a*2^j:Nat):Int)by simp,IntWalk.i64_in _ I]at h;exact h
def M.vd{w0:World}{l:az}{J:Oper}{x:Operand}{s d:TypeId}{b:UInt8}(k:J.op= .convert s d x)(Y:∀w,(underlying s).run P w= .ok rW w)(ab:∀w,(underlying d).run P w= .ok (.int .i64) w)(r:aI l x=some (.int .u8 b.toNat)):M P w0 n l H J (.int .i64 (b.toNat:Nat)):=
 M.r_ k Y ab r (IntWalk.i64_in _ (by have:=b.toNat_lt;omega))
def yQ{a:Nat}(h:a<=9223372036854775807):(BitVec.ofInt IntKind.i64.bits (a:Int)).toNat=a:=by
 show(BitVec.ofInt 64 (a:Int)).toNat=a;rw[Bn];omega
def M.nG{w0:World}{l:az}{J:Oper}{x y:Operand}{t u:TypeId}{a b:Nat}(A:J.op= .binOp .or t x y u)(B:aI l x=some (.int .i64 a))(hy:aI l y=some (.int .i64 b))(k:a<=9223372036854775807)(r:b<=9223372036854775807):M P w0 n l H J (.int .i64 ((a|||b:Nat):Int)):=by
 refine M.bits .or _ A B hy a_ fun w=>?_;have C:a|||b<2^63:=Nat.or_lt_two_pow I I;have e:(BitVec.ofInt IntKind.i64.bits (a:Int)|||BitVec.ofInt IntKind.i64.bits (b:Int)).toNat=a|||b:=by
  rw[BitVec.toNat_or,yQ k,yQ r]
 show(pure (Value.int .i64 (IntKind.i64.wrap ((BitVec.ofInt IntKind.i64.bits (a:Int)|||BitVec.ofInt IntKind.i64.bits (b:Int)).toNat:Int))):Sem Value).run P w=_;rw[e,IntWalk.i64_in _ I];rfl
def M.Ec{w0:World}{l:az}{J:Oper}{x y:Operand}{t u:TypeId}{a b:Nat}(A:J.op= .binOp .and t x y u)(B:aI l x=some (.int .i64 a))(hy:aI l y=some (.int .i64 b))(k:a<=9223372036854775807)(r:b<=9223372036854775807):M P w0 n l H J (.int .i64 ((a&&&b:Nat):Int)):=by
 refine M.bits .and _ A B hy a_ fun w=>?_;have C:a&&&b<2^63:=Nat.and_lt_two_pow _ I;have e:(BitVec.ofInt IntKind.i64.bits (a:Int)&&&BitVec.ofInt IntKind.i64.bits (b:Int)).toNat=a&&&b:=by
  rw[BitVec.toNat_and,yQ k,yQ r]
 show(pure (Value.int .i64 (IntKind.i64.wrap ((BitVec.ofInt IntKind.i64.bits (a:Int)&&&BitVec.ofInt IntKind.i64.bits (b:Int)).toNat:Int))):Sem Value).run P w=_;rw[e,IntWalk.i64_in _ I];rfl
abbrev eb:={l:List UInt8//l.length=32}
def cu(x:eb):List Value:=x.1.map (fun b=>Value.int .u8 b.toNat)
def b4(x:eb):Value:= .agg (cu x).toArray
def bJ:∀x,(cu x).length=32:=fun x=>by simp[cu,x.2]
def iY:∀x,∀u∈cu x,u.oneCell'=true:=fun x u hu=>by
 obtain⟨b,_,rfl⟩:=dp.1 hu;rfl
def zE(x:eb):b4 x=Bd x.1:=rfl
def bO:eb:=⟨List.replicate 32 0,by simp⟩
instance:Inhabited eb:=⟨bO⟩
def bytes_inj{ys:List UInt8}(h:wt.map (fun b=>Value.int .u8 (b.toNat:Int))=ys.map (fun b=>Value.int .u8 (b.toNat:Int))):wt=ys:=by
 refine(List.map_inj_right (fun a b h=>?_)).1 h;simp only[Value.int.injEq,true_and]at h;exact yg.1 I
def UK{x y:eb}(h:b4 x=b4 y):x=y:=by
 unfold b4 cu at h;simp only[Value.agg.injEq]at h;exact ij<|bytes_inj (by simpa using bn Array.toList h)
def wi{α β:Type}{f:α->β}:∀{l:List α},(l.map f).Nodup->∀{x y:α},x∈l->y∈l->f x=f y->x=y
 |[],_,_,_,h,_,_=>by cases h
 |a::l,ar,x,y,r,hy,e=>by
  simp only[dQ,oV]at ar;rcases dI.1 r with rfl|k<;>rcases dI.1 hy with rfl|n;rfl;exact(ar.1 (dp.2 ⟨y,n,e.symm⟩)).elim;exact(ar.1 (dp.2 ⟨x,k,e⟩)).elim;exact wi ar.2 k n e
structure sY {κ:Type} [DecidableEq κ] (P:Program) (kz:TypeId) (a1:κ->Value):Prop where
 UG:∃len e,P.underlying kz=some (.array len e)
 check:∀em k w,(Instr.checkKey em 10000 kz (a1 k)).run P w= .ok () w
 eq:∀a b w,(Op.equal kz (a1 a) (a1 b)).run P w= .ok (decide (a=b)) w
 same:∀k,Instr.sameBits 10000 (a1 k) (a1 k)=true
 inj:∀a b,a1 a=a1 b->a=b
def JI{P:Program}{w:World}{α:Type}:∀(l:List α) (body:α->PUnit->Sem (ForInStep PUnit)),(∀a∈l,(body a ()).run P w= .ok (.yield ()) w)->(forIn l () body).run P w= .ok () w
 |[],body,h=>by simp
 |a::l,body,h=>by
  rw[List.forIn_cons,Sem.run_bind,h a (.head _)];simp only[Result.andThen_ok];exact JI l body fun b hb=>h b (.tail _ hb)
def P1{t e:TypeId}(B:P.underlying t=some (.array 32 e))(he:P.underlying e=some (.int .u8))(Y:∀w,(sizeOf e).run P w= .ok 1 w)(E:∀w,(isAgg e).run P w= .ok false w):sY P t b4:=by
 refine⟨⟨_,_,B⟩,fun em k w=>?_,fun a b w=>?_,fun k=>?_,fun a b h=>UK h⟩
 show(Instr.checkKey em (9999+1) t (b4 k)).run P w=_
 unfold Instr.checkKey b4;simp only[Sem.run_bind,run_underlying B,Result.andThen_ok];rw[Hh];refine(bn (fun r=>Result.andThen r _) (JI _ _ (fun i F=>?_))).trans o;have n:i<32:=by
  simp[Std.Legacy.Range.size]at F;omega
 have A:=bJ k;have K:(part e (cu k).toArray (i*1)).run P w= .ok ((cu k)[i]'(by rw[A];exact n)) w:=by simp[part,E,A,n]
 have L:∀b:UInt8,(Instr.checkKey em (9998+1) e (Value.int .u8 b.toNat)).run P w= .ok () w:=by
  intro b;unfold Instr.checkKey;simp[run_underlying he]
 have M:(cu k)[i]'(by rw[A];exact n)=Value.int .u8 ((k.1[i]'(by rw[k.2];exact n)).toNat:Int):=by simp[cu]
 simp only[Sem.run_bind,Y,K,M,Result.andThen_ok];rw[L];simp;have h:=jH (P:=P) (Op.maxDepth-2) (xs:=a.1) (ys:=b.1) B he Y E a.2 b.2 w;rw[show decide (a=b)=decide (a.1=b.1)from decide_eq_decide.2 Subtype.ext_iff];exact h;unfold b4;show Instr.sameBits (9999+1) _ _=true;unfold Instr.sameBits;simp only[beq_self_eq_true,yh,sq];intro p H;obtain⟨i,N,C⟩:=Bp.1 H;rw[List.getElem_zip]at C;subst C;simp[cu,Instr.sameBits]
section
variable {P : Program} {w0 : World} {n : Nat} {l : az} {H : Heap} {J : Oper}
variable {κ β : Type} [DecidableEq κ] {aX : Nat -> Prop} {a1 : κ -> Value} {fv : β -> Value} {v : Value} {m : List (κ × β)} {kz : TypeId} {b : Nat}
def GI{k:κ}{w:World}(B:sY P kz a1):∀(es:List MapEntry) (m:List (κ×β)) (i:Nat),es.map (fun e=>(e.key,e.val))=m.map (fun p=>(a1 p.1,fv p.2))->
 (ax m k=none/\(Instr.findAsking kz (a1 k) es i).run P w= .ok none w/\∀x∈es,x.key≠a1 k)\/∃j e b,ax m k=some b/\(Instr.findAsking kz (a1 k) es i).run P w= .ok (some (i+j,fv b)) w/\es[j]?=some e/\e.key=a1 k/\e.val=fv b
 |[],m,i,h=>by
  have:m=[]:=by cases m<;>simp_all
  subst this;exact .inl ⟨o,by simp[Instr.findAsking],by simp⟩
 |e::es,m,i,h=>by
  match m,h with
  |(a,c)::m,h=>
   simp only[dQ,j6,ig]at h;obtain⟨⟨A,K⟩,N⟩:=h;have n:=B.eq k a w;rw[<-A]at n;by_cases r:k=a;subst r;simp only[decide_true]at n;exact .inr ⟨0,e,c,by simp[ax],by simp[Instr.findAsking,n,K],o,A,K⟩;simp only[r,decide_false]at n;rcases GI (k:=k) (w:=w) B es m (i+1) N with⟨E,F,H⟩|⟨j,M,L,E,F,H,O,Q⟩;refine .inl ⟨?_,by simp[Instr.findAsking,n,F],?_⟩;simp only[ax,r,if_false];exact E;intro x C;cases C with
   |head=>intro q;exact r<|B.inj _ _ (by rw[<-q,A])
   |tail _ C=>exact H x C
   refine .inr ⟨j+1,M,L,?_,?_,by simpa using H,O,Q⟩;simp only[ax,r,if_false];exact E;simp[Instr.findAsking,n,F];omega
def JH{k:κ}{w:World}(n:sY P kz a1)(es:List MapEntry):(Instr.findKey kz (a1 k) es).run P w=(Instr.findAsking kz (a1 k) es 0).run P w:=by
 obtain⟨len,e,hu⟩:=n.UG;cases es with
 |nil=>simp[Instr.findKey,run_underlying hu,Instr.findNow,Instr.findAsking]
 |cons x es=>
  have:Instr.findNow (.array len e) (a1 k) (x::es) 0=none:=by
   unfold Instr.findNow Instr.sameNow;rfl
  simp[Instr.findKey,run_underlying hu,this]
def Th{k:κ}{w:World}(n:sY P kz a1):(Instr.keyThatStays (a1 k) (a1 k)).run P w= .ok (a1 k) w:=by
 simp[Instr.keyThatStays,n.same]
def o2{r:Nat}(n:Obj):W (fun c=>c=r) H (H.setIfInBounds r n):=⟨by simp,fun b hb k=>by simp[ku k]⟩
def H7{k:κ}{b:β}{key:Value}(C:∀a b,a1 a=a1 b->a=b)(E:key=a1 k):∀(es:List MapEntry) (m:List (κ×β)) (j:Nat) (e:MapEntry),es.map (fun e=>(e.key,e.val))=m.map (fun p=>(a1 p.1,fv p.2))->(es.map (·.key)).Nodup->es[j]?=some e->e.key=a1 k->
 (es.modify j (fun e=>{e with key:=key,val:=fv b})).map (fun e=>(e.key,e.val))=(m.map (fun p=>if p.1=k then(p.1,b)else p)).map (fun p=>(a1 p.1,fv p.2))
 |[],_,_,_,_,_,h,_=>by simp at h
 |x::es,m,j,e,h,ar,n,he=>by
  match m,h with
  |(a,c)::m,h=>
   simp only[dQ,j6,ig]at h;obtain⟨⟨r,H⟩,A⟩:=h;simp only[dQ,oV]at ar;cases j with
   |zero=>
    simp only[List.getElem?_cons_zero,ld]at n;subst n;have B:a=k:=C _ _ (by rw[<-r,he]);subst B;simp only[List.modify_zero_cons,dQ,if_true,E];congr 1;rw[A,oU];apply oW;intro p K;have:p.1≠a:=by
     intro e;apply ar.1;have:(a1 p.1,fv p.2)∈es.map (fun e=>(e.key,e.val)):=by rw[A];exact dp.2 ⟨p,K,o⟩
     obtain⟨y,hy,F⟩:=dp.1 this;simp only[ig]at F;exact dp.2 ⟨y,hy,by rw[F.1,e,r]⟩
    simp[this]
   |succ j=>
    simp only[List.getElem?_cons_succ]at n;have B:a≠k:=by
     intro q;subst q;apply ar.1;rw[r,<-he];exact dp.2 ⟨e,yc n,o⟩
    simp only[List.modify_succ_cons,dQ,B,if_false,r,H];rw[H7 C E es m j e A ar.2 n he]
def S.I9{t ag:TypeId}{x i y:Operand}{k:κ}(z:β)(h:dA H a1 fv b m)(A:sY P kz a1)(Z:J.op= .mapUpdate t x i y)(hm:∀w,(underlying t).run P w= .ok (.map kz ag) w)
 (ae:aI l x=some (.map (some b)))(V:aI l i=some (a1 k))(hy:aI l y=some (fv z)):S P w0 n l H J (fun aa=>dA aa a1 fv b (h8 m k z)/\W (fun c=>c=b) H aa):=by
 intro ac w B C;obtain⟨r,es,clock,aq,ah,T,K,L⟩:=h.fQ.ex;obtain rfl:=ah;have E:w.heap[r]?=some (.map es clock):=by rw[C.heap];exact T
 have ak:=(Array.getElem?_eq_some_iff.1 T).1;have U:∀M,(H.setIfInBounds r M)[r]?=some M:=fun M=>by simp[ak]
 rcases GI (k:=k) (w:=w) A es.toList m 0 L with⟨N,O,F⟩|⟨j,R,al,N,O,F,Q,av⟩;refine⟨H.setIfInBounds r (.map (es.push {key:=a1 k,val:=fv z,born:=clock}) (clock+1)),{w with heap:=H.setIfInBounds r (.map (es.push {key:=a1 k,val:=fv z,born:=clock}) (clock+1))},?_,C.set,⟨⟨r,_,_,rfl,rfl,U _,stamped_push K F,?_⟩⟩,o2 _⟩;simp[execOp,Z,B.eval ae,B.eval V,B.eval hy,Instr.mapUpdate,hm,MapKept.run_getObj_map E,A.check,JH A,O,MapKept.run_setObj_map _ E,C.heap];simp[h8,N,L];have X:es[j]?=some R:=by simpa using F
 have ai:∀e,es[j]?=some e->({e with key:=a1 k,val:=fv z}:MapEntry).key=e.key:=fun e he=>by rw[X]at he;cases he;exact Q.symm
 refine⟨H.setIfInBounds r (.map (es.modify j fun e=>{e with key:=a1 k,val:=fv z}) clock),{w with heap:=H.setIfInBounds r (.map (es.modify j fun e=>{e with key:=a1 k,val:=fv z}) clock)},?_,C.set,⟨⟨r,_,_,rfl,rfl,U _,stamped_modify K _ _ (fun _ _=>rfl) (fun e _ he=>ai e he),?_⟩⟩,o2 _⟩;simp[execOp,Z,B.eval ae,B.eval V,B.eval hy,Instr.mapUpdate,hm,MapKept.run_getObj_map E,A.check,JH A,O,X,Q,Th A,MapKept.run_setObj_map _ E,C.heap];have:=H7 (fv:=fv) (b:=z) A.inj o es.toList m j R L K.2.2 F Q;rw[Array.toList_modify,this];simp[h8,N]
def ey(m:List (κ×β))(k:κ):List (κ×β):=m.filter (fun p=>decide (p.1≠k))
def mK(m:List (κ×β))(k q:κ):ax (ey m k) q=if q=k then none else ax m q:=by
 induction m with
 |nil=>simp[ey,ax]
 |cons p m ih=>
  unfold ey at ih⊢;by_cases r:p.1=k;rw[n_ (by simp[r]),ih];by_cases n:q=k;simp[n];rw[au n,au n];simp only[ax];rw[au (fun e=>n (e.trans r))];rw[oa (by simp[r])];simp only[ax];by_cases n:q=p.1;rw[aD n,aD n,au (fun e=>r (n.symm.trans e))];rw[au n,au n,ih]
def ru{m:List (κ×β)}{k:κ}{z:β}(h:ax m k=some z):(k,z)∈m:=by
 induction m with
 |nil=>cases h
 |cons p m ih=>
  simp only[ax]at h;split at h;rename_i e;cases h;rw[e];exact .head _;exact .tail _ (ih h)
def HY{m:List (κ×β)}{k:κ}(h:ax m k=none):∀p∈m,p.1≠k:=by
 induction m with
 |nil=>simp
 |cons p m ih=>
  simp only[ax]at h;split at h;cases h;rename_i r;intro q n e;cases n with
  |head=>exact r e.symm
  |tail _ n=>exact ih h q n e
def o0{m:List (κ×β)}(ar:(m.map (·.1)).Nodup){k:κ}{z:β}(h:(k,z)∈m):ax m k=some z:=by
 induction m with
 |nil=>cases h
 |cons p m ih=>
  simp only[dQ,oV]at ar;simp only[ax];cases h with
  |head=>simp
  |tail _ h=>
   rw[au ?_];exact ih ar.2 h;intro e;exact ar.1<|dp.2 ⟨(k,z),h,e⟩
def gM{m:List (κ×β)}{k:κ}:(ax m k).isSome=true↔k∈m.map (·.1):=by
 constructor;intro h;obtain⟨z,A⟩:=vE.1 h;exact dp.2 ⟨_,ru A,o⟩;intro h;obtain⟨p,r,e⟩:=dp.1 h;cases n:ax m k with
 |some z=>rfl
 |none=>exact absurd e<|HY n p r
def Gp{k:κ}(C:∀a b,a1 a=a1 b->a=b):∀(es:List MapEntry) (m:List (κ×β)) (j:Nat) (e:MapEntry),es.map (fun e=>(e.key,e.val))=m.map (fun p=>(a1 p.1,fv p.2))->(es.map (·.key)).Nodup->es[j]?=some e->e.key=a1 k->
 (es.eraseIdx j).map (fun e=>(e.key,e.val))=(ey m k).map (fun p=>(a1 p.1,fv p.2))
 |[],_,_,_,_,_,h,_=>by simp at h
 |x::es,m,j,e,h,ar,n,he=>by
  match m,h with
  |(a,c)::m,h=>
   simp only[dQ,j6,ig]at h;obtain⟨⟨r,F⟩,A⟩:=h;simp only[dQ,oV]at ar;cases j with
   |zero=>
    simp only[List.getElem?_cons_zero,ld]at n;subst n;have B:a=k:=C _ _ (by rw[<-r,he]);subst B;have hm:ey ((a,c)::m) a=m:=by
     unfold ey;rw[n_ a_];apply yi.2;intro p H;simp only[lf];intro e;apply ar.1;have:(a1 p.1,fv p.2)∈es.map (fun e=>(e.key,e.val)):=by rw[A];exact dp.2 ⟨p,H,o⟩
     obtain⟨y,hy,E⟩:=dp.1 this;simp only[ig]at E;exact dp.2 ⟨y,hy,by rw[E.1,e,r]⟩
    rw[hm];simpa using A
   |succ j=>
    simp only[List.getElem?_cons_succ]at n;have B:a≠k:=by
     intro q;subst q;apply ar.1;rw[r,<-he];exact dp.2 ⟨e,yc n,o⟩
    have hm:ey ((a,c)::m) k=(a,c)::ey m k:=by
     unfold ey;rw[oa (by simp[B])]
    rw[hm];simp only[List.eraseIdx_cons_succ,dQ,r,F];rw[Gp C es m j e A ar.2 n he]
def dA.le(h:dA H a1 fv b m):b+1<=H.size:=h.lt
structure jx (H:Heap) (a1:κ->Value) (fv:β->Value) (b:Nat) (m:List (κ×β)) (es:Array MapEntry) (clock:Nat):Prop where
 at_:H[b]?=some (.map es clock)
 st:Stamped es clock
 eq:es.toList.map (fun e=>(e.key,e.val))=m.map (fun p=>(a1 p.1,fv p.2))
def dA.raw(h:dA H a1 fv b m):∃es clock,jx H a1 fv b m es clock:=by
 obtain⟨r,es,clock,C,k,n,A,B⟩:=h.fQ.ex;obtain rfl:=k;exact⟨es,clock,n,A,B⟩
section
variable {es : Array MapEntry} {clock : Nat} {aa : Heap}
def jx.mp(h:jx H a1 fv b m es clock):dA H a1 fv b m:=⟨⟨b,es,clock,o,o,h.at_,h.st,h.eq⟩⟩
def jx.lt(h:jx H a1 fv b m es clock):b<H.size:=h.mp.lt
def jx.up{S:Nat->Prop}(h:jx H a1 fv b m es clock)(s:W S H aa)(k:¬S b):jx aa a1 fv b m es clock:=⟨by rw[s.same b h.lt k];exact h.at_,h.st,h.eq⟩
def jx.aL(h:jx H a1 fv b m es clock)(s:an H aa):jx aa a1 fv b m es clock:=h.up s (fun e=>e)
instance:cO (jx H a1 fv b m es clock) H aa (jx aa a1 fv b m es clock):=⟨fun s h=>h.aL s⟩
def jx.aA{ks:List Nat}(h:jx H a1 fv b m es clock)(s:W (aq ks) H aa)(d:ak (b+1) ks):jx aa a1 fv b m es clock:=h.up s (fun k=>d (b+1) k b o o)
instance:cP (jx H a1 fv b m es clock) H aa (jx aa a1 fv b m es clock) (ai (b+1)):=⟨fun s h d=>h.aA s (ak.J d)⟩
def jx.fQ(h:jx H a1 fv b m es clock):kp (fun x=>x=b) H a1 fv (.map (some b)) m:=h.mp.fQ
end
structure jv (H:Heap) (b r:Nat) (a1:κ->Value) (es:Array MapEntry) (clock:Nat) (dn:List κ):Prop where
 ex:∃kh:List MapEntry,H[b]?=some (.mapIter (some r) clock (kh.map (·.born)).toArray clock)/\(∀e∈kh,e∈es.toList)/\kh.map (·.key)=dn.map a1
section
variable {es : Array MapEntry} {clock r : Nat} {aa : Heap} {dn : List κ}
def jv.lt(h:jv H b r a1 es clock dn):b<H.size:=by
 obtain⟨kh,k,_⟩:=h.ex;exact(Array.getElem?_eq_some_iff.1 k).1
def jv.up{S:Nat->Prop}(h:jv H b r a1 es clock dn)(s:W S H aa)(A:¬S b):jv aa b r a1 es clock dn:=by
 obtain⟨kh,k,n⟩:=h.ex;exact⟨kh,by rw[s.same b h.lt A];exact k,n⟩
def jv.aL(h:jv H b r a1 es clock dn)(s:an H aa):jv aa b r a1 es clock dn:=h.up s (fun e=>e)
def jv.aA{ks:List Nat}(h:jv H b r a1 es clock dn)(s:W (aq ks) H aa)(d:ak (b+1) ks):jv aa b r a1 es clock dn:=h.up s (fun k=>d (b+1) k b o o)
instance:cO (jv H b r a1 es clock dn) H aa (jv aa b r a1 es clock dn):=⟨fun s h=>h.aL s⟩
instance:cP (jv H b r a1 es clock dn) H aa (jv aa b r a1 es clock dn) (ai (b+1)):=⟨fun s h d=>h.aA s (ak.J d)⟩
def Z.y9{t r:TypeId}{x:Operand}(h:jx H a1 fv b m es clock)(C:J.op= .range t x)(hm:∀w,(underlying t).run P w= .ok (.map kz r) w)(E:aI l x=some (.map (some b))):
 Z P w0 n l H J (fun v aa=>v= .pointer (some ⟨H.size,0,none⟩)/\jv aa H.size b a1 es clock ([]:List κ)/\an H aa/\∃F,aa=H.push F):=by
 intro ac w B k;have A:w.heap[b]?=some (.map es clock):=by rw[k.heap];exact h.at_
 refine⟨.pointer (some ⟨w.heap.size,0,none⟩),H.push (.mapIter (some b) clock #[] clock),w.alloc (.mapIter (some b) clock #[] clock),?_,k.alloc _,by rw[k.heap],⟨[],by simp,by simp,o⟩,an.pu _ _,_,o⟩;simp[execOp,C,B.eval E,Instr.range,hm,MapKept.run_getObj_map A]
def Cv(q:Bool)(a c:Value):Value:= .tuple (if q then #[.bool true,a,c]else #[.bool false])
def M.xN{x:Operand}{q:Bool}{a c:Value}(r:J.op= .extract x 0)(A:aI l x=some (Cv q a c)):M P w0 n l H J (.bool q):=by
 intro ac w k B;cases q<;>simp[execOp,r,k.eval A,Cv,Instr.extract]
def JP(C:∀a b,a1 a=a1 b->a=b){m:List (κ×β)}{kh:List MapEntry}(Y:Stamped es clock)(A:∀e∈kh,e∈es.toList)(ab:kh.map (·.key)=dn.map a1){e:MapEntry}(he:e∈es.toList){a:κ}(r:e.key=a1 a):e.born∈kh.map (·.born)↔a∈dn:=by
 have F:∀x∈es.toList,∀y∈es.toList,x.born=y.born->x=y:=fun x n y hy hb=>wi Y.2.1 n hy hb;have H:∀x∈es.toList,∀y∈es.toList,x.key=y.key->x=y:=fun x n y hy hb=>wi Y.2.2 n hy hb;constructor;intro h;obtain⟨y,hy,hb⟩:=dp.1 h;have:=F y (A y hy) e he hb;subst this;have k:y.key∈dn.map a1:=by rw[<-ab];exact dp.2 ⟨y,hy,o⟩
 obtain⟨c,aj,B⟩:=dp.1 k;rw[C _ _ (r.symm.trans B.symm)];exact aj;intro h;have k:a1 a∈kh.map (·.key):=by rw[ab];exact dp.2 ⟨a,h,o⟩
 obtain⟨y,hy,E⟩:=dp.1 k;have:=H y (A y hy) e he (E.trans r.symm);subst this;exact dp.2 ⟨y,hy,o⟩
def Z.yM{x:Operand}[Inhabited κ][Inhabited β](h:jv H b r a1 es clock dn)(k:jx H a1 fv r m es clock)(S:∀a b,a1 a=a1 b->a=b)(U:J.op= .next x false)(A:aI l x=some (.pointer (some ⟨b,0,none⟩))):
 Z P w0 n l H J (fun v aa=>∃(q:Bool) (a:κ) (c:β) (E:List κ),v=Cv q (a1 a) (fv c)/\jv aa b r a1 es clock E/\(q=true->(a,c)∈m/\a∉dn/\E=dn++[a])/\(q=false->(∀p∈m,p.1∈dn)/\E=dn)/\W (fun g=>g=b) H aa):=by
 intro ac w R B;obtain⟨kh,V,F,K⟩:=h.ex;have X:w.heap[b]?=some (.mapIter (some r) clock (kh.map (·.born)).toArray clock):=by rw[B.heap];exact V
 have ak:w.heap[r]?=some (.map es clock):=by rw[B.heap];exact k.at_
 have hold:∀x∈es.toList,x.born<clock:=k.st.1;have ai:=h.lt;have aw:∀e∈es.toList,∃a c,(a,c)∈m/\e.key=a1 a/\e.val=fv c:=by
  intro e he;have:(e.key,e.val)∈m.map (fun p=>(a1 p.1,fv p.2)):=by rw[<-k.eq];exact dp.2 ⟨e,he,o⟩
  obtain⟨p,N,O⟩:=dp.1 this;simp only[ig]at O;exact⟨p.1,p.2,N,O.1.symm,O.2.symm⟩
 rcases run_next_at (P:=P) w J.type b r clock clock _ es clock X ak hold (dF _)with⟨ah,af⟩|⟨e,he,k0,aq,af⟩;refine⟨.tuple #[.bool false],H,w,by simp[execOp,U,R.eval A,af],B,false,default,default,dn,o,h,by simp,fun _=>⟨fun p N=>?_,o⟩,W.refl _ _⟩;have:(a1 p.1,fv p.2)∈es.toList.map (fun e=>(e.key,e.val)):=by rw[k.eq];exact dp.2 ⟨p,N,o⟩
 obtain⟨e,he,Q⟩:=dp.1 this;simp only[ig]at Q;have Y:=all_seen es _ ah e he;refine(JP (m:=m) S k.st F K he Q.1).1 ?_;simpa using Y;obtain⟨L,T⟩:=mem_left he;obtain⟨a,c,ae,M,al⟩:=aw e L;have C:At w0 H k0:=by
  rcases aq with rfl|rfl;exact B;exact B.drew
 refine⟨.tuple #[.bool true,e.key,e.val],H.setIfInBounds b (.mapIter (some r) clock ((kh.map (·.born)).toArray.push e.born) clock),_,by simp[execOp,U,R.eval A,af];rfl,?_,true,a,c,dn++[a],by rw[M,al];rfl,⟨kh++[e],?_,?_,?_⟩,fun _=>⟨ae,?_,o⟩,by simp,o2 _⟩;exact⟨by simp[ChangeMaps.setBlock,C.heap],C.os,C.tape,C.output,C.hK⟩;simp[ai];intro x A;rcases gR.1 A with h|h;exact F x h;simp only[fm]at h;subst h;exact L;simp[K,M];intro ag;have:=(JP (m:=m) S k.st F K L M).2 ag;simp at T;simp at this;obtain⟨x,A,av⟩:=this;exact T x A av
def M.xM{x:Operand}{a:κ}{c:β}(h:jv H b r a1 es clock (dn++[a]))(A:jx H a1 fv r m es clock)(ag:∀a b,a1 a=a1 b->a=b)(R:(a,c)∈m)(Z:J.op= .entry x)(k:aI l x=some (.pointer (some ⟨b,0,none⟩))):M P w0 n l H J (.tuple #[a1 a,fv c]):=by
 intro ac w U F;obtain⟨kh,N,Q,E⟩:=h.ex;have O:w.heap[b]?=some (.mapIter (some r) clock (kh.map (·.born)).toArray clock):=by rw[F.heap];exact N
 have W:w.heap[r]?=some (.map es clock):=by rw[F.heap];exact A.at_
 have X:kh≠[]:=by intro e;subst e;simp at E
 obtain⟨e,he⟩:∃e,kh.getLast?=some e:=by
  rw[List.getLast?_eq_some_getLast X];exact⟨_,o⟩
 have T:e∈kh:=List.mem_of_getLast? he;have K:e.key=a1 a:=by
  have:=bn List.getLast? E;simpa[he]using this
 have B:=Q e T;have S:(kh.map (·.born)).toArray.back?=some e.born:=by simp[he]
 have V:es.find? (fun x=>x.born==e.born)=some e:=by
  rw[<-Array.find?_toList];obtain⟨x,k⟩:∃x,es.toList.find? (fun x=>x.born==e.born)=some x:=by
   rw[<-vE,List.find?_isSome];exact⟨e,B,by simp⟩
  have ae:=List.mem_of_find?_eq_some k;have L:=List.find?_some k;simp only[beq_iff_eq]at L;rw[k,wi A.st.2.1 ae B L]
 have aa:e.val=fv c:=by
  have:(a1 a,fv c)∈es.toList.map (fun e=>(e.key,e.val)):=by rw[A.eq];exact dp.2 ⟨_,R,o⟩
  obtain⟨y,hy,C⟩:=dp.1 this;simp only[ig]at C;have:=wi A.st.2.2 hy B (C.1.trans K.symm);rw[<-this];exact C.2
 simp[execOp,Z,U.eval k,Instr.entry,getObj,Sem.run,O,W,S,V,K,aa]
end
end
def fN.AB{w0:World}{i:Nat}{l:az}{J:Oper}{d:Nat}{c:Operand}{fO:Value}(S:aE[i]?=some J)(T:J.op= .call {callee:= .value c,args:=jt.toArray,argTypes:=nM})(Q:aI l c=some fO)(U:jb l jt=some hv)(hw:eB aE l J)(ab:J.dst=some d)(ar:Nat.blt d n=true)(aj:iV P w0 fO hv H R)(h:∀v aa,R v aa->(bQ.contains i=true\/c3 aa)/\N P w0 aE aZ c3 bQ n k (i::vq33z) ((d,v)::l) aa):fN P w0 aE aZ c3 bQ n k i vq33z l H:=by
 intro a w B L;obtain⟨f,caps,rfl,M,O⟩:=aj;have af:(execOp a.eval J).run P w= .ok (.enter f (hv.toArray++caps)) w:=by
  have A:=B.oM U;have W:(jt.toArray.map a.eval)=hv.toArray:=by rw[tF,A]
  simp[execOp,T,resolve,Deferred.ofValue,B.eval Q,invoke,M,A]
 unfold wpOp;simp only[S];rw[aD (hw n a B)];refine .inl ?_;unfold Oper.wp;rw[af];show Calls P f (hv.toArray++caps) w _;refine(O w L).mono ?_;rintro e V ⟨r,aa,rfl,E,K⟩;obtain⟨C,A⟩:=h r aa K;have F:=B.put ar r;rw[<-ab]at F;exact⟨C.imp id (fun C=>⟨aa,E,C⟩),A _ V F E⟩
def JF{w0:World}{v:Value}(h:Rd F H a7 1 v wt){w:World}(B:At w0 H w):(Extern.Bytes.bytesOf v).run P w= .ok ⟨wt.toArray⟩ w:=by
 obtain⟨ad,cap,rfl,_,_,A⟩:=id h.ex;cases ad with
 |none=>
  have K:wt=[]:=by
   apply hB;intro C;obtain⟨ad,ar,_⟩:=A C;cases ar
  subst K;rfl
 |some ad=>
  have E:=h.qN eM o B;have n:=Lib.run_loadBytesX (P:=P) w (wt.map (fun b=>(b.toNat:Int))) ad .empty (fun j x k=>by
   apply E;rw[tz];rw[List.getElem?_map]at k⊢;cases r:wt[j]? with
   |none=>simp[r]at k
   |some y=>simp[r]at k⊢;exact k)
  rw[Mg,dK]at n;have he:(⟨ByteArray.empty.data++wt.toArray⟩:ByteArray)=⟨wt.toArray⟩:=by
   apply Bh;show(#[]:Array UInt8)++wt.toArray=wt.toArray;simp
  rw[he]at n;exact n
def M.compare{w0:World}{l:az}{J:Oper}{f:FuncId}{u v:Value}{ys:List UInt8}(h:Rd F H a7 1 u wt)(A:Rd ki H a7 1 v ys)(E:J.op= .call {callee:= .value (.func f),args:=jt.toArray,argTypes:=nM})(B:P.funcs[f]?=some eO)(C:(eO.name== "runtime.NumGoroutine")=false)(hb:eO.body.isNone=true)(ar:Extern.findNext eO=none)(he:Extern.find eO=some Extern.BytealgCompare.compare)(K:jb l jt=some [u,v]):M P w0 n l H J (.int .i64 (Lib.compareBytes wt ys)):=by
 refine M.ext E B C hb ar he K fun w k=>?_;have bc:=JF (P:=P) h k;have r:=JF (P:=P) A k;change Sem.run P (do pure (goInt (Extern.BytealgCompare.cmp (<-Extern.Bytes.bytesOf u) (<-Extern.Bytes.bytesOf v)))) w=_;simp only[Sem.run_bind,bc,r,Sem.run_pure,Result.andThen];rw[Lib.cmp_eq];rfl
def U.z{h:Nat}{a:Nat}(x:U 0 h k):U a h k:=by unfold U at*;omega
abbrev rY(ro:Option Nat):Fence:={Fence.wide with round:=ro}
structure h_ (H:Heap) (b:Nat) (r:Loop):Prop where
 at_:H[b]?=some (.loop r)
structure kl (H:Heap) (b:Nat):Prop where
 at_:H[b]?=some (.deferred (some []))
def h_.lt{b:Nat}{r:Loop}(h:h_ H b r):b<H.size:=(Array.getElem?_eq_some_iff.1 h.at_).1
def h_.up{b:Nat}{r:Loop}(h:h_ H b r)(s:W F H V)(k:¬F b):h_ V b r:=⟨by rw[s.same b h.lt k];exact h.at_⟩
def h_.aL{b:Nat}{r:Loop}(h:h_ H b r)(s:an H V):h_ V b r:=h.up s (fun e=>e)
def h_.aA{b:Nat}{r:Loop}(h:h_ H b r)(s:W (aq vq33z) H V)(d:ak (b+1) vq33z):h_ V b r:=h.up s (fun k=>d (b+1) k b o o)
instance{b:Nat}{r:Loop}:cO (h_ H b r) H V (h_ V b r):=⟨fun s h=>h.aL s⟩
instance{b:Nat}{r:Loop}:cP (h_ H b r) H V (h_ V b r) (ai (b+1)):=⟨fun s h d=>h.aA s (ak.J d)⟩
def kl.lt{b:Nat}(h:kl H b):b<H.size:=(Array.getElem?_eq_some_iff.1 h.at_).1
def kl.up{b:Nat}(h:kl H b)(s:W F H V)(k:¬F b):kl V b:=⟨by rw[s.same b h.lt k];exact h.at_⟩
def kl.aL{b:Nat}(h:kl H b)(s:an H V):kl V b:=h.up s (fun e=>e)
def kl.aA{b:Nat}(h:kl H b)(s:W (aq vq33z) H V)(d:ak (b+1) vq33z):kl V b:=h.up s (fun k=>d (b+1) k b o o)
instance{b:Nat}:cO (kl H b) H V (kl V b):=⟨fun s h=>h.aL s⟩
instance{b:Nat}:cP (kl H b) H V (kl V b) (ai (b+1)):=⟨fun s h d=>h.aA s (ak.J d)⟩
def Var.le{e:TypeId}{b:Nat}{cs:List Value}(h:Var e H b cs):b+1<=H.size:=h.lt
def hx(ro:Option Nat)(P:Program)(w0:World)(ops:Array Oper)(k:Exit->Act->World->Prop)(n:Nat)(l:az)(rest:List Oper)(H:Heap):Prop:=
 ∀a w,Fr n l a->At w0 H w->wpListIn (rY ro) 0 P ops k rest a w
def uU(P:Program)(w0:World)(bd:Nat)(args:List Value)(H:Heap)(R:Value->Heap->Prop):Prop:=
 ∀w,At w0 H w->YieldAt (rY none) 0 P bd args.toArray w (fun e k=>∃r aa,e= .returned r/\At w0 aa k/\R r aa)
def hx.nil{ro:Option Nat}{w0:World}{l:az}(h:jy w0 aZ n l H):hx ro P w0 aE aZ n l [] H:=fun a w r k=>h a w r k
def hx.v{ro:Option Nat}{w0:World}{l:az}{J:Oper}{v:Value}{d:Nat}(hy:M P w0 n l H J v)(B:∀c,J.op≠ .defer c)(hw:eB aE l J)(ab:J.dst=some d)(ar:Nat.blt d n=true)(h:hx ro P w0 aE aZ n ((d,v)::l) bY H):hx ro P w0 aE aZ n l (J::bY) H:=by
 intro a w k r;have A:=k.put ar v;rw[<-ab]at A;unfold wpListIn;rw[aD (hw n a k)];refine⟨fun _ _=>trivial,?_⟩;rw[Oper.semAt_eq _ _ _ B,hy a w k r];exact h _ w A r
def hx.z{ro:Option Nat}{w0:World}{l:az}{J:Oper}{d:Nat}(F:Z P w0 n l H J R)(E:∀c,J.op≠ .defer c)(hw:eB aE l J)(ab:J.dst=some d)(ar:Nat.blt d n=true)(h:∀v aa,R v aa->hx ro P w0 aE aZ n ((d,v)::l) bY aa):hx ro P w0 aE aZ n l (J::bY) H:=by
 intro a w k B;obtain⟨v,aa,K,af,C,A⟩:=F a w k B;have r:=k.put ar v;rw[<-ab]at r;unfold wpListIn;rw[aD (hw n a k)];refine⟨fun _ _=>trivial,?_⟩;rw[Oper.semAt_eq _ _ _ E,af];exact h v aa A _ K r C
def hx.s{ro:Option Nat}{w0:World}{l:az}{J:Oper}(F:S P w0 n l H J c3)(E:∀c,J.op≠ .defer c)(hw:eB aE l J)(ab:J.dst=none)(h:∀aa,c3 aa->hx ro P w0 aE aZ n l bY aa):hx ro P w0 aE aZ n l (J::bY) H:=by
 intro a w k B;obtain⟨aa,r,af,C,A⟩:=F a w k B;unfold wpListIn;rw[aD (hw n a k)];refine⟨fun _ _=>trivial,?_⟩;rw[Oper.semAt_eq _ _ _ E,af];show wpListIn (rY ro) 0 P aE aZ bY (a.put J.dst undef) r;rw[ab];exact h aa A a r k C
def hx.round{w0:World}{l:az}{J:Oper}{d:Nat}{c:Operand}(C:J.op= .call {callee:= .value c,args:=jt.toArray,argTypes:=nM})(M:aI l c=some (.func (.yield k) #[] #[]))(N:jb l jt=some hv)(hw:eB aE l J)(ab:J.dst=some d)(ar:Nat.blt d n=true)(aj:uU P w0 k hv H R)(h:∀v aa,R v aa->hx none P w0 aE aZ n ((d,v)::l) bY aa):hx none P w0 aE aZ n l (J::bY) H:=by
 intro a w A K;obtain⟨fn,tmps,assign,body,hy,af⟩:=aj w K;have he:(execOp a.eval J).run P w= .ok (.round k fn tmps assign body) w:=by
  have B:=A.oM N;have Q:(jt.toArray.map a.eval)=hv.toArray:=by rw[tF,B]
  simp[execOp,C,resolve,Deferred.ofValue,A.eval M,invoke,B,hy]
 unfold wpListIn;rw[aD (hw n a A)];refine⟨fun _ _=>trivial,?_⟩;rw[Oper.semAt_eq _ _ _ (by intro c e;rw[C]at e;cases e),he,Oper.uponIn_round];refine⟨fun q=>(by cases q),?_⟩;refine af.mono ?_;rintro e O ⟨r,aa,rfl,L,F⟩;have E:=A.put ar r;rw[<-ab]at E;exact h r aa F _ O E L
def b6.Sw{w0:World}{l:az}(h:hx none P w0 bY.toArray aZ n l bY H):b6 P w0 aZ n l (.region k bY.toArray false) H:=
 fun a w A r=>wpIn_wide.1 (wpIn_region_lit (h a w A r))
def hx.mono{ro:Option Nat}{w0:World}{l:az}{r:Exit->Act->World->Prop}(C:∀e a w,aZ e a w->r e a w)(h:hx ro P w0 bY.toArray aZ n l bY H){a:Act}{w:World}(B:Fr n l a)(A:At w0 H w):(Code.region k bY.toArray false).wpIn (rY ro) 0 P r a w:=
 Code.wpIn_mono C (wpIn_region_lit (h a w B A))
def uU.of{w0:World}{l:az}{r:Loop}{x:Value}{p al:Nat}{ed:List Oper}(Z:h_ H k r)(K:r.state= .ready)(O:r.pending=none)(Q:r.params= #[p])(S:r.assign= .region vq7z bY.toArray false)(T:r.body= .block vq28z (.region al ed.toArray false))(W:Fr n l {tmps:=r.tmps.setIfInBounds p x,defers:=[]})(h:hx (some k) P w0 bY.toArray (fun e bq k0=>e= .normal/\∃L A,Fr n L bq/\At w0 A k0/\h_ A k r/\
  hx (some k) P w0 ed.toArray (fun e a3 M=>e= .normal/\∃B,At w0 B M/\h_ B k {r with state:= .busy}/\R (.bool true) (B.setIfInBounds k (.loop r))) n L ed (A.setIfInBounds k (.loop {r with state:= .busy}))) n l bY H):
 uU P w0 k [x] H R:=by
 intro w N;have ag:w.heap[k]?=some (.loop r):=by rw[N.heap];exact Z.at_
 refine⟨r.fn,r.tmps.setIfInBounds p x,r.assign,r.body,?_,?_⟩;have:=run_yield (P:=P) (args:= #[x]) ag (by rw[Q];rfl);rw[Q]at this;simpa using this;refine roundIn_of_wpIn (F:=rY none) trivial ?_;rw[S,T];refine hx.mono (ro:=some k) ?_ h W N;rintro e bq k0 ⟨rfl,L,A,X,C,aa,hb⟩;have ah:k0.heap[k]?=some (.loop r):=by rw[C.heap];exact aa.at_
 refine⟨_,run_beginRound (P:=P) ah K,?_⟩;have V:At w0 (A.setIfInBounds k (.loop {r with state:= .busy})) (k0.putObj k (.loop {r with state:= .busy})):=by
  unfold World.putObj;rw[C.heap];exact C.set
 refine wpIn_block ?_;refine hx.mono (ro:=some k) ?_ hb X V;rintro e a3 M ⟨rfl,B,E,ae,U⟩;have ai:M.heap[k]?=some (.loop {r with state:= .busy}):=by rw[E.heap];exact ae.at_
 refine⟨_,_,run_endRound (P:=P) none ai,.bool true,B.setIfInBounds k (.loop r),o,?_,U⟩;have ak:({({r with state:= .busy}:Loop)with state:=if(none:Option Code).isNone then .ready else .done,pending:=none}:Loop)=r:=by
  cases r;simp only at K O;subst K O;rfl
 rw[ak];unfold World.putObj;rw[E.heap];exact E.set
def a8.still{w0:World}{f:FuncId}{v:Value}(h:∀w,At w0 H w->Calls P f vq14z w fun e n=>e= .returned v/\n=w):a8 P w0 f vq14z H (fun r A=>r=v/\an H A):=
 fun w k=>(h w k).mono (fun e n ⟨he,hw⟩=>⟨v,H,he,by rw[hw];exact k,o,an.refl _⟩)
abbrev gL(m:Int)(H:Heap):Prop:=nu (fun b=>b=0) H ⟨0,0,none⟩ [.int .i64 m]
def gL.cell{m:Int}{w0 w:World}(h:gL m H)(k:At w0 H w):w.cell? ⟨0,0,none⟩=some (.int .i64 m):=by
 have:=h.T.cells 0 (.int .i64 m) o;rw[k.cell];exact this
def FI(s:List UInt8){w0:World}(aV:gL vq24z H)(Y:s.length<4294967281):a8 prog w0 124 #[aJ s,aJ wt] H (fun r k=>r= .bool (Lib.contains s wt)/\an H k):=
 a8.still (fun w n=>by
  have h:Calls prog 124 #[aJ s,aJ wt] w fun e A=>e= .returned (.bool (Lib.contains s wt))/\A=w:=Any.strings_Contains Tryz.lays144 ⟨s.toArray⟩ ⟨wt.toArray⟩ vq24z w (by simpa[ByteArray.size]using Y) (aV.cell n);exact h)
def sp(cur:List UInt8):List UInt8->List (List UInt8)
 |[]=>[cur]
 |c::l=>if c=47 then cur::sp [] l else sp (cur++[c]) l
def Dm:∀(s cur:List UInt8),∃p cq,Lib.splitK [47] 0 (s.count 47) s=p::cq/\sp cur s=(cur++p)::cq
 |[],cur=>⟨[],[],o,by simp[sp]⟩
 |c::l,cur=>by
  by_cases h:c=47;subst h;obtain⟨p,cq,n,r⟩:=Dm l [];refine⟨[],p::cq,?_,by rw[sp,aD o,r];simp⟩;have E:Lib.index (47::l) [47]=0:=by simp[Lib.index]
  rw[List.count_cons_self,Lib.splitK,E];simpa using n;obtain⟨p,cq,n,r⟩:=Dm l (cur++[c]);refine⟨c::p,cq,?_,by rw[sp,au h,r];simp⟩;have aj:(c::l).count 47=l.count 47:=by rw[List.count_cons];simp[h]
  rw[aj];have L:((47:UInt8)==c)=false:=by simpa using fun e:(47:UInt8)=c=>h e.symm
  have K:([47]:List UInt8).isPrefixOf (c::l)=false:=by rw[List.isPrefixOf,L];rfl
  cases C:l.count 47 with
  |zero=>rw[C,Lib.splitK]at n;obtain⟨rfl,rfl⟩:=List.cons.inj n;rfl
  |succ k=>
   rw[C,Lib.splitK]at n;rw[Lib.splitK,Lib.index,K];by_cases hm:Lib.index l [47]= -1;simp[hm]at n⊢;exact n;obtain⟨j,A⟩:∃j:Nat,Lib.index l [47]=j:=by
    have:=Lib.index_ge l [47];exact⟨(Lib.index l [47]).toNat,by omega⟩
   have B:¬((j:Int)= -1):=by omega
   have F:¬((j:Int)+1= -1):=by omega
   have H:((j:Int)+1).toNat=j+1:=by omega
   simp[A,B]at n;simp[A,B,F,H,n]
def TP{s:List UInt8}:Lib.splitK [47] 0 (s.count 47) s=sp [] s:=by
 obtain⟨p,cq,k,n⟩:=Dm s [];rw[k,n];simp
def Gx:∀l:List ByteArray,l.map Value.string=(l.map (·.data.toList)).flatMap ha
 |[]=>rfl
 |x::l=>by
  have e:Value.string x=aJ x.data.toList:=by cases x;simp[aJ]
  simp[Gx l,e]
def PT:(prog.info? 9).map (fun i=>(i.zero,i.size,i.bytes))=some (some (.string ByteArray.empty),1,16):=by kernel_rfl
def TO(s:List UInt8){w0:World}(aV:gL vq24z H)(Y:s.length<4294967281):a8 prog w0 145 #[aJ s,aJ [47]] H (fun r A=>∃E:Value,∃C:Nat,r=E/\aS C 9 A ha 1 E (sp [] s)/\U 0 H.size C/\an H A):=by
 intro w n;have h:Calls prog 145 #[aJ s,aJ [47]] w fun e F=>e= .returned (.slice (some ⟨w.heap.size,0,none⟩) (Lib.countB ⟨s.toArray⟩ ⟨#[47]⟩+1) (Lib.countB ⟨s.toArray⟩ ⟨#[47]⟩+1))/\F=w.alloc (.cells ((Lib.splitB ⟨#[47]⟩ 0 (Lib.countB ⟨s.toArray⟩ ⟨#[47]⟩) ⟨s.toArray⟩).map Value.string).toArray 9):=Any.strings_Split Tryz.lays146 PT ⟨s.toArray⟩ ⟨#[47]⟩ vq24z w (by simpa[ByteArray.size]using Y) (aV.cell n) aO;refine h.mono ?_;rintro e F ⟨rfl,rfl⟩;have B:Lib.countB ⟨s.toArray⟩ ⟨#[47]⟩=s.count 47:=by show Lib.count s [47]=_;exact Lib.count_one 47 s
 have k:(Lib.splitB ⟨#[47]⟩ 0 (Lib.countB ⟨s.toArray⟩ ⟨#[47]⟩) ⟨s.toArray⟩).map (·.data.toList)=sp [] s:=by
  rw[Lib.splitB_data,B];exact TP
 have hlen:(sp [] s).length=Lib.countB ⟨s.toArray⟩ ⟨#[47]⟩+1:=by
  rw[<-k,dK];exact Lib.splitB_all ⟨#[47]⟩ aO 0 _ ⟨s.toArray⟩ o
 have bP:=n.heap;have hle:s.count 47<=s.length:=List.count_le_length;refine⟨_,_,o,n.alloc _,_,H.size+1,o,?_,by unfold U;omega,an.pu _ _⟩;refine⟨⟨ts,tt,.inr ⟨w.heap.size,Lib.countB ⟨s.toArray⟩ ⟨#[47]⟩+1,((Lib.splitB ⟨#[47]⟩ 0 (Lib.countB ⟨s.toArray⟩ ⟨#[47]⟩) ⟨s.toArray⟩).map Value.string).toArray,by rw[hlen],by rw[bP],.of (by rw[bP];simp),by rw[hlen];exact dF _,by rw[B];unfold maxLen;omega,?_,?_⟩⟩,by simp⟩;rw[pK,dK,m_];have:=bn List.length k;rw[dK]at this;omega;have:(sp [] s).length*1=((Lib.splitB ⟨#[47]⟩ 0 (Lib.countB ⟨s.toArray⟩ ⟨#[47]⟩) ⟨s.toArray⟩).map Value.string).length:=by
  rw[dK,m_,<-k,dK]
 show(List.map Value.string _).take _=_;rw[this,eQ,Gx,k]
def n3{s:List UInt8}{c:UInt8}{w0:World}:a8 prog w0 125 #[aJ s,.int .u8 c.toNat] H (fun r k=>r= .int .i64 (Lib.indexByte s c)/\an H k):=
 a8.still (fun w A=>by
  have h:Calls prog 125 #[aJ s,.int .u8 c.toNat] w fun e n=>e= .returned (.int .i64 (Lib.indexByte s ((c.toNat:Int)).toNat.toUInt8))/\n=w:=Any.strings_IndexByte Tryz.lays137 ⟨s.toArray⟩ c.toNat w;have e:((c.toNat:Int)).toNat.toUInt8=c:=by simp
  rw[e]at h;exact h)
def G2{s p:List UInt8}{w0:World}:a8 prog w0 198 #[aJ s,aJ p] H (fun r k=>r= .bool (p.isPrefixOf s)/\an H k):=
 a8.still (fun w A=>by
  have h:Calls prog 198 #[aJ s,aJ p] w fun e n=>e= .returned (.bool (Lib.hasPrefix s p))/\n=w:=Any.strings_HasPrefix Tryz.lays99 ⟨s.toArray⟩ ⟨p.toArray⟩ w;exact h)
def xc{l:List aP}{p:aP->Bool}{j:Nat}(h:(l.take j).any p=false)(n:j<l.length)(k:p l[j]=false):(l.take (j+1)).any p=false:=by
 rw[fc n,List.any_append,h];simpa using k
def s6{l:List aP}{p:aP->Bool}{j:Nat}(k:j<l.length)(h:p l[j]=true):l.any p=true:=qw.2 ⟨l[j],cS k,h⟩
def ec(c:UInt8):Bool:=decide ((97<=c.toNat/\c.toNat<=122)\/(65<=c.toNat/\c.toNat<=90)\/(48<=c.toNat/\c.toNat<=57)\/c.toNat=46\/c.toNat=95\/c.toNat=45\/c.toNat=47)
def fj{c:UInt8}(h:(97<=c.toNat/\c.toNat<=122)\/(65<=c.toNat/\c.toNat<=90)\/(48<=c.toNat/\c.toNat<=57)\/c.toNat=46\/c.toNat=95\/c.toNat=45\/c.toNat=47):Value.bool true= .bool (ec c):=by rw[ec,fB h]
def gQ{c:UInt8}(h:¬((97<=c.toNat/\c.toNat<=122)\/(65<=c.toNat/\c.toNat<=90)\/(48<=c.toNat/\c.toNat<=57)\/c.toNat=46\/c.toNat=95\/c.toNat=45\/c.toNat=47)):Value.bool false= .bool (ec c):=by rw[ec,fG h]
def ri(c:UInt8):0<=Lib.indexByte [46,95,45,47] c↔(c.toNat=46\/c.toNat=95\/c.toNat=45\/c.toNat=47):=by
 have h:∀n:Fin 256,(decide (0<=Lib.indexByte [46,95,45,47] (UInt8.ofNat n.val))=decide (n.val=46\/n.val=95\/n.val=45\/n.val=47)):=by decide+kernel
 have:=h ⟨c.toNat,c.toNat_lt⟩;simp only[Bq]at this;exact decide_eq_decide.1 this
def o8(s:List UInt8):Bool:=decide (s≠[]/\(s.getD 0 0).toNat≠46/\(s.getD 0 0).toNat≠45/\(s.getD (s.length-1) 0).toNat≠46)&& !Lib.contains s [46,46]
def ny{l:List UInt8}{i:Nat}(h:i<l.length):l.getD i 0=l[i]:=by simp[List.getD,h]
def RU{s:List UInt8}(h:s≠[]/\(s.getD 0 0).toNat≠46/\(s.getD 0 0).toNat≠45/\(s.getD (s.length-1) 0).toNat≠46):Value.bool (!Lib.contains s [46,46])= .bool (o8 s):=by rw[o8,fB h,yh]
def y4{s:List UInt8}(h:¬(s≠[]/\(s.getD 0 0).toNat≠46/\(s.getD 0 0).toNat≠45/\(s.getD (s.length-1) 0).toNat≠46)):Value.bool false= .bool (o8 s):=by rw[o8,fG h,ye]
def fi(s:List UInt8):Int:=if s.length>60\/(s.any (fun c=> !ec c))=true then 7 else if(sp [] s).any (fun p=> !o8 p)=true then 7 else 0
def Dk:∀{s cur x:List UInt8},x∈sp cur s->x.length<=cur.length+s.length
 |[],cur,x,h=>by simp[sp]at h;subst h;simp
 |c::l,cur,x,h=>by
  rw[sp]at h;split at h;rcases dI.1 h with h|h;subst h;omega;have:=Dk h;simp only[ie,fA]at*;omega;have:=Dk h;simp only[b2,fA,ie]at*;omega
def TD{c:UInt8}{w0:World}:
 a8 prog w0 143 #[.int .u8 c.toNat] H (fun r C=>r= .bool (ec c)/\an H C):=by
 refine G.bN func143 o fun k=>G.sp 4 6 o (fun g6=>?_) (fun g6=>?_);refine G.ip o ?_ ?_<;>intro K;exact G.rt o ⟨by first|exact fj I|(rw[ec];exact eX (by rw[n];omega)),k⟩;refine G.sp 3 13 o ?_ ?_<;>intro E;refine G.ip o ?_ ?_<;>intro F;exact G.rt o ⟨by first|exact fj I|(rw[ec];exact eX (by rw[n];omega)),k⟩;refine G.sp 3 20 o ?_ ?_<;>intro am;refine G.ip o ?_ ?_<;>intro B;exact G.rt o ⟨by first|exact fj I|(rw[ec];exact eX (by rw[n];omega)),k⟩;refine G.aC o nU (n3) ?_;rintro ap aU ⟨rfl,A⟩;obtain⟨k,_⟩:=cv A k;have n:=ri c;exact G.rt o ⟨by first|exact fj I|(rw[ec];exact eX (by rw[n];omega)),k⟩;refine G.dP o<|G.aC o nU (n3) ?_;rintro ap aU ⟨rfl,A⟩;obtain⟨k,_⟩:=cv A k;have n:=ri c;exact G.rt o ⟨by first|exact fj I|(rw[ec];exact eX (by rw[n];omega)),k⟩;refine G.dP o<|G.sp 3 20 o ?_ ?_<;>intro am;refine G.ip o ?_ ?_<;>intro B;exact G.rt o ⟨by first|exact fj I|(rw[ec];exact eX (by rw[n];omega)),k⟩;refine G.aC o nU (n3) ?_;rintro ap aU ⟨rfl,A⟩;obtain⟨k,_⟩:=cv A k;have n:=ri c;exact G.rt o ⟨by first|exact fj I|(rw[ec];exact eX (by rw[n];omega)),k⟩;refine G.dP o<|G.aC o nU (n3) ?_;rintro ap aU ⟨rfl,A⟩;obtain⟨k,_⟩:=cv A k;have n:=ri c;exact G.rt o ⟨by first|exact fj I|(rw[ec];exact eX (by rw[n];omega)),k⟩;refine G.dP o<|G.sp 3 13 o ?_ ?_<;>intro E;refine G.ip o ?_ ?_<;>intro F;exact G.rt o ⟨by first|exact fj I|(rw[ec];exact eX (by rw[n];omega)),k⟩;refine G.sp 3 20 o ?_ ?_<;>intro am;refine G.ip o ?_ ?_<;>intro B;exact G.rt o ⟨by first|exact fj I|(rw[ec];exact eX (by rw[n];omega)),k⟩;refine G.aC o nU (n3) ?_;rintro ap aU ⟨rfl,A⟩;obtain⟨k,_⟩:=cv A k;have n:=ri c;exact G.rt o ⟨by first|exact fj I|(rw[ec];exact eX (by rw[n];omega)),k⟩;refine G.dP o<|G.aC o nU (n3) ?_;rintro ap aU ⟨rfl,A⟩;obtain⟨k,_⟩:=cv A k;have n:=ri c;exact G.rt o ⟨by first|exact fj I|(rw[ec];exact eX (by rw[n];omega)),k⟩;refine G.dP o<|G.sp 3 20 o ?_ ?_<;>intro am;refine G.ip o ?_ ?_<;>intro B;exact G.rt o ⟨by first|exact fj I|(rw[ec];exact eX (by rw[n];omega)),k⟩;refine G.aC o nU (n3) ?_;rintro ap aU ⟨rfl,A⟩;obtain⟨k,_⟩:=cv A k;exact G.rt o ⟨by first|exact fj I|(rw[ec];exact eX (by rw[(ri c)];omega)),k⟩;refine G.dP o<|G.aC o nU (n3) ?_;rintro ap aU ⟨rfl,A⟩;obtain⟨k,_⟩:=cv A k;exact G.rt o ⟨by first|exact fj I|(rw[ec];exact eX (by rw[(ri c)];omega)),k⟩
def N1{c:UInt8}{w0:World}:
 a8 prog w0 142 #[.int .u8 c.toNat] H (fun r n=>r= .bool (!ec c)/\an H n):=by
 refine G.bN func142 o fun k=>G.aC o MF (TD) ?_;rintro v4 A ⟨rfl,ac⟩;have k:=k.al ac;exact G.O o e7<|G.rt o ⟨o,k⟩
def K9{p:Prop}(h:p:=by
 refine G.bN O o fun C=>?_;have A:=A.cD;have ai:=A.len;refine G.O o (bz A K) ?_
 refine G.bd o (fun(j:Nat)=>[(0,v),(1,eL),(7,.int .i64 l.length),(8,.int .i64 j)])
  (fun(j:Nat) (H:Heap)=>(j<=l.length)/\(l.take j).any p=false/\an k H)
  (fun(j:Nat)=>l.length-j) 0 ⟨I,o,W.refl _ _⟩ ?_
 rintro j X ⟨ah,F,E⟩ U T;obtain⟨A,C,_⟩:=bG E A C;refine G.ip o ?_ ?_<;>intro ag;refine G.pp o (M.cw A j o K P o o) fun V R=>G.O o (aY R.T Q)<|G.gF o o o o (N l[j] _ C (cS I)) ?_;rintro Z ae ⟨rfl,S⟩;obtain⟨C,E,_⟩:=bG S C E;refine G.ci o ?_ ?_<;>intro L;exact G.rt o ⟨j,o,⟨⟨fun _=>s6 (j:=j) I (by simpa using L),fun _=>by omega⟩,by omega,by omega⟩,C⟩;exact G.O o bB<|G.aQ o<|T (j+1) _ ⟨I,xc F I (by simpa using L),E⟩;exact G.rt o ⟨-1,o,⟨⟨fun h=>by omega,fun h=>by rw[e5 I,h]at F;cases F⟩,by omega,by omega⟩,C⟩):p:=h
def PO{v eL:Value}{l:List UInt8}{p:UInt8->Bool}{w0:World}{k:Heap}(A:b_ k a7 1 v l)(N:∀(x:UInt8) (aa:Heap),an k aa->x∈l->iV prog w0 eL [.int .u8 x.toNat] aa (fun r B=>r= .bool (p x)/\an aa B)):
 a8 prog w0 193 #[v,eL] k (fun r B=>∃n:Int,r= .int .i64 n/\((0<=n↔l.any p=true)/\ -1<=n/\n<=9223372036854775807)/\an k B):=by
 have O:=@func193;have K:=@c_;have P:=@db;have Q:=@e8;exact K9
def Oi{v eL:Value}{l:List UInt8}{p:UInt8->Bool}{w0:World}(k:b_ H a7 1 v l)(E:∀(x:UInt8) (aa:Heap),an H aa->x∈l->iV prog w0 eL [.int .u8 x.toNat] aa (fun r n=>r= .bool (p x)/\an aa n)):
 a8 prog w0 141 #[v,eL] H (fun r n=>r= .bool (l.any p)/\an H n):=by
 refine G.bN func141 o fun A=>?_;have k:=k.cD;have K:=k.len;refine G.aC o M1 (PO k.any E) ?_;rintro L F ⟨n7,rfl,C,ac⟩;have A:=A.al ac;exact G.rt o ⟨by cases B:l.any p with|true=>(rw[fB (C.1.2 B)])|false=>(rw[fG (fun h=>by rw[C.1.1 h]at B;cases B)]),A⟩
def PR{v eL:Value}{l:List (List UInt8)}{p:List UInt8->Bool}{w0:World}{k:Heap}(A:b_ k ha 1 v l)(N:∀(x:List UInt8) (aa:Heap),an k aa->x∈l->iV prog w0 eL [aJ x] aa (fun r B=>r= .bool (p x)/\an aa B)):
 a8 prog w0 194 #[v,eL] k (fun r B=>∃n:Int,r= .int .i64 n/\((0<=n↔l.any p=true)/\ -1<=n/\n<=9223372036854775807)/\an k B):=by
 have O:=@func194;have K:=@lr;have P:=@b7;have Q:=@cm;exact K9
def Ol{v:Value}(eL:Value){l:List (List UInt8)}(p:List UInt8->Bool)(w0:World)(k:b_ H ha 1 v l)(E:∀(x:List UInt8) (aa:Heap),an H aa->x∈l->iV prog w0 eL [aJ x] aa (fun r n=>r= .bool (p x)/\an aa n)):
 a8 prog w0 144 #[v,eL] H (fun r n=>r= .bool (l.any p)/\an H n):=by
 refine G.bN func144 o fun A=>?_;have k:=k.cD;have K:=k.len;refine G.aC o M3 (PR k.any E) ?_;rintro L F ⟨n7,rfl,C,ac⟩;have A:=A.al ac;exact G.rt o ⟨by cases B:l.any p with|true=>(rw[fB (C.1.2 B)])|false=>(rw[fG (fun h=>by rw[C.1.1 h]at B;cases B)]),A⟩
def RV{s:List UInt8}{w0:World}(aV:gL vq24z H)(N:bk (fun b=>b=0) H.size)(Y:s.length<=1000):
 a8 prog w0 147 #[aJ s] H (fun r A=>r= .bool (o8 s)/\an H A):=by
 refine G.bN func147 o fun k=>G.ae 2 o kJ (G.sp 1 5 o (fun g5=>?_) fun g5=>?_);have C:0<s.length:=yj.2 g5;have bN:=ny (l:=s) (i:=0) C;have bc:=ny (l:=s) (i:=s.length-1) I;refine G.O o (l1 (0) e6)<|G.sp 3 10 o ?_ ?_<;>intro ad;refine G.O o (l1 (0) e6)<|G.sp 3 15 o ?_ ?_<;>intro E;refine G.O o (hn e6)<|G.O o (M.cast (v2:= .int .i64 ((s.length-1:Nat):Int)) eA<|di I)<|G.O o (l1 (s.length-1) e6)<|G.sp 3 23 o ?_ ?_<;>intro F;refine G.aC o EK (FI s aV I) ?_;rintro K L ⟨rfl,B⟩;obtain⟨k,_⟩:=cv B k;exact G.O o e7<|G.rt o ⟨RU ⟨g5,by rw[bN];omega,by rw[bN];omega,by rw[bc];omega⟩,k⟩;exact G.rt o ⟨y4 (fun h=>by have n:=h.2.2.2;rw[bc]at n;omega),k⟩;exact G.rt o ⟨y4 (fun h=>by have n:=h.2.2.1;rw[bN]at n;omega),k⟩;exact G.rt o ⟨y4 (fun h=>by have n:=h.2.1;rw[bN]at n;omega),k⟩;exact G.rt o ⟨y4 (fun h=>g5 h.1),k⟩
def N2(s:List UInt8){w0:World}(aV:gL vq24z H)(A:bk (fun b=>b=0) H.size)(Y:s.length<=1000):
 a8 prog w0 146 #[aJ s] H (fun r n=>r= .bool (!o8 s)/\an H n):=by
 refine G.bN func146 o fun k=>G.aC o MJ (RV aV (A.mono I) Y) ?_;rintro v4 B ⟨rfl,ac⟩;have k:=k.al ac;exact G.O o e7<|G.rt o ⟨o,k⟩
def xD(s:List UInt8){w0:World}(aV:gL vq24z H)(E:bk (fun b=>b=0) H.size)(Y:s.length<=9223372036854775807):
 a8 prog w0 60 #[aJ s] H (fun r n=>r= .int .i64 (fi s)/\an H n):=by
 refine G.bN func60 o fun k=>G.O o (hn e6) (G.sp 2 6 o (fun g6=>?_) fun g6=>?_);exact G.it o<|G.rt o ⟨by first|(rw[fi,aD (.inl I)])|(rw[fi,aD (.inr ch)])|(rw[fi,au (by rintro(h|h);omega;simp_all),aD ch])|(rw[fi,au (by rintro(h|h);omega;simp_all),au iN]),k⟩;refine G.aR o (Z.zw o underlying9 underlying93 underlying5 o I) ?_;rintro U K ⟨B,C,aH⟩;obtain⟨aV,k,_⟩:=bG C aV k;refine G.aC o MD (Oi B.rd.any fun x n _ _=>iV.of (caps:=[]) ME (N1)) ?_;rintro v9 L ⟨rfl,am⟩;obtain⟨aV,k,_⟩:=bG am aV k;refine G.ci o ?_ ?_<;>intro Q;exact G.rt o ⟨by first|(rw[fi,aD (.inl I)])|(rw[fi,aD (.inr ch)])|(rw[fi,au (by rintro(h|h);omega;simp_all),aD ch])|(rw[fi,au (by rintro(h|h);omega;simp_all),au iN]),k⟩;refine G.aC o MH (TO s aV I) ?_;rintro S M ⟨V,T,rfl,A,bt,ac⟩;obtain⟨aV,k,_⟩:=bG ac aV k;have P:=A.le;refine G.aC o MG (Ol (.func (.func 146) #[] #[]) (fun p=> !o8 p) w0 A.rd.any fun x n ar F=>iV.of (caps:=[]) MI<|N2 x (aV.aL ar) (E.mono (by have:=ar.size;omega)) (by have:=Dk F;simp only[ie]at this;omega)) ?_;rintro N O ⟨rfl,ad⟩;obtain⟨k,_⟩:=cv ad k;refine G.ci o ?_ ?_<;>intro R;exact G.rt o ⟨by first|(rw[fi,aD (.inl I)])|(rw[fi,aD (.inr ch)])|(rw[fi,au (by rintro(h|h);omega;simp_all),aD ch])|(rw[fi,au (by rintro(h|h);omega;simp_all),au iN]),k⟩;exact G.rt o ⟨by first|(rw[fi,aD (.inl I)])|(rw[fi,aD (.inr ch)])|(rw[fi,au (by rintro(h|h);omega;simp_all),aD ch])|(rw[fi,au (by rintro(h|h);omega;simp_all),au iN]),k⟩
def vt(s:List UInt8)(i:Nat):Prop:=i=0\/(s.getD (i-1) 0).toNat=47
def yC(s:List UInt8)(i:Nat):Prop:=i+1=s.length\/(s.getD (i+1) 0).toNat=47
def ue(s:List UInt8)(i:Nat):Prop:=ec (s.getD i 0)=true/\¬((s.getD i 0).toNat=47/\(vt s i\/i+1=s.length))/\¬(vt s i/\((s.getD i 0).toNat=46\/(s.getD i 0).toNat=45))/\¬(yC s i/\(s.getD i 0).toNat=46)/\¬((s.getD i 0).toNat=46/\0<i/\(s.getD (i-1) 0).toNat=46)
def scan(p:Nat):List UInt8->Prop
 |[]=>p≠47/\p≠46
 |c::l=>ec c=true/\(c.toNat=47->p≠47/\p≠46)/\(p=47->c.toNat≠46/\c.toNat≠45)/\¬(c.toNat=46/\p=46)/\scan c.toNat l
def yR(p:Nat)(c:UInt8)(l:List UInt8):Prop:=ec c=true/\¬(c.toNat=47/\(p=47\/l.length=0))/\¬(p=47/\(c.toNat=46\/c.toNat=45))/\¬((l.length=0\/(l.getD 0 0).toNat=47)/\c.toNat=46)/\¬(c.toNat=46/\p=46)
def sI(p:Nat):List UInt8->Prop
 |[]=>True
 |c::l=>yR p c l/\sI c.toNat l
def C_:∀(l:List UInt8) (p:Nat),scan p l↔sI p l/\(l.length=0->p≠47/\p≠46)/\(l.length≠0->(l.getD 0 0).toNat=47->p≠46)
 |[],p=>by simp[scan,sI]
 |c::l,p=>by
  have ih:=C_ l c.toNat;simp only[scan,sI,yR,fA,yk];rw[ih];constructor;rintro⟨B,k,n,A,C,r,F⟩;refine⟨⟨⟨B,?_,?_,?_,A⟩,C⟩,fun h=>by omega,fun _ h=>(k h).2⟩;rintro⟨a,b|b⟩;exact(k a).1 b;exact(r b).1 a;rintro⟨a,b|b⟩;exact(n a).1 b;exact(n a).2 b;rintro⟨a|a,b⟩;exact(r a).2 b;by_cases E:l.length=0;exact(r E).2 b;exact F E a b;rintro⟨⟨⟨B,k,n,A,C⟩,r⟩,_,H⟩;refine⟨B,fun a=>⟨fun b=>k ⟨a,.inl b⟩,H I a⟩,fun a=>⟨fun b=>n ⟨a,.inl b⟩,fun b=>n ⟨a,.inr b⟩⟩,C,r,fun a=>⟨fun b=>k ⟨b,.inr a⟩,fun b=>A ⟨.inl a,b⟩⟩,fun _ a b=>A ⟨.inr a,b⟩⟩
def sH(p:Nat)(s:List UInt8)(i:Nat):Prop:=yR (if i=0 then p else(s.getD (i-1) 0).toNat) (s.getD i 0) (s.drop (i+1))
def Cx:∀(s:List UInt8) (p:Nat),sI p s↔∀i,i<s.length->sH p s i
 |[],p=>by simp[sI]
 |c::l,p=>by
  have ih:=Cx l c.toNat;rw[sI,ih];constructor;rintro⟨n,r⟩ i k;cases i with
  |zero=>simpa[sH]using n
  |succ i=>
   have:=r i (by simpa using k);unfold sH at this⊢;cases i with
   |zero=>simpa using this
   |succ i=>simpa using this
  intro h;refine⟨by simpa[sH]using h 0 a_,fun i k=>?_⟩;have:=h (i+1) (by simpa using k);unfold sH at this⊢;cases i with
  |zero=>simpa using this
  |succ i=>simpa using this
def Iz{s:List UInt8}{i:Nat}(H:i<s.length):sH 47 s i↔ue s i:=by
 have E:(s.drop (i+1)).length=0↔i+1=s.length:=by rw[h6];omega
 have C:(s.drop (i+1)).getD 0 0=s.getD (i+1) 0:=by simp[List.getD]
 unfold sH ue yR vt yC;rw[E,C];by_cases k:i=0;rw[aD k];simp only[k,true_or,true_and,and_true];constructor;rintro⟨n,r,A,B,_⟩;exact⟨n,r,A,B,fun h=>by omega⟩;rintro⟨n,r,A,B,_⟩;exact⟨n,r,A,B,fun h=>by omega⟩;rw[au k];have F:0<i:=by omega
 simp only[k,false_or,F,true_and]
def j7(cur:List UInt8):Nat:=match cur.getLast? with|none=>47|some c=>c.toNat
def QG(cur:List UInt8)(c:UInt8):j7 (cur++[c])=c.toNat:=by simp[j7]
def hJ:List UInt8->Bool
 |[]=>false
 |c::l=>(decide (c.toNat=46)&&(match l.head? with|none=>false|some d=>decide (d.toNat=46)))||hJ l
def Cl{c:UInt8}:(46==c)=decide (c.toNat=46):=by
 have:(46=c)↔(c.toNat=46):=⟨fun h=>by rw[<-h];rfl,fun h=>by apply qx;rw[h];rfl⟩;by_cases h:46=c;rw[fB (this.1 h)];simpa using h;rw[fG (fun e=>h (this.2 e))];simpa using h
def FO:∀l:List UInt8,Lib.contains l [46,46]=hJ l
 |[]=>by decide
 |c::l=>by
  have ih:=FO l;unfold Lib.contains at ih⊢;have n:=Lib.index_ge l [46,46];have k:([46,46]:List UInt8).isPrefixOf (c::l)=(decide (c.toNat=46)&&(match l.head? with|none=>false|some d=>decide (d.toNat=46))):=by
   cases l with
   |nil=>rw[List.isPrefixOf,Cl];simp
   |cons d l=>rw[List.isPrefixOf,List.isPrefixOf,Cl,Cl];simp
  rw[Lib.index,k,hJ];cases h:(decide (c.toNat=46)&&(match l.head? with|none=>false|some d=>decide (d.toNat=46)))with
  |true=>simp
  |false=>
   rw[au a_,Br,<-ih];by_cases hm:Lib.index l [46,46]= -1;rw[aD (by rw[hm];rfl),hm];rw[au (by simpa using hm)];exact decide_eq_decide.2 I
def FQ:∀(l:List UInt8) (c:UInt8),hJ (l++[c])=(hJ l||(decide (j7 l=46)&&decide (c.toNat=46)))
 |[],c=>by simp[hJ,j7]
 |[d],c=>by
  have k:j7 [d]=d.toNat:=rfl;have n:hJ [d]=false:=by simp[hJ]
  have r:hJ ([d]++[c])=(decide (d.toNat=46)&&decide (c.toNat=46)||hJ [c]):=rfl;have A:hJ [c]=false:=by simp[hJ]
  rw[k,n,r,A,Bool.or_false,Br]
 |d::e::l,c=>by
  have ih:=FQ (e::l) c;have k:j7 (d::e::l)=j7 (e::l):=by simp[j7]
  have n:hJ (d::e::l)=(decide (d.toNat=46)&&decide (e.toNat=46)||hJ (e::l)):=rfl;have r:hJ (d::e::l++[c])=(decide (d.toNat=46)&&decide (e.toNat=46)||hJ (e::l++[c])):=rfl;rw[k,n,r,ih,Bool.or_assoc]
def rG(cur:List UInt8):Prop:=(cur≠[]->(cur.getD 0 0).toNat≠46/\(cur.getD 0 0).toNat≠45)/\hJ cur=false
def HL{s:List UInt8}(h:s≠[]):j7 s=(s.getD (s.length-1) 0).toNat:=by
 have:s.getLast?=some (s.getD (s.length-1) 0):=by
  rw[List.getLast?_eq_getElem?,List.getD_eq_getElem?_getD];have:=yj.2 h;rw[List.getElem?_eq_getElem I];rfl
 unfold j7;rw[this]
def IZ(n:∀c∈wt,c.toNat≠47):o8 wt=true↔rG wt/\j7 wt≠47/\j7 wt≠46:=by
 unfold o8 rG;rw[FO,ob,lf];by_cases k:wt=[];subst k;simp[j7];rw[HL k];have hm:wt.getD (wt.length-1) 0∈wt:=by
  have:=yj.2 k;rw[ny I];exact cS _
 have:=n _ hm;simp only[k,ne_eq,not_false_eq_true,true_and,forall_const,tI];constructor;rintro⟨⟨a,b,c⟩,d⟩;exact⟨⟨⟨a,b⟩,d⟩,this,c⟩;rintro⟨⟨⟨a,b⟩,d⟩,_,c⟩;exact⟨⟨a,b,c⟩,d⟩
def R5{c:UInt8}(k:∀c∈wt,c.toNat≠47):rG (wt++[c])↔rG wt/\(j7 wt=47->c.toNat≠46/\c.toNat≠45)/\¬(c.toNat=46/\j7 wt=46):=by
 unfold rG;rw[FQ];cases wt with
 |nil=>simp[hJ,j7]
 |cons d l=>
  have hm:j7 (d::l)≠47:=by
   rw[HL a_];refine k _ ?_;rw[ny a_];exact cS _
  simp only[me,ne_eq,reduceCtorEq,not_false_eq_true,yk,forall_const,Bs,yl,decide_eq_false_iff_not,hm,false_implies,true_and];constructor;rintro⟨a,b,c⟩;exact⟨⟨a,b⟩,fun h=>by rcases c with c|c;exact c h.2;exact c h.1⟩;rintro⟨⟨a,b⟩,c⟩;refine⟨a,b,?_⟩;by_cases h:j7 (d::l)=46;exact .inr (fun e=>c ⟨e,h⟩);exact .inl h
def Q8{c:UInt8}:c=47↔c.toNat=47:=⟨fun h=>by rw[h];rfl,fun h=>by apply qx;rw[h];rfl⟩
def Pu:ec 47=true:=by decide
def Dl:∀(s cur:List UInt8),(∀c∈cur,c.toNat≠47)->(((∀p∈sp cur s,o8 p=true)/\(∀c∈s,ec c=true))↔(rG cur/\scan (j7 cur) s))
 |[],cur,h=>by
  simp only[sp,fm,forall_eq,kN,false_implies,implies_true,and_true,scan];exact IZ h
 |c::l,cur,h=>by
  by_cases aj:c=47;subst aj;have ih:=Dl l [] (fun c h=>by cases h);have bN:j7 []=47:=rfl;have C:rG []:=⟨fun h=>absurd o h,o⟩;rw[bN]at ih;have t47:(47:UInt8).toNat=47:=rfl;simp only[sp,if_true,dI,forall_eq_or_imp,scan,Pu,t47,true_and,ne_eq,forall_const];have:=IZ h;constructor;rintro⟨⟨a,b⟩,d⟩;obtain⟨n,k,r⟩:=this.1 a;exact⟨n,⟨k,r⟩,fun _=>⟨by decide,by decide⟩,fun e=>by omega,(ih.1 ⟨b,d⟩).2⟩;rintro⟨a,⟨b,d⟩,_,_,e⟩;obtain⟨n,k⟩:=ih.2 ⟨C,e⟩;exact⟨⟨this.2 ⟨a,b,d⟩,n⟩,k⟩;have ar:c.toNat≠47:=fun e=>aj (Q8.2 e);have B:∀d∈cur++[c],d.toNat≠47:=by
   intro d ab;rcases gR.1 ab with ab|ab;exact h d ab;rw[fm]at ab;rw[ab];exact ar
  have ih:=Dl l (cur++[c]) B;rw[QG,R5 h]at ih;simp only[sp,au aj,dI,forall_eq_or_imp,scan];constructor;rintro⟨a,b,d⟩;obtain⟨⟨n,k,r⟩,A⟩:=ih.1 ⟨a,d⟩;exact⟨n,b,fun e=>absurd e ar,k,r,A⟩;rintro⟨a,b,_,k,r,A⟩;obtain⟨E,F⟩:=ih.2 ⟨⟨a,k,r⟩,A⟩;exact⟨E,b,F⟩
def r8(s:List UInt8):fi s=0↔s.length<=60/\scan 47 s:=by
 have h:=Dl s [] (fun c h=>by cases h);have E:rG []:=⟨fun h=>absurd o h,o⟩;rw[show j7 []=47 from rfl]at h;unfold fi;constructor;intro k;split at k;cases k;rename_i B;split at k;cases k;rename_i n;refine⟨by omega,(h.1 ⟨fun p A=>?_,fun c aj=>?_⟩).2⟩;simp only[qw,not_exists,not_and,tI,Bool.not_eq_false]at n;exact n p A;have r:¬(s.any (fun c=> !ec c))=true:=fun e=>B (.inr e);simp only[qw,not_exists,not_and,tI,Bool.not_eq_false]at r;exact r c aj;rintro⟨B,n⟩;obtain⟨r,C⟩:=h.2 ⟨E,n⟩;rw[au,au];intro e;obtain⟨p,A,e⟩:=qw.1 e;rw[r p A]at e;cases e;rintro(e|e);omega;obtain⟨c,aj,e⟩:=qw.1 e;rw[C c aj]at e;cases e
def xE(s:List UInt8):fi s=0\/fi s=7:=by
 unfold fi;split;exact .inr o;split;exact .inr o;exact .inl o
def Sg{s:List UInt8}(n:¬s.length<1)(r:¬s.length>60)(h:∀i,i<s.length->ue s i):fi s=0:=by
 refine(r8 s).2 ⟨by omega,(C_ s 47).2 ⟨(Cx s 47).2 (fun i k=>(Iz k).2 (h i k)),fun e=>by omega,fun _ _=>by decide⟩⟩
def wB{s:List UInt8}{i:Nat}(n:i<s.length)(h:¬ue s i):fi s=7:=by
 rcases xE s with k|k;obtain⟨_,r⟩:=(r8 s).1 k;exact absurd ((Iz n).1 ((Cx s 47).1 ((C_ s 47).1 r).1 i n)) h;exact k
def N8{s:List UInt8}(h:s.length<1):fi s=7:=by
 have:s=[]:=Hi.1 I;subst this;decide+kernel
def N7{s:List UInt8}(h:s.length>60):fi s=7:=by unfold fi;rw[aD (.inl h)]
def Rv{s:List UInt8}{i:Nat}{fb ed bX bM A B:Bool}(M:ec (s.getD i 0)=true)(L:fb=true↔vt s i)(N:ed=true↔yC s i)(k:bX=true↔((s.getD i 0).toNat=47/\(fb=true\/i+1=s.length)))(n:bM=true↔(fb=true/\((s.getD i 0).toNat=46\/(s.getD i 0).toNat=45)))
 (r:A=true↔(ed=true/\(s.getD i 0).toNat=46))(C:B=true↔((s.getD i 0).toNat=46/\0<i/\(s.getD (i-1) 0).toNat=46))(E:bX=false)(F:bM=false)(H:A=false)(K:B=false):ue s i:=by
 subst E F H K;simp only[nb,false_iff]at k n r C;rw[L]at k n;rw[N]at r;exact⟨M,k,n,r,C⟩
end Go.Proofs.YtncnignagcoahaaGreatDoor.E
