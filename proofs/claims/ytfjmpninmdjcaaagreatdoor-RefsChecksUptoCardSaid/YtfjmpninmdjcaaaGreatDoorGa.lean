/-
  Contracts of functions of the program, and plain laws: put together of several texts.
-/
import Derived.WalkKit
import Derived.StillTail
import Derived.OrdersHeld
import Derived.Deep.RegionHeld3
import Derived.MapKept
import Derived.Lib.ConvBytes
import Derived.Lib.AppendStr
import Derived.Laws.Pointers
import Derived.Laws.Cover3
import Derived.Test.YtfjmpninmdjcaaaGreatDoorRows
import Derived.Lib.BytesEntry
import Derived.Maps.RangeRun
import Derived.Lib.Bytealg
import Derived.RangeFuncLeaves
import Derived.RangeFuncRecord
import Derived.RangeFuncSeq
import Derived.TacticsIn
import Derived.Lib.SplitLaws
import Derived.Test.YtfjmpninmdjcaaaGreatDoorShelf
set_option linter.unusedVariables false
set_option linter.unusedSimpArgs false
set_option linter.unusedSectionVars false
set_option linter.defProp false
set_option maxHeartbeats 8000000
set_option maxRecDepth 20000
namespace Go.Proofs.YtfjmpninmdjcaaaGreatDoor

namespace E
abbrev Heap:=Array Obj
abbrev bZ:=List (Nat×Value)
def cL:bZ→Nat→Option Value
 |[],_=>none
 |(s,v)::l,t=>match Nat.beq s t with
  |true=>some v
  |false=>cL l t
structure Fr (n:Nat) (l:bZ) (a:Act):Prop where
 defers:a.defers=[]
 size:a.tmps.size=n
 get:∀t v,cL l t=some v→a.tmps[t]?=some v
def aF(l:bZ):Operand→Option Value
 | .tmp t=>cL l t
 | .const v=>some v
 | .global g=>some (.pointer (some ⟨g,0,none⟩))
 | .func f=>some (.func (.func f) #[] #[])
def gI(l:bZ):List Operand→Option (List Value)
 |[]=>some []
 |x::r=>match aF l x,gI l r with
  |some v,some d=>some (v::d)
  |_,_=>none
theorem Fr.eval{n:Nat}{l:bZ}{a:Act}(h:Fr n l a){x:Operand}{v:Value}(e:aF l x=some v):a.eval x=v:=by
 cases x with
 |tmp t=>have:=h.get t v e;simp[Act.eval,Array.getD_eq_getD_getElem?,this]
 |const c=>simpa[aF,Act.eval]using e
 |global g=>simpa[aF,Act.eval]using e
 |func f=>simpa[aF,Act.eval]using e
theorem Fr.jR{n:Nat}{l:bZ}{a:Act}(h:Fr n l a):∀{xs:List Operand} {i:List Value},gI l xs=some i→xs.map a.eval=i
 |[],i,e=>by simpa[gI]using e
 |x::r,i,e=>by
  simp only[gI]at e
  cases d:aF l x with
  |none=>simp[d]at e
  |some v=>
   cases j:gI l r with
   |none=>simp[d,j]at e
   |some k=>
    simp only[d,j,Option.some.injEq]at e;subst e;simp[h.eval d,h.jR j]
theorem Fr.put{n:Nat}{l:bZ}{a:Act}(h:Fr n l a){d:Nat}(an:Nat.blt d n=true)(v:Value):Fr n ((d,v)::l) (a.put (some d) v):=by
 have j:d<n:=by simpa[Nat.blt_eq]using an
 refine⟨h.defers,by simp[Act.put,h.size],fun t u e=>?_⟩;simp only[Act.put,Array.getElem?_setIfInBounds];simp only[cL]at e;by_cases i:d=t
 ·subst i
  have:Nat.beq d d=true:=by simp
  simp only[this]at e;simp[h.size,j,←Option.some.inj e]
 ·have:Nat.beq d t=false:=by
   cases aw:Nat.beq d t with
   |true=>exact absurd (Nat.eq_of_beq_eq_true aw) i
   |false=>rfl
  simp only[this]at e;simp[i,h.get t u e]
def Sub:bZ→bZ→Prop
 |[],_=>True
 |(t,v)::r,l=>cL l t=some v∧Sub r l
theorem Sub.cL{l:bZ}:∀{l':bZ},Sub l' l→∀t v,cL l' t=some v→cL l t=some v
 |[],_,t,v,e=>by simp[E.cL]at e
 |(s,u)::r,⟨d,U⟩,t,v,e=>by
  simp only[E.cL]at e
  cases aw:Nat.beq s t with
  |true=>
   simp only[aw,Option.some.injEq]at e;have:=Nat.eq_of_beq_eq_true aw
   subst this;subst e;exact d
  |false=>simp only[aw]at e;exact Sub.cL U t v e
theorem Fr.sub{n:Nat}{l l':bZ}{a:Act}(h:Fr n l a)(al:Sub l' l):Fr n l' a:=
 ⟨h.defers,h.size,fun t v e=>h.get t v (al.cL t v e)⟩
structure At (w0:World) (H:Heap) (w:World):Prop where
 heap:w.heap=H
 os:w.os=w0.os
 tape:w.tape=w0.tape
 output:w.output=w0.output
 fJ:w0.drawn≤w.drawn
theorem At.drew{w0 w:World}{H:Heap}(h:At w0 H w):At w0 H {w with drawn:=w.drawn+1}:=⟨h.heap,h.os,h.tape,h.output,Nat.le_succ_of_le h.fJ⟩
theorem At.set{w0 w:World}{H aa:Heap}(h:At w0 H w):At w0 aa {w with heap:=aa}:=⟨rfl,h.os,h.tape,h.output,h.fJ⟩
def Y(P:Program)(w0:World)(n:Nat)(l:bZ)(H:Heap)(J:Oper)(v:Value):Prop:=
 ∀a w,Fr n l a→At w0 H w→(execOp a.eval J).run P w= .ok (.value v) w
def jr(m:Bool)(P:Program)(ops:Array Oper)(Q:Exit→Act→World→Prop)(rest:List Oper)(a:Act)(w:World):Prop:=match m with
 |true=>wpStill P ops w (fun d=>Q .normal d w) rest a
 |false=>wpList P ops Q rest a w
def o(m:Bool)(P:Program)(w0:World)(ops:Array Oper)(Q:Exit→Act→World→Prop)(n:Nat)(l:bZ)(rest:List Oper)(H:Heap):Prop:=
 ∀a w,Fr n l a→At w0 H w→jr m P ops Q rest a w
def aP(w0:World)(Q:Exit→Act→World→Prop)(n:Nat)(l:bZ)(H:Heap):Prop:=∀a w,Fr n l a→At w0 H w→Q .normal a w
def fR(w0:World)(Q:Exit→Act→World→Prop)(e:Exit)(n:Nat)(l:bZ)(H:Heap):Prop:=∀a w,Fr n l a→At w0 H w→Q e a w
def G(P:Program)(w0:World)(Q:Exit→Act→World→Prop)(n:Nat)(l:bZ)(c:Code)(H:Heap):Prop:=
 ∀a w,Fr n l a→At w0 H w→c.wp P Q a w
section
variable {P : Program} {w0 : World} {Q : Exit → Act → World → Prop} {n : Nat} {l : bZ} {H : Heap} {ops : Array Oper} {rest : List Oper} {J : Oper} {m : Bool}
theorem o.nil(h:aP w0 Q n l H):o m P w0 ops Q n l [] H:=by
 intro a w i d;cases m
 ·exact h a w i d
 ·exact h a w i d
theorem Hp{a:Act}{w:World}{v:Value}(q:Fr n l a)(k:At w0 H w)(hw:Region.wanted J (yielded ops a.tmps)=true)(j:(execOp a.eval J).run P w= .ok (.value v) w)
 {d:Nat} (an:J.dst=some d) (aA:Nat.blt d n=true) (h:o m P w0 ops Q n ((d,v)::l) rest H):jr m P ops Q (J::rest) a w:=by
 have i:=q.put aA v;rw[←an]at i;have bE:=h _ w i k;cases m
 ·simp only[jr]at bE⊢
  unfold wpList;rw[if_pos hw];exact .inl (by unfold Oper.wp;rw[j];exact bE)
 ·simp only[jr]at bE⊢
  unfold wpStill;rw[if_pos hw];unfold Oper.still;rw[j];exact⟨rfl,bE⟩
def c5(ops:Array Oper)(l:bZ)(J:Oper):Prop:=∀n a,Fr n l a→Region.wanted J (yielded ops a.tmps)=true
theorem ud{a:Act}(k:Fr n l a){j d:Nat}{b:Bool}(o:(ops[j]?).bind (·.dst)=some d)(av:cL l d=some (.bool b)):yielded ops a.tmps j=some b:=by
 have i:=k.get d _ av;have:(ops[j]?).bind (fun J=>J.dst)=some d:=o;unfold yielded;rw[this];simp[i]
theorem c5.u(d:J.guard=none):c5 ops l J:=fun _ _ _=>by simp[Region.wanted,d]
theorem cQ (d : J.guard=none := by exact rfl) : c5 ops l J := c5.u d
theorem c5.g{j e:Nat}{b:Bool}(i:J.guard=some (j,b))(k:(ops[j]?).bind (·.dst)=some e)(av:cL l e=some (.bool b)):c5 ops l J:=
 fun _ _ d=>by simp[Region.wanted,i,ud d k av]
theorem bd {j e : Nat} {b : Bool} (d : J.guard=some (j,b) := by exact rfl) (i : (ops[j]?).bind (·.dst)=some e := by exact rfl) (av : cL l e=some (.bool b) := by exact rfl) : c5 ops l J := c5.g d i av
theorem o.v{v:Value}{d:Nat}(hy:Y P w0 n l H J v)(hw:c5 ops l J)(an:J.dst=some d)(aA:Nat.blt d n=true)(h:o m P w0 ops Q n ((d,v)::l) rest H):o m P w0 ops Q n l (J::rest) H:=
 fun a w i j=>Hp i j (hw n a i) (hy a w i j) an aA h
theorem o.e{α:Type}{g:α→Value}{φ:α→Prop}{d:Nat}(hy:∃x,(∀aa,Y P w0 n l aa J (g x))∧φ x)(hw:c5 ops l J)(an:J.dst=some d)(aA:Nat.blt d n=true)(h:∀x,φ x→o m P w0 ops Q n ((d,g x)::l) rest H):o m P w0 ops Q n l (J::rest) H:=
 let⟨x,i,U⟩:=hy
 o.v (i H) hw an aA (h x U)
theorem o.gs{d j e:Nat}{b c:Bool}(r:J.guard=some (j,b))(t:(ops[j]?).bind (·.dst)=some e)(av:cL l e=some (.bool c))(x:(c==b)=false)
 (an:J.dst=some d) (aA:Nat.blt d n=true) (h:o m P w0 ops Q n ((d,undef)::l) rest H):o m P w0 ops Q n l (J::rest) H:=by
 intro a w i q
 have hw:Region.wanted J (yielded ops a.tmps)=false:=by
  have A:c≠b:=by intro e;subst e;simp at x
  simp[Region.wanted,r,ud i t av,A]
 have k:=i.put aA undef;rw[←an]at k;have bE:=h _ w k q;cases m
 ·simp only[jr]at bE⊢
  unfold wpList;rw[if_neg (by simp[hw])];exact bE
 ·simp only[jr]at bE⊢
  unfold wpStill;rw[if_neg (by simp[hw])];exact bE
theorem Fr.same{a:Act}(i:Fr n l a){d:Nat}{v:Value}(av:cL l d=some v):Fr n ((d,v)::l) a:=by
 refine⟨i.defers,i.size,fun t u e=>?_⟩;simp only[cL]at e
 cases aw:Nat.beq d t with
 |true=>
  have:=Nat.eq_of_beq_eq_true aw;subst this;simp only[aw]at e
  exact i.get d u (by rw[av];exact e)
 |false=>simp only[aw]at e;exact i.get t u e
theorem o.bj{d:Nat}{p:Prop}[Decidable p](av:cL l d=some (.bool (decide p)))(q:p→o m P w0 ops Q n ((d,.bool true)::l) rest H)(he:¬p→o m P w0 ops Q n ((d,.bool false)::l) rest H):o m P w0 ops Q n l rest H:=by
 intro a w k j;by_cases i:p
 ·rw[decide_eq_true i]at av;exact q i a w (k.same av) j
 ·rw[decide_eq_false i]at av;exact he i a w (k.same av) j
theorem o.split{d:Nat}{b:Bool}(av:cL l d=some (.bool b))(k:b=true→o m P w0 ops Q n ((d,.bool true)::l) rest H)(he:b=false→o m P w0 ops Q n ((d,.bool false)::l) rest H):o m P w0 ops Q n l rest H:=by
 intro a w j i;cases b
 ·exact he rfl a w (j.same av) i
 ·exact k rfl a w (j.same av) i
theorem aP.sub{l':bZ}(h:aP w0 Q n l' H)(al:Sub l' l):aP w0 Q n l H:=fun a w i d=>h a w (i.sub al) d
theorem G.region{id:Nat}{d:List Oper}(h:o false P w0 d.toArray Q n l d H):G P w0 Q n l (.region id d.toArray false) H:=
 fun a w j i=>wp_region_lit (h a w j i)
theorem G.Ge{id:Nat}{d:List Oper}(hm:P.follows .mixedOrders=true)(i:Region.lexB .any d.toArray=true)(h:o true P w0 d.toArray Q n l d H):G P w0 Q n l (.region id d.toArray true) H:=
 fun a w k j=>wp_region_still_lit hm i (h a _ k j.drew)
theorem hf {id : Nat} {d : List Oper} (h : o true P w0 d.toArray Q n l d H) (hm : P.follows .mixedOrders=true := by exact rfl) (i : Region.lexB .any d.toArray=true := by kernel_rfl) : G P w0 Q n l (.region id d.toArray true) H := G.Ge hm i h
theorem G.Gg{id:Nat}{d:List Oper}(k:Nat)(hm:P.follows .mixedOrders=true)(q:Region.lexTailB .any d.toArray k=true)
 (h:∀K:Exit→Act→World→Prop,(∀l',o false P w0 d.toArray Q n l' (d.drop k) H→aP w0 K n l' H)→o true P w0 d.toArray K n l (d.take k) H):G P w0 Q n l (.region id d.toArray true) H:=
 fun a w x r=>wp_region_still_tail k hm q (h (fun _ i j=>wpList P d.toArray Q (d.drop k) i j) (fun l' B i j A t=>B i j A t) a _ x r.drew)
theorem iW {id : Nat} {d : List Oper} (k : Nat) (h : ∀K:Exit→Act→World→Prop,(∀l',o false P w0 d.toArray Q n l' (d.drop k) H→aP w0 K n l' H)→o true P w0 d.toArray K n l (d.take k) H) (hm : P.follows .mixedOrders=true := by exact rfl) (i : Region.lexTailB .any d.toArray k=true := by kernel_rfl) : G P w0 Q n l (.region id d.toArray true) H := G.Gg k hm i h
theorem G.seq{x y:Code}(h:∀K:Exit→Act→World→Prop,(∀l' aa,G P w0 Q n l' y aa→aP w0 K n l' aa)→(∀e,e≠ .normal→∀l' aa,fR w0 Q e n l' aa→fR w0 K e n l' aa)→G P w0 K n l x H):G P w0 Q n l (.seq x y) H:=by
 intro a w r q;refine wp_seq (h (Exit.then (y.wp P Q) Q) (fun l' aa hy d o j i=>hy d o j i) ?_ a w r q);intro e he l' aa k d o j i;have k:=k d o j i;cases e<;>first|exact absurd rfl he|exact k
theorem G.skip(h:aP w0 Q n l H):G P w0 Q n l .skip H:=fun a w i d=>wp_skip (h a w i d)
theorem G.label{k:Nat}(h:aP w0 Q n l H):G P w0 Q n l (.label k) H:=fun a w i d=>wp_label (h a w i d)
theorem G.exit{id:Nat}(h:fR w0 Q (.exit id) n l H):G P w0 Q n l (.exit id) H:=fun a w i d=>wp_exit (h a w i d)
theorem G.ret(h:fR w0 Q .ret n l H):G P w0 Q n l .ret H:=fun a w i d=>wp_ret (h a w i d)
theorem G.cond{c:Operand}{x y:Code}{b:Bool}(av:aF l c=some (.bool b))(j:b=true→G P w0 Q n l x H)(he:b=false→G P w0 Q n l y H):G P w0 Q n l (.cond c x y) H:=
 fun a w d i=>wp_cond_split (d.eval av) (fun h=>j h a w d i) (fun h=>he h a w d i)
theorem cK {c : Operand} {x y : Code} {b : Bool} (d : b=true→G P w0 Q n l x H) (he : b=false→G P w0 Q n l y H) (av : aF l c=some (.bool b) := by exact rfl) : G P w0 Q n l (.cond c x y) H := G.cond av d he
theorem G.CC{c:Operand}{x y:Code}{p:Prop}[Decidable p](av:aF l c=some (.bool (decide p)))(d:p→G P w0 Q n l x H)(he:¬p→G P w0 Q n l y H):G P w0 Q n l (.cond c x y) H:=
 G.cond av (fun h=>d (of_decide_eq_true h)) (fun h=>he (of_decide_eq_false h))
theorem aU {c : Operand} {x y : Code} {p : Prop} [Decidable p] (d : p→G P w0 Q n l x H) (he : ¬p→G P w0 Q n l y H) (av : aF l c=some (.bool (decide p)) := by exact rfl) : G P w0 Q n l (.cond c x y) H := G.CC av d he
theorem G.iz{c:Operand}{x y:Code}(av:aF l c=some (.bool true))(d:G P w0 Q n l x H):G P w0 Q n l (.cond c x y) H:=
 G.cond av (fun _=>d) (fun h=>by cases h)
theorem G.CB{c:Operand}{x y:Code}(av:aF l c=some (.bool false))(he:G P w0 Q n l y H):G P w0 Q n l (.cond c x y) H:=
 G.cond av (fun h=>by cases h) (fun _=>he)
theorem dw {c : Operand} {x y : Code} (he : G P w0 Q n l y H) (av : aF l c=some (.bool false) := by exact rfl) : G P w0 Q n l (.cond c x y) H := G.CB av he
theorem G.block{id:Nat}{c:Code}(h:∀K:Exit→Act→World→Prop,(∀l' aa,aP w0 Q n l' aa→aP w0 K n l' aa)→(∀l' aa,aP w0 Q n l' aa→fR w0 K (.exit id) n l' aa)→(∀e,e≠ .normal→e≠ .exit id→∀l' aa,fR w0 Q e n l' aa→fR w0 K e n l' aa)→G P w0 K n l c H):G P w0 Q n l (.block id c) H:=by
 intro a w t r;refine wp_block (h (Exit.inBlock id Q) (fun l' aa hy d i o j=>hy d i o j) (fun l' aa hy d i o j=>?_) ?_ a w t r)
 ·show(if id=id then Q .normal d i else Q (.exit id) d i);rw[if_pos rfl];exact hy d i o j
 ·intro e he x l' aa q d i o j
  cases e with
  |normal=>exact absurd rfl he
  |exit k=>
   show(if k=id then Q .normal d i else Q (.exit k) d i)
   rw[if_neg (fun e=>x (by rw[e]))];exact q d i o j
  |goto k=>exact q d i o j
  |ret=>exact q d i o j
  |panic k=>exact q d i o j
  |outgrown=>exact q d i o j
theorem G.scope{c:Code}(h:∀K:Exit→Act→World→Prop,(∀l' aa,aP w0 Q n l' aa→aP w0 K n l' aa)→(∀e,e≠ .normal→(∀k,e≠ .goto k)→∀l' aa,fR w0 Q e n l' aa→fR w0 K e n l' aa)→G P w0 K n l c H):G P w0 Q n l (.scope c) H:=by
 intro a w t r;refine wp_scope_straight (h (Exit.noGoto Q) (fun l' aa hy d q j i=>hy d q j i) ?_ a w t r);intro e he x l' aa o d q j i;have o:=o d q j i;cases e<;>first|exact absurd rfl he|exact absurd rfl (x _)|exact o
theorem G.loop{σ:Type}{c:Code}(fF:σ→bZ)(r:σ→Heap→Prop)(μ:σ→Nat)(E:σ)(S:Sub (fF E) l)(F:r E H)
 (round:∀s H,r s H→∀K:Exit→Act→World→Prop,(∀i aa,r i aa→μ i<μ s→aP w0 K n (fF i) aa)→(∀e,e≠ .normal→∀l' aa,fR w0 Q e n l' aa→fR w0 K e n l' aa)→G P w0 K n (fF s) c H):G P w0 Q n l (.loop c) H:=by
 intro a w O M b k cs
 have key:∀cb s H a w,μ s=cb→r s H→Fr n (fF s) a→At w0 H w→
  ∃e j o,Q e j o∧Arrives P (lone (b.at a (.code c:: .inLoop c::k)) cs w) b k cs e j o:=by
  intro cb
  induction cb using Nat.strongRecOn with
  |_ cb ih=>
   intro s H a w L I R N
   have T:=round s H I (Exit.then (fun j o=>∃i aa,Fr n (fF i) j∧At w0 aa o∧r i aa∧μ i<μ s) Q)
    (fun i aa B C j o A t=>⟨i,aa,A,t,B,C⟩) (fun e he l' aa d j o A t=>by have d:=d j o A t;cases e<;>first|exact absurd rfl he|exact d) a w R N
   obtain⟨e,a₁,w₁,d,q⟩:=T b (.inLoop c::k) cs
   cases e with
   |normal=>
    obtain⟨i,aa,A,t,B,C⟩:=d;obtain⟨e₂,a₂,w₂,hq₂,harr₂⟩:=ih (μ i) (L▸C) i aa a₁ w₁ rfl B A t
    exact⟨e₂,a₂,w₂,hq₂,.of_steps (Steps.trans q (.one step_inLoop)) harr₂⟩
   |exit id=>exact⟨_,a₁,w₁,d,.pass (x:= .inLoop c) rfl (fun _ _=> .inl (by simp)) q⟩
   |goto l=>exact⟨_,a₁,w₁,d,.pass (x:= .inLoop c) rfl (fun _ _=> .inl (by simp)) q⟩
   |ret=>exact⟨_,a₁,w₁,d,.pass (x:= .inLoop c) rfl (fun _ _=> .inl (by simp)) q⟩
   |panic dU=>exact⟨_,a₁,w₁,d,.pass (x:= .inLoop c) rfl (fun _ _=> .inl (by simp)) q⟩
   |outgrown=>exact⟨_,a₁,w₁,d,.pass (x:= .inLoop c) rfl (fun _ _=> .inl (by simp)) q⟩
 obtain⟨e,j,o,d,q⟩:=key _ E H a w rfl F (O.sub S) M;exact⟨e,j,o,d,.of_steps (.one step_loop) q⟩
theorem G.cut{σ:Type}{x y:Code}(fF:σ→bZ)(q:σ→Heap→Prop)
 (h:∀K:Exit→Act→World→Prop,(∀s aa,q s aa→aP w0 K n (fF s) aa)→(∀e,e≠ .normal→∀l' aa,fR w0 Q e n l' aa→fR w0 K e n l' aa)→G P w0 K n l x H)
 (hy:∀s aa,q s aa→G P w0 Q n (fF s) y aa):G P w0 Q n l (.seq x y) H:=by
 intro a w A t;refine wp_seq (h (Exit.then (y.wp P Q) Q) (fun s aa r d o j i=>hy s aa r d o j i) ?_ a w A t);intro e he l' aa k d o j i;have k:=k d o j i;cases e<;>first|exact absurd rfl he|exact k
end
def aC(P:Program)(w0:World)(f:FuncId)(args:Array Value)(H:Heap)(d:Value→Heap→Prop):Prop:=
 ∀w,At w0 H w→Calls P f args w (fun e i=>∃r aa,e= .returned r∧At w0 aa i∧d r aa)
def zX(w0:World)(d:Value→Heap→Prop):Ending→World→Prop:=fun e i=>∃r aa,e= .returned r∧At w0 aa i∧d r aa
def lS(args:List Value)(k:Nat):bZ:=match args with
 |[]=>[]
 |v::r=>(k,v)::lS r (k+1)
theorem rQ:∀(args:List Value) (k t:Nat) (v:Value),cL (lS args k) t=some v→k≤t∧args[t-k]?=some v
 |[],_,_,_,e=>by simp[lS,cL]at e
 |x::r,k,t,v,e=>by
  simp only[lS,cL]at e
  cases aw:Nat.beq k t with
  |true=>
   have:=Nat.eq_of_beq_eq_true aw;subst this;simp only[aw,Option.some.injEq]at e
   simp[e]
  |false=>
   simp only[aw]at e;obtain⟨d,U⟩:=rQ r (k+1) t v e;refine⟨by omega,?_⟩;have:t-k=(t-(k+1))+1:=by omega
   rw[this];simpa using U
theorem aC.enter{P:Program}{w0:World}{f:FuncId}{fn:Func}{c:Code}{args:List Value}{H:Heap}{d:Value→Heap→Prop}{n:Nat}
 (q:P.funcs[f]?=some fn) (aw:fn.body=some c) (aA:fn.ntmps=n) (r:Nat.ble args.length n=true)
 (h:∀Q:Exit→Act→World→Prop,(∀e,(e= .normal∨e= .ret)→∀l aa v,(∀a w,Fr n l a→At w0 aa w→(results fn a.tmps).run P w= .ok v w)→d v aa→fR w0 Q e n l aa)→G P w0 Q n (lS args 0) c H):
 aC P w0 f args.toArray H d:=by
 intro w o;have C:args.length≤n:=Nat.le_of_ble_eq_true r;refine calls_of_wp q aw (h (bodyPost P fn (zX w0 d)) ?_ _ w ⟨rfl,?_,?_⟩ o)
 ·intro e he l aa v A k a B j i
  rcases he with rfl|rfl<;>exact⟨j.defers,v,A a B j i,v,aa,rfl,i,k⟩
 ·simp[aA];omega
 ·intro t v e
  obtain⟨_,U⟩:=rQ args 0 t v e;simp only[Nat.sub_zero]at U;simp only;have x:=(List.getElem?_eq_some_iff.1 U).1;rw[Array.getElem?_append_left (by simpa using x)]
  simpa using U
theorem yr{P:Program}{w0:World}{H:Heap}{fn:Func}{n t:Nat}{l:bZ}{v:Value}(h:fn.results= #[.tmp t])(e:cL l t=some v):∀a w,Fr n l a→At w0 H w→(results fn a.tmps).run P w= .ok v w:=by
 intro a w d _;rw[results_tmp h];simp[Array.getD_eq_getD_getElem?,d.get t v e]
theorem Gm{P:Program}{w0:World}{H:Heap}{fn:Func}{n t u:Nat}{l:bZ}{v x:Value}(h:fn.results= #[.tmp t,.tmp u])(e:cL l t=some v)(i:cL l u=some x):∀a w,Fr n l a→At w0 H w→(results fn a.tmps).run P w= .ok (.tuple #[v,x]) w:=by
 intro a w d _;rw[results_tmp2 h];simp[Array.getD_eq_getD_getElem?,d.get t v e,d.get u x i]
theorem Gn{P:Program}{w0:World}{H:Heap}{fn:Func}{n t u s:Nat}{l:bZ}{v x y:Value}(h:fn.results= #[.tmp t,.tmp u,.tmp s])(e:cL l t=some v)(i:cL l u=some x)(j:cL l s=some y):∀a w,Fr n l a→At w0 H w→(results fn a.tmps).run P w= .ok (.tuple #[v,x,y]) w:=by
 intro a w d _;rw[results_tmp3 h];simp[Array.getD_eq_getD_getElem?,d.get t v e,d.get u x i,d.get s y j]
theorem iR{P:Program}{w0:World}{H:Heap}{fn:Func}{n:Nat}{l:bZ}(h:fn.results= #[]):∀a w,Fr n l a→At w0 H w→(results fn a.tmps).run P w= .ok (.tuple #[]) w:=by
 intro a w _ _;exact results_none h _ _ _
section
variable {P : Program} {w0 : World} {Q : Exit → Act → World → Prop} {n : Nat} {l : bZ} {H : Heap} {ops : Array Oper} {rest : List Oper} {J : Oper} {m : Bool}
def Z(P:Program)(w0:World)(n:Nat)(l:bZ)(H:Heap)(J:Oper)(i:Value→Heap→Prop):Prop:=
 ∀a w,Fr n l a→At w0 H w→∃v aa d,(execOp a.eval J).run P w= .ok (.value v) d∧At w0 aa d∧i v aa
theorem o.z{R:Value→Heap→Prop}{d:Nat}(x:Z P w0 n l H J R)(hw:c5 ops l J)(an:J.dst=some d)(aA:Nat.blt d n=true)
 (h:∀v aa,R v aa→o false P w0 ops Q n ((d,v)::l) rest aa):o false P w0 ops Q n l (J::rest) H:=by
 intro a w i q;obtain⟨v,aa,A,t,r,k⟩:=x a w i q;have j:=i.put aA v;rw[←an]at j;have bE:=h v aa k _ A j r;simp only[jr]at bE⊢;unfold wpList;rw[if_pos (hw n a i)];exact .inl (by unfold Oper.wp;rw[t];exact bE)
def S(P:Program)(w0:World)(n:Nat)(l:bZ)(H:Heap)(J:Oper)(i:Heap→Prop):Prop:=
 ∀a w,Fr n l a→At w0 H w→∃aa d,(execOp a.eval J).run P w= .ok .skip d∧At w0 aa d∧i aa
theorem o.s{i:Heap→Prop}(x:S P w0 n l H J i)(hw:c5 ops l J)(an:J.dst=none)
 (h:∀aa,i aa→o false P w0 ops Q n l rest aa):o false P w0 ops Q n l (J::rest) H:=by
 intro a w d q;obtain⟨aa,j,t,r,k⟩:=x a w d q;have bE:=h aa k a j d r;simp only[jr]at bE⊢;unfold wpList;rw[if_pos (hw n a d)];refine .inl ?_;unfold Oper.wp;rw[t];show wpList P ops Q rest (a.put J.dst undef) j;rw[an];exact bE
theorem yD{ρ:Operand→Value}{f:FuncId}{args:Array Operand}{i:Array TypeId}{w:World}(k:J.op= .call {callee:= .value (.func f),args:=args,argTypes:=i})(hρ:ρ (.func f)= .func (.func f) #[] #[])
 (j:∀(d:Array Value) (w:World),(callFunc f d).run P w= .ok (.enter f d) w):(execOp ρ J).run P w= .ok (.enter f (args.map ρ)) w:=by
 simp[execOp,k,resolve,Deferred.ofValue,hρ,invoke,j]
theorem o.call{k:Value→Heap→Prop}{f d:Nat}{args:List Operand}{x:Array TypeId}{i:List Value}(F:J.op= .call {callee:= .value (.func f),args:=args.toArray,argTypes:=x})
 (E:∀(i:Array Value) (w:World),(callFunc f i).run P w= .ok (.enter f i) w) (G:gI l args=some i) (hw:c5 ops l J) (an:J.dst=some d) (aA:Nat.blt d n=true) (av:aC P w0 f i.toArray H k)
 (h:∀v aa,k v aa→o false P w0 ops Q n ((d,v)::l) rest aa):o false P w0 ops Q n l (J::rest) H:=by
 intro a w j B;simp only[jr];have t:=yD (P:=P) (ρ:=a.eval) (w:=w) F rfl E;rw[List.map_toArray,j.jR G]at t;unfold wpList;rw[if_pos (hw n a j)];refine .inl ?_;unfold Oper.wp;rw[t];show Calls P f i.toArray w _;refine(av w B).mono ?_;rintro e I ⟨r,aa,rfl,C,A⟩;have q:=j.put aA r;rw[←an]at q;exact h r aa A _ I q C
theorem aW {j : Value→Heap→Prop} {f d : Nat} {args : List Operand} {k : Array TypeId} {i : List Value} (q : ∀(i:Array Value) (w:World),(callFunc f i).run P w= .ok (.enter f i) w) (av : aC P w0 f i.toArray H j) (h : ∀v aa,j v aa→o false P w0 ops Q n ((d,v)::l) rest aa) (r : J.op= .call {callee:= .value (.func f),args:=args.toArray,argTypes:=k} := by exact rfl) (t : gI l args=some i := by exact rfl) (hw : c5 ops l J := by exact c5.u rfl) (an : J.dst=some d := by exact rfl) (aA : Nat.blt d n=true := by exact rfl) : o false P w0 ops Q n l (J::rest) H := o.call r q t hw an aA av h
end
theorem aC.mono{P:Program}{w0:World}{f:FuncId}{args:Array Value}{H:Heap}{d i:Value→Heap→Prop}(h:aC P w0 f args H d)(o:∀v aa,d v aa→i v aa):aC P w0 f args H i:=
 fun w k=>(h w k).mono fun _ _ ⟨r,aa,he,n,j⟩=>⟨r,aa,he,n,o r aa j⟩
end E

namespace E
def aI(l:List UInt8):Value:= .string ⟨l.toArray⟩
def cell(H:Heap)(a:Addr):Option Value:=match H[a.block]? with
 |some (.cells c _ _)=>if a.spot.isSome then none else c[a.off]?
 |_=>none
theorem At.cell{w0 w:World}{H:Heap}(h:At w0 H w)(a:Addr):w.cell? a=E.cell H a:=by
 unfold World.cell? E.cell;rw[h.heap];rfl
structure cg (H:Heap) (ad:Addr) (cs:List Value):Prop where
 spot:ad.spot=none
 cells:∀j c,cs[j]?=some c→cell H ⟨ad.block,ad.off+j,none⟩=some c
theorem add_eq{ad:Addr}(h:ad.spot=none)(j:Nat):ad.add j=⟨ad.block,ad.off+j,none⟩:=by
 obtain⟨b,J,s⟩:=ad;simp only at h;subst h;unfold Addr.add;split
 ·subst_vars;rfl
 ·rfl
theorem cg.drop{H:Heap}{ad:Addr}{cs:List Value}(h:cg H ad cs)(k:Nat):cg H (ad.add k) (cs.drop k):=by
 rw[add_eq h.spot];refine⟨rfl,fun j c e=>?_⟩;rw[List.getElem?_drop]at e;have:=h.cells (k+j) c e
 simpa[Nat.add_assoc]using this
theorem cg.take{H:Heap}{ad:Addr}{cs:List Value}(h:cg H ad cs)(k:Nat):cg H ad (cs.take k):=by
 refine⟨h.spot,fun j c e=>h.cells j c ?_⟩;rw[List.getElem?_take]at e;split at e
 ·exact e
 ·cases e
structure Rd {α:Type} (F:Nat→Prop) (H:Heap) (f:α→List Value) (sz:Nat) (v:Value) (l:List α):Prop where
 ex:∃a cap,v= .slice a l.length cap∧l.length≤cap∧cap≤maxLen∧(l≠[]→∃ad:Addr,a=some ad∧ad.spot=none∧F ad.block∧ad.block<H.size∧∀i x,l[i]?=some x→cg H ⟨ad.block,ad.off+i*sz,none⟩ (f x))
structure W (S:Nat→Prop) (H aa:Heap):Prop where
 size:H.size≤aa.size
 same:∀b,b<H.size→¬S b→aa[b]?=H[b]?
theorem W.refl(S:Nat→Prop)(H:Heap):W S H H:=⟨Nat.le_refl _,fun _ _ _=>rfl⟩
theorem W.trans{S i gf:Nat→Prop}{H H1 d:Heap}(h:W S H H1)(k:W i H1 d)(al:∀b,b<H.size→S b→gf b)(j:∀b,b<H.size→i b→gf b):W gf H d:=
 ⟨Nat.le_trans h.size k.size,fun b aw hu=>(k.same b (Nat.lt_of_lt_of_le aw h.size) (fun e=>hu (j b aw e))).trans (h.same b aw (fun e=>hu (al b aw e)))⟩
theorem W.weaken{S gf:Nat→Prop}{H H1:Heap}(h:W S H H1)(al:∀b,b<H.size→S b→gf b):W gf H H1:=⟨h.size,fun b aw hu=>h.same b aw (fun e=>hu (al b aw e))⟩
theorem W.push(S:Nat→Prop)(H:Heap)(J:Obj):W S H (H.push J):=⟨by simp,fun b aw _=>by rw[Array.getElem?_push,if_neg (by omega)]⟩
abbrev aj(H aa:Heap):Prop:=W (fun _=>False) H aa
theorem aj.refl(H:Heap):aj H H:=W.refl _ H
theorem aj.L{H H1 d:Heap}(h:aj H H1)(k:aj H1 d):aj H d:=W.trans h k (fun _ _ e=>e) (fun _ _ e=>e)
theorem aj.pu(H:Heap)(J:Obj):aj H (H.push J):=W.push _ H J
theorem Cn{H aa:Heap}{a:Addr}(h:aa[a.block]?=H[a.block]?):cell aa a=cell H a:=by unfold cell;rw[h]
theorem Cm{H:Heap}{a:Addr}{v:Value}(h:cell H a=some v):a.block<H.size:=by
 unfold cell at h
 cases aw:H[a.block]? with
 |none=>simp[aw]at h
 |some J=>exact(Array.getElem?_eq_some_iff.1 aw).1
theorem cg.up{S:Nat→Prop}{H aa:Heap}{ad:Addr}{cs:List Value}(h:cg H ad cs)(s:W S H aa)(d:¬S ad.block):cg aa ad cs:=
 ⟨h.spot,fun j c e=>by
  have av:=h.cells j c e;have i:ad.block<H.size:=Cm (a:=⟨ad.block,ad.off+j,none⟩) av;exact(Cn (a:=⟨ad.block,ad.off+j,none⟩) (s.same ad.block i d)).trans av⟩
theorem cg.M{H aa:Heap}{ad:Addr}{cs:List Value}(h:cg H ad cs)(s:aj H aa):cg aa ad cs:=h.up s (fun e=>e)
section
variable {α : Type} {F : Nat → Prop} {H aa : Heap} {f : α → List Value} {sz : Nat} {v : Value} {l : List α}
theorem Rd.up{S:Nat→Prop}(h:Rd F H f sz v l)(s:W S H aa)(r:∀b,b<H.size→F b→¬S b):Rd F aa f sz v l:=by
 obtain⟨a,cap,A,o,U,q⟩:=h.ex;refine⟨a,cap,A,o,U,fun t=>?_⟩;obtain⟨ad,aK,k,d,j,n⟩:=q t;exact⟨ad,aK,k,d,Nat.lt_of_lt_of_le j s.size,fun i x B=>(n i x B).up s (r _ j d)⟩
theorem Rd.M(h:Rd F H f sz v l)(s:aj H aa):Rd F aa f sz v l:=h.up s (fun _ _ _ e=>e)
theorem Rd.imp{d:Nat→Prop}(h:Rd F H f sz v l)(r:∀b,b<H.size→F b→d b):Rd d H f sz v l:=by
 obtain⟨a,cap,x,o,U,q⟩:=h.ex;refine⟨a,cap,x,o,U,fun t=>?_⟩;obtain⟨ad,aK,j,k,i,n⟩:=q t;exact⟨ad,aK,j,r _ i k,i,n⟩
theorem Rd.len(h:Rd F H f sz v l):l.length≤9223372036854775807:=by
 obtain⟨a,cap,j,d,U,i⟩:=h.ex;unfold maxLen at U;omega
theorem Rd.nil(F:Nat→Prop)(H:Heap)(f:α→List Value)(sz:Nat):Rd F H f sz (.slice none 0 0) []:=⟨none,0,rfl,Nat.le_refl _,Nat.zero_le _,fun h=>absurd rfl h⟩
end
section
variable {P : Program} {w0 : World} {n : Nat} {l : bZ} {H : Heap} {J : Oper}
theorem Y.move{x:Operand}{v:Value}(i:J.op= .move x)(j:aF l x=some v):Y P w0 n l H J v:=by
 intro a w d k;simp[execOp,i,d.eval j]
theorem fc {x : Operand} {v : Value} (d : J.op= .move x := by exact rfl) (i : aF l x=some v := by exact rfl) : Y P w0 n l H J v := Y.move d i
theorem Y.assign{x:Operand}{v:Value}(i:J.op= .assign x)(j:aF l x=some v):Y P w0 n l H J v:=by
 intro a w d k;simp[execOp,i,d.eval j]
theorem ej {x : Operand} {v : Value} (d : J.op= .assign x := by exact rfl) (i : aF l x=some v := by exact rfl) : Y P w0 n l H J v := Y.assign d i
theorem Y.tl{c x y:Operand}{v:Value}(i:J.op= .pick c x y)(av:aF l c=some (.bool true))(j:aF l x=some v):Y P w0 n l H J v:=by
 intro a w d k;simp[execOp,i,d.eval j,d.eval av,asBool]
theorem eh {c x y : Operand} {v : Value} (d : J.op= .pick c x y := by exact rfl) (av : aF l c=some (.bool true) := by exact rfl) (i : aF l x=some v := by exact rfl) : Y P w0 n l H J v := Y.tl d av i
theorem Y.tk{c x y:Operand}{v:Value}(i:J.op= .pick c x y)(av:aF l c=some (.bool false))(j:aF l y=some v):Y P w0 n l H J v:=by
 intro a w d k;simp[execOp,i,d.eval j,d.eval av,asBool]
theorem dH {c x y : Operand} {v : Value} (d : J.op= .pick c x y := by exact rfl) (av : aF l c=some (.bool false) := by exact rfl) (i : aF l y=some v := by exact rfl) : Y P w0 n l H J v := Y.tk d av i
theorem Y.extract{x:Operand}{k:Nat}{d:Array Value}{v:Value}(j:J.op= .extract x k)(q:aF l x=some (.tuple d))(o:d[k]?=some v):Y P w0 n l H J v:=by
 intro a w i r;simp[execOp,j,i.eval q,Instr.extract,o]
theorem cO {x : Operand} {k : Nat} {d : Array Value} {v : Value} (i : J.op= .extract x k := by exact rfl) (o : aF l x=some (.tuple d) := by exact rfl) (j : d[k]?=some v := by exact rfl) : Y P w0 n l H J v := Y.extract i o j
theorem Y.nilCheck{x:Operand}{ad:Addr}(i:J.op= .nilCheck x)(j:aF l x=some (.pointer (some ad))):Y P w0 n l H J (.pointer (some ad)):=by
 intro a w d k;simp[execOp,i,d.eval j]
theorem Y.gC{p:Prop}[Decidable p](h:Y P w0 n l H J (.bool (decide p)))(d:p):Y P w0 n l H J (.bool true):=by rwa[decide_eq_true d]at h
theorem Y.fm{p:Prop}[Decidable p](h:Y P w0 n l H J (.bool (decide p)))(d:¬p):Y P w0 n l H J (.bool false):=by rwa[decide_eq_false d]at h
theorem Y.add{x y:Operand}{t u:TypeId}{k:IntKind}{a b:Int}(i:J.op= .binOp .add t x y u)(j:aF l x=some (.int k a))(hy:aF l y=some (.int k b)):Y P w0 n l H J (.int k (k.wrap (a+b))):=by
 intro a w d o;simp[execOp,i,d.eval j,d.eval hy,binOp,Op.intArith,eqGuard]
theorem Y.sub{x y:Operand}{t u:TypeId}{k:IntKind}{a b:Int}(i:J.op= .binOp .sub t x y u)(j:aF l x=some (.int k a))(hy:aF l y=some (.int k b)):Y P w0 n l H J (.int k (k.wrap (a-b))):=by
 intro a w d o;simp[execOp,i,d.eval j,d.eval hy,binOp,Op.intArith,eqGuard]
theorem Y.mul{x y:Operand}{t u:TypeId}{k:IntKind}{a b:Int}(i:J.op= .binOp .mul t x y u)(j:aF l x=some (.int k a))(hy:aF l y=some (.int k b)):Y P w0 n l H J (.int k (k.wrap (a*b))):=by
 intro a w d o;simp[execOp,i,d.eval j,d.eval hy,binOp,Op.intArith,eqGuard]
theorem Y.rN{x y:Operand}{t u:TypeId}{k:IntKind}{a b c:Int}(d:J.op= .binOp .add t x y u)(i:aF l x=some (.int k a))(hy:aF l y=some (.int k b))(av:k.wrap (a+b)=c):Y P w0 n l H J (.int k c):=by
 subst av;exact Y.add d i hy
theorem Y.Hu{x y:Operand}{t u:TypeId}{k:IntKind}{a b c:Int}(d:J.op= .binOp .sub t x y u)(i:aF l x=some (.int k a))(hy:aF l y=some (.int k b))(av:k.wrap (a-b)=c):Y P w0 n l H J (.int k c):=by
 subst av;exact Y.sub d i hy
theorem Y.EW{x y:Operand}{t u:TypeId}{k:IntKind}{a b c:Int}(d:J.op= .binOp .mul t x y u)(i:aF l x=some (.int k a))(hy:aF l y=some (.int k b))(av:k.wrap (a*b)=c):Y P w0 n l H J (.int k c):=by
 subst av;exact Y.mul d i hy
theorem Y.uA{x y:Operand}{t u:TypeId}{a b:Int}(d:J.op= .binOp .add t x y u)(i:aF l x=some (.int .i64 a))(hy:aF l y=some (.int .i64 b))(aw: -9223372036854775808≤a+b∧a+b≤9223372036854775807):Y P w0 n l H J (.int .i64 (a+b)):=by
 have h:=Y.add (P:=P) (w0:=w0) (n:=n) (H:=H) d i hy;rwa[IntWalk.i64_in _ aw]at h
theorem bD {x y : Operand} {t u : TypeId} {a b : Int} (d : J.op= .binOp .add t x y u := by exact rfl) (i : aF l x=some (.int .i64 a) := by exact rfl) (hy : aF l y=some (.int .i64 b) := by exact rfl) (aw : -9223372036854775808≤a+b∧a+b≤9223372036854775807 := by omega) : Y P w0 n l H J (.int .i64 (a+b)) := Y.uA d i hy aw
theorem Y.q_{x y:Operand}{t u:TypeId}{a b:Int}(d:J.op= .binOp .sub t x y u)(i:aF l x=some (.int .i64 a))(hy:aF l y=some (.int .i64 b))(aw: -9223372036854775808≤a-b∧a-b≤9223372036854775807):Y P w0 n l H J (.int .i64 (a-b)):=by
 have h:=Y.sub (P:=P) (w0:=w0) (n:=n) (H:=H) d i hy;rwa[IntWalk.i64_in _ aw]at h
theorem fH {x y : Operand} {t u : TypeId} {a b : Int} (d : J.op= .binOp .sub t x y u := by exact rfl) (i : aF l x=some (.int .i64 a) := by exact rfl) (hy : aF l y=some (.int .i64 b) := by exact rfl) (aw : -9223372036854775808≤a-b∧a-b≤9223372036854775807 := by omega) : Y P w0 n l H J (.int .i64 (a-b)) := Y.q_ d i hy aw
theorem Y.jx{x y:Operand}{t u:TypeId}{a b:Int}(d:J.op= .binOp .mul t x y u)(i:aF l x=some (.int .i64 a))(hy:aF l y=some (.int .i64 b))(aw: -9223372036854775808≤a*b∧a*b≤9223372036854775807):Y P w0 n l H J (.int .i64 (a*b)):=by
 have h:=Y.mul (P:=P) (w0:=w0) (n:=n) (H:=H) d i hy;rwa[IntWalk.i64_in _ aw]at h
theorem Y.rem{x y:Operand}{t u:TypeId}{k:IntKind}{a b:Int}(i:J.op= .binOp .rem t x y u)(j:aF l x=some (.int k a))(hy:aF l y=some (.int k b))(aw:b≠0):Y P w0 n l H J (.int k (a.tmod b)):=by
 intro a w d o;simp[execOp,i,d.eval j,d.eval hy,binOp,Op.intDiv,eqGuard,aw]
theorem Y.Gi{x y:Operand}{t u:TypeId}{k:IntKind}{a b:Int}(d:J.op= .binOp .rem t x y u)(i:aF l x=some (.int k a))(hy:aF l y=some (.int k b))(aw:0≤a∧1≤b):Y P w0 n l H J (.int k (a%b)):=by
 have h:=Y.rem (P:=P) (w0:=w0) (n:=n) (H:=H) d i hy (by omega);rwa[Int.tmod_eq_emod_of_nonneg aw.1]at h
theorem Y.bits{x y:Operand}{t u:TypeId}{k:IntKind}{a b:Int}(op:BinOp)(r:Int)(i:J.op= .binOp op t x y u)(q:aF l x=some (.int k a))(hy:aF l y=some (.int k b))(j:op= .and∨op= .or∨op= .xor∨op= .andNot)
 (o:∀w,(Op.intBits op k a b).run P w= .ok (.int k r) w):Y P w0 n l H J (.int k r):=by
 intro a w d A;rcases j with rfl|rfl|rfl|rfl<;>simp[execOp,i,d.eval q,d.eval hy,binOp,o,eqGuard]
theorem Y.shl{x y:Operand}{t u:TypeId}{k a8:IntKind}{a b:Int}(i:J.op= .binOp .shl t x y u)(j:aF l x=some (.int k a))(hy:aF l y=some (.int a8 b))(aw:0≤b):Y P w0 n l H J (.int k (k.wrap (a*2^min b.toNat k.bits))):=by
 intro a w d o;simp[execOp,i,d.eval j,d.eval hy,binOp,Op.shift,eqGuard,show ¬b<0 by omega]
theorem Y.shr{x y:Operand}{t u:TypeId}{k a8:IntKind}{a b:Int}(i:J.op= .binOp .shr t x y u)(j:aF l x=some (.int k a))(hy:aF l y=some (.int a8 b))(aw:0≤b):Y P w0 n l H J (.int k (a.fdiv (2^min b.toNat k.bits))):=by
 intro a w d o;simp[execOp,i,d.eval j,d.eval hy,binOp,Op.shift,eqGuard,show ¬b<0 by omega]
theorem Y.lss{x y:Operand}{t u:TypeId}{k:IntKind}{a b:Int}(i:J.op= .binOp .lss t x y u)(j:aF l x=some (.int k a))(hy:aF l y=some (.int k b)):Y P w0 n l H J (.bool (decide (a<b))):=by
 intro a w d o;simp[execOp,i,d.eval j,d.eval hy,binOp,Op.intCmp,eqGuard]
theorem bJ {x y : Operand} {t u : TypeId} {k : IntKind} {a b : Int} (d : J.op= .binOp .lss t x y u := by exact rfl) (i : aF l x=some (.int k a) := by exact rfl) (hy : aF l y=some (.int k b) := by exact rfl) : Y P w0 n l H J (.bool (decide (a<b))) := Y.lss d i hy
theorem Y.leq{x y:Operand}{t u:TypeId}{k:IntKind}{a b:Int}(i:J.op= .binOp .leq t x y u)(j:aF l x=some (.int k a))(hy:aF l y=some (.int k b)):Y P w0 n l H J (.bool (decide (a≤b))):=by
 intro a w d o;simp[execOp,i,d.eval j,d.eval hy,binOp,Op.intCmp,eqGuard]
theorem eK {x y : Operand} {t u : TypeId} {k : IntKind} {a b : Int} (d : J.op= .binOp .leq t x y u := by exact rfl) (i : aF l x=some (.int k a) := by exact rfl) (hy : aF l y=some (.int k b) := by exact rfl) : Y P w0 n l H J (.bool (decide (a≤b))) := Y.leq d i hy
theorem Y.gtr{x y:Operand}{t u:TypeId}{k:IntKind}{a b:Int}(i:J.op= .binOp .gtr t x y u)(j:aF l x=some (.int k a))(hy:aF l y=some (.int k b)):Y P w0 n l H J (.bool (decide (b<a))):=by
 intro a w d o;simp[execOp,i,d.eval j,d.eval hy,binOp,Op.intCmp,eqGuard]
theorem eY {x y : Operand} {t u : TypeId} {k : IntKind} {a b : Int} (d : J.op= .binOp .gtr t x y u := by exact rfl) (i : aF l x=some (.int k a) := by exact rfl) (hy : aF l y=some (.int k b) := by exact rfl) : Y P w0 n l H J (.bool (decide (b<a))) := Y.gtr d i hy
theorem Y.geq{x y:Operand}{t u:TypeId}{k:IntKind}{a b:Int}(i:J.op= .binOp .geq t x y u)(j:aF l x=some (.int k a))(hy:aF l y=some (.int k b)):Y P w0 n l H J (.bool (decide (b≤a))):=by
 intro a w d o;simp[execOp,i,d.eval j,d.eval hy,binOp,Op.intCmp,eqGuard]
theorem dJ {x y : Operand} {t u : TypeId} {k : IntKind} {a b : Int} (d : J.op= .binOp .geq t x y u := by exact rfl) (i : aF l x=some (.int k a) := by exact rfl) (hy : aF l y=some (.int k b) := by exact rfl) : Y P w0 n l H J (.bool (decide (b≤a))) := Y.geq d i hy
theorem AF(a b:Int):(a==b)=decide (a=b):=by by_cases h:a=b<;>simp[h]
theorem AL(a b:Int):(a !=b)=decide (a≠b):=by by_cases h:a=b<;>simp[h]
theorem Y.eql{x y:Operand}{t u:TypeId}{k:IntKind}{a b:Int}(i:J.op= .binOp .eql t x y u)(j:aF l x=some (.int k a))(hy:aF l y=some (.int k b)):Y P w0 n l H J (.bool (decide (a=b))):=by
 intro ac w d o;rw[←AF];simp[execOp,i,d.eval j,d.eval hy,binOp,Op.intCmp,eqGuard]
theorem b9 {x y : Operand} {t u : TypeId} {k : IntKind} {a b : Int} (d : J.op= .binOp .eql t x y u := by exact rfl) (i : aF l x=some (.int k a) := by exact rfl) (hy : aF l y=some (.int k b) := by exact rfl) : Y P w0 n l H J (.bool (decide (a=b))) := Y.eql d i hy
theorem Y.neq{x y:Operand}{t u:TypeId}{k:IntKind}{a b:Int}(i:J.op= .binOp .neq t x y u)(j:aF l x=some (.int k a))(hy:aF l y=some (.int k b)):Y P w0 n l H J (.bool (decide (a≠b))):=by
 intro ac w d o;rw[←AL];simp[execOp,i,d.eval j,d.eval hy,binOp,Op.intCmp,eqGuard]
theorem cU {x y : Operand} {t u : TypeId} {k : IntKind} {a b : Int} (d : J.op= .binOp .neq t x y u := by exact rfl) (i : aF l x=some (.int k a) := by exact rfl) (hy : aF l y=some (.int k b) := by exact rfl) : Y P w0 n l H J (.bool (decide (a≠b))) := Y.neq d i hy
theorem Y.uR{x y:Operand}{t u:TypeId}{a b:Bool}(i:J.op= .binOp .eql t x y u)(j:P.underlying t=some .bool)(k:aF l x=some (.bool a))(hy:aF l y=some (.bool b)):Y P w0 n l H J (.bool (decide (a=b))):=by
 intro ac w d o;have h:=run_equalIn_bool' w 9999 t a b j;have U:(a==b)=decide (a=b):=by cases a<;>cases b<;>rfl
 rw[U]at h;simp[execOp,i,d.eval k,d.eval hy,binOp,eqGuard,Op.equal,Op.maxDepth,h]
theorem Y.not{x:Operand}{t:TypeId}{b:Bool}(i:J.op= .unOp .not t x)(j:aF l x=some (.bool b)):Y P w0 n l H J (.bool (!b)):=by
 intro ac w d k;simp[execOp,i,d.eval j,Op.unary]
theorem eL {x : Operand} {t : TypeId} {b : Bool} (d : J.op= .unOp .not t x := by exact rfl) (i : aF l x=some (.bool b) := by exact rfl) : Y P w0 n l H J (.bool (!b)) := Y.not d i
theorem Y.hp{x:Operand}{t:TypeId}{p:Prop}[Decidable p](i:J.op= .unOp .not t x)(j:aF l x=some (.bool (decide p))):Y P w0 n l H J (.bool (decide (¬p))):=by
 intro ac w d k;simp[execOp,i,d.eval j,Op.unary]
theorem Y.conv{x:Operand}{s d:TypeId}{k i:IntKind}{a:Int}{ds:TypeDesc}(o:J.op= .convert s d x)(al:∀w,(underlying s).run P w= .ok ds w)(an:∀w,(underlying d).run P w= .ok (.int i) w)(q:aF l x=some (.int k a)):Y P w0 n l H J (.int i (i.wrap a)):=by
 intro ac w j r;simp[execOp,o,j.eval q,convert,al,an,Conv.intToInt]
theorem Y.vN{x:Operand}{s d:TypeId}{k i:IntKind}{a:Int}{ds:TypeDesc}(j:J.op= .convert s d x)(al:∀w,(underlying s).run P w= .ok ds w)(an:∀w,(underlying d).run P w= .ok (.int i) w)(o:aF l x=some (.int k a))(hw:i.wrap a=a):Y P w0 n l H J (.int i a):=by
 have h:=Y.conv (P:=P) (w0:=w0) (n:=n) (H:=H) j al an o
 rwa[hw]at h
theorem Y.sM{x y:Operand}{o:Array TypeId}{k:IntKind}{a b:Int}(i:J.op= .call {callee:= .builtin .max,args:= #[x,y],argTypes:=o})(j:aF l x=some (.int k a))(hy:aF l y=some (.int k b)):Y P w0 n l H J (.int k (Max.max a b)):=by
 intro ac w d q
 have:(if b>a then b else a)=Max.max a b:=by
  by_cases h:b>a
  ·rw[if_pos h];omega
  ·rw[if_neg h];omega
 simp[execOp,i,d.eval j,d.eval hy,resolve,invoke,builtin,Builtin.max_,Builtin.max2,←this]
theorem Y.ER{x y:Operand}{o:Array TypeId}{k:IntKind}{a b:Int}(i:J.op= .call {callee:= .builtin .min,args:= #[x,y],argTypes:=o})(j:aF l x=some (.int k a))(hy:aF l y=some (.int k b)):Y P w0 n l H J (.int k (Min.min a b)):=by
 intro ac w d q
 have:(if b<a then b else a)=Min.min a b:=by
  by_cases h:b<a
  ·rw[if_pos h];omega
  ·rw[if_neg h];omega
 simp[execOp,i,d.eval j,d.eval hy,resolve,invoke,builtin,Builtin.min_,Builtin.min2,←this]
theorem aD{k:IntKind}{a b:Int}(h:a=b):some (Value.int k a)=some (.int k b):=by rw[h]
theorem fM{k:IntKind}{a b:Int}(h:a=b):Value.int k a= .int k b:=by rw[h]
theorem c1{p q:Prop}[Decidable p][Decidable q](h:p↔q):Value.bool (decide p)=Value.bool (decide q):=by
 congr 1;exact decide_eq_decide.2 h
theorem Y.neg{x:Operand}{t:TypeId}{k:IntKind}{a:Int}(i:J.op= .unOp .neg t x)(j:aF l x=some (.int k a)):Y P w0 n l H J (.int k (k.wrap (0-a))):=by
 intro ac w d o;simp[execOp,i,d.eval j,Op.unary,Op.intArith]
theorem Y.ia{x y:Operand}{t u:TypeId}{xs ys:Array Value}{p:Prop}[Decidable p](j:J.op= .binOp .eql t x y u)(hm:P.eqGuardType P.depth t=false)(i:∀w,(Op.equalIn 10000 t (.agg xs) (.agg ys)).run P w= .ok (decide p) w)
 (k:aF l x=some (.agg xs)) (hy:aF l y=some (.agg ys)):Y P w0 n l H J (.bool (decide p)):=by
 intro ac w d o;simp[execOp,j,d.eval k,d.eval hy,run_eqGuard_agg _ _ _ _ _ _ _ hm,run_eql_struct,i]
theorem Y.jM{x y:Operand}{t u:TypeId}{xs ys:Array Value}{p:Prop}[Decidable p](j:J.op= .binOp .neq t x y u)(hm:P.eqGuardType P.depth t=false)(i:∀w,(Op.equalIn 10000 t (.agg xs) (.agg ys)).run P w= .ok (decide p) w)
 (k:aF l x=some (.agg xs)) (hy:aF l y=some (.agg ys)):Y P w0 n l H J (.bool (decide (¬p))):=by
 intro ac w d o;simp[execOp,j,d.eval k,d.eval hy,run_eqGuard_agg _ _ _ _ _ _ _ hm,run_neq_struct,i]
theorem Y.jz{x y:Operand}{t u:TypeId}{a b:List UInt8}(i:J.op= .binOp .eql t x y u)(j:aF l x=some (aI a))(hy:aF l y=some (aI b)):Y P w0 n l H J (.bool (decide (a=b))):=by
 intro ac w d k;have h:(a==b)=decide (a=b):=by by_cases h:a=b<;>simp[h]
 simp[execOp,i,d.eval j,d.eval hy,binOp,Op.stringOp,eqGuard,aI,h]
theorem Y.iT{x y:Operand}{t u:TypeId}{a b:List UInt8}(i:J.op= .binOp .neq t x y u)(j:aF l x=some (aI a))(hy:aF l y=some (aI b)):Y P w0 n l H J (.bool (decide (a≠b))):=by
 intro ac w d k;have h:(a==b)=decide (a=b):=by by_cases h:a=b<;>simp[h]
 simp[execOp,i,d.eval j,d.eval hy,binOp,Op.stringOp,eqGuard,aI,h]
theorem Y.yY{x y:Operand}{t u:TypeId}{a b:List UInt8}(j:J.op= .binOp .lss t x y u)(k:aF l x=some (aI a))(hy:aF l y=some (aI b)):Y P w0 n l H J (.bool (Op.bytesLess a b)):=by
 intro ac w i o;have aK:=ByteArray.toList_eq (ByteArray.mk a.toArray);have d:=ByteArray.toList_eq (ByteArray.mk b.toArray);simp only at aK d;simp[execOp,j,i.eval k,i.eval hy,binOp,Op.stringOp,eqGuard,aI,aK,d]
theorem m_(a:List UInt8):(ByteArray.mk a.toArray).size=a.length:=by simp[ByteArray.size]
theorem Y.q2{x y:Operand}{t u:TypeId}{a b:List UInt8}(j:J.op= .binOp .add t x y u)(k:aF l x=some (aI a))(hy:aF l y=some (aI b))(aw:a.length+b.length≤9223372036854775807):Y P w0 n l H J (aI (a++b)):=by
 intro ac w d o;have i:IntKind.i64.max=9223372036854775807:=by decide
 have:¬(((ByteArray.mk a.toArray).size+(ByteArray.mk b.toArray).size:Nat):Int)>IntKind.i64.max:=by
  rw[m_,m_,i];omega
 have e:(ByteArray.mk a.toArray)++(ByteArray.mk b.toArray)=ByteArray.mk (a++b).toArray:=by
  apply ByteArray.ext;simp[ByteArray.data_append]
 simp only[execOp,j,d.eval k,d.eval hy,binOp,Op.stringOp,eqGuard,aI];rw[if_neg this,e];rfl
theorem Y.k3{x:Operand}{t:TypeId}{s:List UInt8}(i:J.op= .call {callee:= .builtin .len,args:= #[x],argTypes:= #[t]})(k:∀w,(underlying t).run P w= .ok .string w)(o:aF l x=some (aI s)):Y P w0 n l H J (.int .i64 s.length):=by
 have j:=m_ s;intro ac w d q;simp[execOp,i,d.eval o,resolve,invoke,builtin,Builtin.len_,k,goInt,aI,j]
theorem fB {x : Operand} {t : TypeId} {s : List UInt8} (i : ∀w,(underlying t).run P w= .ok .string w) (d : J.op= .call {callee:= .builtin .len,args:= #[x],argTypes:= #[t]} := by exact rfl) (j : aF l x=some (aI s) := by exact rfl) : Y P w0 n l H J (.int .i64 s.length) := Y.k3 d i j
theorem Y.G3{x i:Operand}{t:TypeId}{s:List UInt8}{k:IntKind}{aD:Int}(j:Nat)(A:J.op= .index t x i)(B:∀w,(underlying t).run P w= .ok .string w)(C:aF l x=some (aI s))(q:aF l i=some (.int k aD))(r:aD=j)(d:j<s.length):Y P w0 n l H J (.int .u8 (s[j]'d).toNat):=by
 intro ac w o E;subst r
 have al:(ByteArray.mk s.toArray)[j]?=some (s[j]'d):=by
  have bE:j<(ByteArray.mk s.toArray).size:=by rw[m_];exact d
  rw[getElem?_pos _ j bE];simp[ByteArray.getElem_eq_getElem_data]
 simp[execOp,A,o.eval C,o.eval q,Instr.index,asIntOf,B,al,aI]
theorem jo {x i : Operand} {t : TypeId} {s : List UInt8} {k : IntKind} {aD : Int} (j : Nat) (A : ∀w,(underlying t).run P w= .ok .string w) (r : J.op= .index t x i := by exact rfl) (B : aF l x=some (aI s) := by exact rfl) (o : aF l i=some (.int k aD) := by exact rfl) (q : aD=j := by first|rfl|omega) (d : j<s.length := by omega) : Y P w0 n l H J (.int .u8 (s[j]'d).toNat) := Y.G3 j r A B o q d
theorem Y.y4{x:Operand}{o d:Option Operand}{t:TypeId}{s:List UInt8}(i j:Nat)(B:J.op= .slice t x o d none)(E:∀w,(underlying t).run P w= .ok .string w)(F:aF l x=some (aI s))
 (A:o=none∧i=0∨∃p k aD,o=some p∧aF l p=some (.int k aD)∧aD=(i:Int)) (r:d=none∧j=s.length∨∃p k aD,d=some p∧aF l p=some (.int k aD)∧aD=(j:Int)) (L:i≤j) (M:j≤s.length):Y P w0 n l H J (aI ((s.take j).drop i)):=by
 intro ac w q K
 have aK:∀w,(Instr.sliceBounds false s.length s.length (o.map ac.eval) (d.map ac.eval) none).run P w= .ok (i,j,s.length) w:=by
  intro w
  rcases A with⟨rfl,rfl⟩|⟨p,k,aD,rfl,G,rfl⟩<;>rcases r with⟨rfl,rfl⟩|⟨O,a8,N,rfl,I,rfl⟩<;>
   simp[Instr.sliceBounds,Instr.sliceBound,asIntOf,q.eval, *]
 have hu:∀w,(underlying t).run P w= .ok .string w:=E;have C:(ByteArray.mk s.toArray).size=s.length:=m_ s
 have hex:(ByteArray.mk s.toArray).extract i j=ByteArray.mk ((s.take j).drop i).toArray:=by
  apply ByteArray.ext;simp[ByteArray.data_extract,List.extract_toArray,List.extract_eq_take_drop,List.drop_take]
 simp[execOp,B,q.eval F,Instr.sliceAt,Instr.slice,hu,aI,C,aK,hex]
section
variable {α : Type} {F : Nat → Prop} {f : α → List Value} {sz : Nat} {v : Value} {xs : List α}
theorem Y.len{x:Operand}{t e:TypeId}(h:Rd F H f sz v xs)(i:J.op= .call {callee:= .builtin .len,args:= #[x],argTypes:= #[t]})(j:∀w,(underlying t).run P w= .ok (.slice e) w)(k:aF l x=some v):Y P w0 n l H J (.int .i64 xs.length):=by
 obtain⟨a,cap,rfl,_⟩:=h.ex;intro ac w d o;simp[execOp,i,d.eval k,resolve,invoke,builtin,Builtin.len_,j,goInt]
theorem bb {x : Operand} {t e : TypeId} (h : Rd F H f sz v xs) (i : ∀w,(underlying t).run P w= .ok (.slice e) w) (d : J.op= .call {callee:= .builtin .len,args:= #[x],argTypes:= #[t]} := by exact rfl) (j : aF l x=some v := by exact rfl) : Y P w0 n l H J (.int .i64 xs.length) := Y.len h d i j
theorem Y.indexAddr{x i:Operand}{t e:TypeId}{k:IntKind}{aD:Int}(h:Rd F H f sz v xs)(j:Nat)(E:J.op= .indexAddr t x i)(G:∀w,(underlying t).run P w= .ok (.slice e) w)(al:∀w,(sizeOf e).run P w= .ok sz w)
 (I:aF l x=some v) (B:aF l i=some (.int k aD)) (C:aD=j) (d:j<xs.length):∃ad,(∀aa,Y P w0 n l aa J (.pointer (some ad)))∧cg H ad (f xs[j]):=by
 obtain⟨a,cap,rfl,M,U,A⟩:=h.ex;obtain⟨ad,rfl,q,K,L,r⟩:=A (by intro e;subst e;simp at d);subst C;refine⟨_,?_,r j xs[j] (by simp[d])⟩;intro aa ac w o N;simp[execOp,E,o.eval I,o.eval B,Instr.indexAt,asIntOf,G,al,d,add_eq q]
theorem Y.fU{x:Operand}{t:TypeId}{ad:Addr}{c:Value}{cs:List Value}(h:cg H ad (c::cs))(j:J.op= .load t x)(k:∀w,(isAgg t).run P w= .ok false w)(o:aF l x=some (.pointer (some ad))):Y P w0 n l H J c:=by
 intro ac w i d;have av:=h.cells 0 c (by simp);have:({block:=ad.block,off:=ad.off+0,spot:=none}:Addr)=ad:=by have:=h.spot;obtain⟨b,off,s⟩:=ad;simp_all
 rw[this,←d.cell]at av;simp[execOp,j,i.eval o,Instr.loadAt,Instr.sureAddr,loadVar,k,load,Sem.run,av]
theorem ar {x : Operand} {t : TypeId} {ad : Addr} {c : Value} {cs : List Value} (h : cg H ad (c::cs)) (i : ∀w,(isAgg t).run P w= .ok false w) (d : J.op= .load t x := by exact rfl) (j : aF l x=some (.pointer (some ad)) := by exact rfl) : Y P w0 n l H J c := Y.fU h d i j
theorem run_loadCellsFrom{P:Program}{w:World}{ad:Addr}(al:ad.spot=none):∀(k i:Nat) (cs:List Value) (acc:Array Value),cs.length=k→(∀j c,cs[j]?=some c→w.cell? ⟨ad.block,ad.off+(i+j),none⟩=some c)→
 (loadCellsFrom ad i k acc).run P w= .ok (acc++cs.toArray) w
 |0,i,cs,acc,d,_=>by
  have:cs=[]:=List.eq_nil_of_length_eq_zero d
  subst this;simp[loadCellsFrom]
 |k+1,i,cs,acc,d,h=>by
  match cs,d with
  |c::cs,d=>
   have n:=h 0 c (by simp);have:=run_loadCellsFrom (P:=P) (w:=w) al k (i+1) cs (acc.push c) (by simpa using d) (fun j o e=>by have:=h (j+1) o (by simpa using e);rwa[show i+(j+1)=i+1+j by omega]at this);simp only[Nat.add_zero]at n;simp[loadCellsFrom,load,Sem.run,add_eq al,n,this]
theorem Y.nP{x:Operand}{t:TypeId}{ad:Addr}{cs:List Value}{k:Nat}(h:cg H ad cs)(q:J.op= .load t x)(r:∀w,(isAgg t).run P w= .ok true w)(al:∀w,(sizeOf t).run P w= .ok k w)(o:cs.length=k)(A:aF l x=some (.pointer (some ad))):Y P w0 n l H J (.agg cs.toArray):=by
 intro ac w i d;have:=run_loadCellsFrom (P:=P) (w:=w) h.spot k 0 cs #[] o (fun j c e=>by rw[d.cell];simpa using h.cells j c e);simp[execOp,q,i.eval A,Instr.loadAt,Instr.sureAddr,loadVar,r,al,loadCells,this]
theorem aT {x : Operand} {t : TypeId} {ad : Addr} {cs : List Value} {k : Nat} (h : cg H ad cs) (j : ∀w,(isAgg t).run P w= .ok true w) (al : ∀w,(sizeOf t).run P w= .ok k w) (d : cs.length=k) (i : J.op= .load t x := by exact rfl) (o : aF l x=some (.pointer (some ad)) := by exact rfl) : Y P w0 n l H J (.agg cs.toArray) := Y.nP h i j al d o
theorem Y.fieldAddr{x:Operand}{s:TypeId}{k off d:Nat}{ad:Addr}{cs:List Value}{fs:Array Field}{fd:Field}(h:cg H ad cs)(o:J.op= .fieldAddr s x k)(hu:∀w,(underlying s).run P w= .ok (.struct fs) w)(j:fs[k]?=some fd)(q:fd.offset=off)
 (r:∀w,(sizeOf fd.type).run P w= .ok d w) (A:d≠0) (t:aF l x=some (.pointer (some ad))):Y P w0 n l H J (.pointer (some (ad.add off))):=by
 intro ac w i C;have B:=h;simp[execOp,o,i.eval t,Instr.fieldAt,Instr.sureAddr,fieldPlace,hu,j,q,r,A]
theorem Y.slice{x:Operand}{r o:Option Operand}{t e:TypeId}(h:Rd F H f sz v xs)(i j:Nat)(Q:J.op= .slice t x r o none)(R:∀w,(underlying t).run P w= .ok (.slice e) w)(al:∀w,(sizeOf e).run P w= .ok sz w)(S:aF l x=some v)
 (N:r=none∧i=0∨∃p k aD,r=some p∧aF l p=some (.int k aD)∧aD=(i:Int)) (L:o=none∧j=xs.length∨∃p k aD,o=some p∧aF l p=some (.int k aD)∧aD=(j:Int)) (W:i≤j) (M:j≤xs.length):
 ∃C,(∀aa,Y P w0 n l aa J C)∧Rd F H f sz C ((xs.take j).drop i):=by
 obtain⟨a,cap,rfl,K,U,A⟩:=h.ex;refine⟨.slice (if cap=i then a else a.map (·.add (i*sz))) (j-i) (cap-i),?_,?_⟩
 ·intro aa ac w B V
  have aK:∀w,(Instr.sliceBounds true xs.length cap (r.map ac.eval) (o.map ac.eval) none).run P w= .ok (i,j,cap) w:=by
   intro w;have T:j≤cap:=by omega
   rcases N with⟨rfl,rfl⟩|⟨p,k,aD,rfl,K,rfl⟩<;>rcases L with⟨rfl,rfl⟩|⟨ab,a8,Z,rfl,A,rfl⟩<;>
    simp[Instr.sliceBounds,Instr.sliceBound,asIntOf,B.eval, *]
  have hu:∀w,(underlying t).run P w= .ok (.slice e) w:=R;simp[execOp,Q,B.eval S,Instr.sliceAt,Instr.slice,hu,al,aK]
 ·have hlen:((xs.take j).drop i).length=j-i:=by simp;omega
  refine⟨_,_,by rw[hlen],by rw[hlen];omega,by omega,fun O=>?_⟩
  have X:i<j:=by
   apply Decidable.byContradiction;intro av;exact O (List.eq_nil_of_length_eq_zero (by rw[hlen];omega))
  obtain⟨ad,rfl,d,E,G,I⟩:=A (by intro e;subst e;simp at M;omega);rw[if_neg (by omega)];refine⟨ad.add (i*sz),rfl,by rw[add_eq d],by rw[add_eq d];exact E,by rw[add_eq d];exact G,fun q y hy=>?_⟩;rw[add_eq d];rw[List.getElem?_drop,List.getElem?_take]at hy;split at hy
  ·have:=I (i+q) y hy
   simpa[Nat.add_mul,Nat.add_assoc]using this
  ·cases hy
end
end
end E

namespace E
section
variable {P : Program} {ops : Array Oper} {md : Region.Mode} {Q : Exit → Act → World → Prop} {S : World → Prop} {X : List Nat}
def jn(P:Program)(md:Region.Mode)(ops:Array Oper)(Q:Exit→Act→World→Prop)(S:World→Prop)(X:List Nat):Nat→Array Bool→Act→World→Prop
 |0,listed,a,w=>Region.ready md ops listed=[]∧Q .normal a w
 |fuel+1,listed,a,w=>
  (Region.ready md ops listed=[]→Q .normal a w)∧
  ∀i∈Region.ready md ops listed,wpOp P ops Q i (fun j d=>(X.contains i=true∨S d)∧jn P md ops Q S X fuel (listed.setIfInBounds i true) j d) a w
theorem zM:∀(fuel:Nat) (listed:Array Bool) (a:Act) (w:World),jn P md ops Q S X fuel listed a w→wpAny P md ops Q fuel listed a w
 |0,_,_,_,h=>h
 |fuel+1,_,_,_,h=>⟨h.1,fun i k=>wpOp_mono (fun d n j=>zM fuel _ d n j.2) (h.2 i k)⟩
theorem Ic{i:Nat}{r:Oper}{v:Value}(E:ops[i]?=some r)(N:∀(j:Nat) (J:Oper) cs b,ops[j]?=some J→J.op≠ .select cs b)
 (V:∀c a w,Q (.panic c) (a.put r.dst v) w→Q (.panic c) a w) (W:∀j,X.contains j=true→j=i∨Region.waitsFor md ops j i=true):
 ∀(fuel:Nat) (listed:Array Bool) (a:Act) (w:World),
  (∀j n,ops[j]?=some n→j≠i→listed.getD j true=false→(∀e∈n.after,Region.binds md e=true→e.on≠i)→r.apart ops n=true)→
  i∈Region.ready md ops listed→YieldsIf P ops S r v a→S w→
  jn P md ops Q S X fuel (listed.setIfInBounds i true) (a.put r.dst v) w→jn P md ops Q S X (fuel+1) listed a w:=by
 intro fuel
 induction fuel with
 |zero=>
  intro listed a w _ q hy t H;refine⟨fun h=>(by rw[h]at q;cases q),fun j x=>?_⟩;by_cases d:j=i
  ·subst d;exact hy.wpOp E t ⟨.inr t,H⟩
  ·have:=ready_mono x d
   rw[H.1]at this
   cases this
 |succ fuel ih=>
  intro listed a w I q hy t H;refine⟨fun h=>(by rw[h]at q;cases q),fun j x=>?_⟩;by_cases d:j=i
  ·subst d;exact hy.wpOp E t ⟨.inr t,H⟩
  ·have o:=H.2 j (ready_mono x d)
   obtain⟨L,n,A,Y⟩:=mem_ready.1 x
   have M:∀e∈n.after,Region.binds md e=true→e.on≠i:=fun e he aw heq=>by
    have o:=Y e he aw;have F:=(mem_ready.1 q).1;rw[heq]at o;rcases Nat.lt_or_ge i listed.size with B|B
    ·simp[B]at F o;rw[F]at o;cases o
    ·simp[Array.getElem?_eq_none B]at o
   have aa:¬X.contains j=true:=fun av=>by
    rcases W j av with h|h
    ·exact d h
    ·obtain⟨ai,ag,e,he,aw,ah⟩:=Region.waitsFor_spec h
     have:ai=n:=Option.some.inj (ag.symm.trans A);subst this;exact M e he aw ah
   have U:=wpOp_putIf A (I j n A d L M) (fun cs b=>N i r cs b E) (fun cs b=>N j n cs b A) V hy o
   have Z:∀k ok,ops[k]?=some ok→k≠i→(listed.setIfInBounds j true).getD k true=false→
    (∀e∈ok.after,Region.binds md e=true→e.on≠i)→r.apart ops ok=true:=fun k ok ab ae O af=>by
    refine I k ok ab ae ?_ af;by_cases K:j=k
    ·subst K;exact L
    ·rw[getD_set_ne true K]at O;exact O
   refine wpOp_mono (fun T R C=>?_) U;have G:S R:=C.2.1.resolve_left aa;refine⟨.inr G,ih (listed.setIfInBounds j true) T R Z (ready_mono q (Ne.symm d)) C.1 G ?_⟩;rw[Array.setIfInBounds_comm _ _ d];exact C.2.2
theorem uc{i:Nat}{d:Oper}{v:Value}{fuel:Nat}{listed:Array Bool}{a:Act}{w:World}(q:X.all (fun j=>Nat.beq j i||Region.waitsFor md ops j i)=true)(k:ops[i]?=some d)
 (al:Region.noSelect ops=true) (r:Region.free md ops listed i=true) (x:(Region.ready md ops listed).contains i=true)
 (n:∀c a w,Q (.panic c) (a.put d.dst v) w→Q (.panic c) a w) (hy:YieldsIf P ops S d v a) (o:S w)
 (h:jn P md ops Q S X fuel (listed.setIfInBounds i true) (a.put d.dst v) w):jn P md ops Q S X (fuel+1) listed a w:=
 Ic k (Region.noSelect_spec al) n (fun j t=>by
  have:=List.all_eq_true.1 q j (by simpa using t);rw[Bool.or_eq_true]at this;exact this.imp Nat.eq_of_beq_eq_true id) fuel listed a w (Region.free_spec k r) (by simpa using x) hy o h
theorem zK{rs:List Nat}{fuel:Nat}{listed:Array Bool}{a:Act}{w:World}(d:Region.ready md ops listed=rs)(o:rs≠[])
 (h:∀i∈rs,wpOp P ops Q i (fun k j=>(X.contains i=true∨S j)∧jn P md ops Q S X fuel (listed.setIfInBounds i true) k j) a w):jn P md ops Q S X (fuel+1) listed a w:=
 ⟨fun n=>absurd (d▸n) o,d▸h⟩
theorem Ib{listed:Array Bool}{a:Act}{w:World}(d:Region.ready md ops listed=[])(h:Q .normal a w):∀fuel,jn P md ops Q S X fuel listed a w
 |0=>⟨d,h⟩
 |_+1=>⟨fun _=>h,by rw[d];simp⟩
end
def dD(n:Nat)(dn:List Nat):Array Bool:=dn.foldr (fun i a=>a.setIfInBounds i true) (Array.replicate n false)
def O(P:Program)(w0:World)(ops:Array Oper)(Q:Exit→Act→World→Prop)(bV:Heap→Prop)(X:List Nat)(n k:Nat)(dn:List Nat)(l:bZ)(H:Heap):Prop:=
 ∀a w,Fr n l a→At w0 H w→jn P .any ops (NoPanic Q) (fun d=>∃aa,At w0 aa d∧bV aa) X k (dD ops.size dn) a w
def dq(P:Program)(w0:World)(ops:Array Oper)(Q:Exit→Act→World→Prop)(bV:Heap→Prop)(X:List Nat)(n k i:Nat)(dn:List Nat)(l:bZ)(H:Heap):Prop:=
 ∀a w,Fr n l a→At w0 H w→wpOp P ops (NoPanic Q) i (fun j d=>(X.contains i=true∨∃aa,At w0 aa d∧bV aa)∧jn P .any ops (NoPanic Q) (fun d=>∃aa,At w0 aa d∧bV aa) X k (dD ops.size (i::dn)) j d) a w
section
variable {P : Program} {w0 : World} {Q : Exit → Act → World → Prop} {n k i : Nat} {dn : List Nat} {l : bZ} {H : Heap} {ops : Array Oper} {J : Oper} {bV : Heap → Prop} {X : List Nat}
theorem G.Gd{id:Nat}{d:List Oper}(bV:Heap→Prop)(X:List Nat)(hm:P.follows .mixedOrders=true)(h:O P w0 d.toArray Q bV X n d.length [] l H):G P w0 Q n l (.region id d.toArray true) H:=by
 intro a w j i;refine wp_region_noPanic (wp_region_any hm (zM (S:=fun k=>∃aa,At w0 aa k∧bV aa) (X:=X) _ _ _ _ ?_));have:=h a _ j i.drew
 simpa[dD]using this
theorem dx {id : Nat} {d : List Oper} (bV : Heap→Prop) (X : List Nat) (h : O P w0 d.toArray Q bV X n d.length [] l H) (hm : P.follows .mixedOrders=true := by exact rfl) : G P w0 Q n l (.region id d.toArray true) H := G.Gd bV X hm h
theorem O.take{v:Value}{d:Nat}(i:Nat)(A:X.all (fun j=>Nat.beq j i||Region.waitsFor .any ops j i)=true)(E:ops[i]?=some J)(al:Region.noSelect ops=true)(C:Region.free .any ops (dD ops.size dn) i=true)(F:(Region.ready .any ops (dD ops.size dn)).contains i=true)
 (hy:∀aa,bV aa→Y P w0 n l aa J v) (hw:c5 ops l J) (an:J.dst=some d) (aA:Nat.blt d n=true) (t:bV H) (h:O P w0 ops Q bV X n k (i::dn) ((d,v)::l) H):O P w0 ops Q bV X n (k+1) dn l H:=by
 intro a w o q;have r:=o.put aA v;rw[←an]at r;exact uc A E al C F (fun _ _ _ h=>h) (.inl ⟨hw n a o,fun G ⟨aa,B,x⟩=>hy aa x a G o B⟩) ⟨H,q,t⟩ (h _ w r q)
theorem O.e{α:Type}{g:α→Value}{φ:α→Prop}{d:Nat}(i:Nat)(r:X.all (fun j=>Nat.beq j i||Region.waitsFor .any ops j i)=true)(A:ops[i]?=some J)(al:Region.noSelect ops=true)(t:Region.free .any ops (dD ops.size dn) i=true)(B:(Region.ready .any ops (dD ops.size dn)).contains i=true)
 (hy:∃x,(∀aa,Y P w0 n l aa J (g x))∧φ x) (hw:c5 ops l J) (an:J.dst=some d) (aA:Nat.blt d n=true) (q:bV H) (h:∀x,φ x→O P w0 ops Q bV X n k (i::dn) ((d,g x)::l) H):O P w0 ops Q bV X n (k+1) dn l H:=
 let⟨x,o,U⟩:=hy
 O.take i r A al t B (fun aa _=>o aa) hw an aA q (h x U)
theorem O.gs{d j e:Nat}{b c:Bool}(i:Nat)(x:X.all (fun j=>Nat.beq j i||Region.waitsFor .any ops j i)=true)(C:ops[i]?=some J)(al:Region.noSelect ops=true)(A:Region.free .any ops (dD ops.size dn) i=true)(I:(Region.ready .any ops (dD ops.size dn)).contains i=true)
 (B:J.guard=some (j,b)) (E:(ops[j]?).bind (·.dst)=some e) (av:cL l e=some (.bool c)) (F:(c==b)=false) (an:J.dst=some d) (aA:Nat.blt d n=true) (t:bV H) (h:O P w0 ops Q bV X n k (i::dn) ((d,undef)::l) H):O P w0 ops Q bV X n (k+1) dn l H:=by
 intro a w q o
 have hw:Region.wanted J (yielded ops a.tmps)=false:=by
  have G:c≠b:=by intro e;subst e;simp at F
  simp[Region.wanted,B,ud q E av,G]
 have r:=q.put aA undef;rw[←an]at r;exact uc x C al A I (fun _ _ _ h=>h) (.inr ⟨hw,rfl⟩) ⟨H,o,t⟩ (h _ w r o)
theorem O.sA{d j e:Nat}{b:Bool}(i:Nat)(B:X.all (fun j=>Nat.beq j i||Region.waitsFor .any ops j i)=true)(F:ops[i]?=some J)(al:Region.noSelect ops=true)(C:Region.free .any ops (dD ops.size dn) i=true)(I:(Region.ready .any ops (dD ops.size dn)).contains i=true)
 (E:J.guard=some (j,b)) (G:(ops[j]?).bind (·.dst)=some e) (av:cL l e=some undef) (an:J.dst=some d) (aA:Nat.blt d n=true) (A:bV H) (h:O P w0 ops Q bV X n k (i::dn) ((d,undef)::l) H):O P w0 ops Q bV X n (k+1) dn l H:=by
 intro a w q o
 have hw:Region.wanted J (yielded ops a.tmps)=false:=by
  have t:=q.get e _ av;have U:(ops[j]?).bind (fun J=>J.dst)=some e:=G
  have x:yielded ops a.tmps j=none:=by
   unfold yielded;rw[U];simp[t,undef]
  simp[Region.wanted,E,x]
 have r:=q.put aA undef;rw[←an]at r;exact uc B F al C I (fun _ _ _ h=>h) (.inr ⟨hw,rfl⟩) ⟨H,o,A⟩ (h _ w r o)
theorem O.bj{d:Nat}{p:Prop}[Decidable p](av:cL l d=some (.bool (decide p)))(q:p→O P w0 ops Q bV X n k dn ((d,.bool true)::l) H)(he:¬p→O P w0 ops Q bV X n k dn ((d,.bool false)::l) H):O P w0 ops Q bV X n k dn l H:=by
 intro a w o j;by_cases i:p
 ·rw[decide_eq_true i]at av;exact q i a w (o.same av) j
 ·rw[decide_eq_false i]at av;exact he i a w (o.same av) j
theorem O.split{d:Nat}{b:Bool}(av:cL l d=some (.bool b))(o:b=true→O P w0 ops Q bV X n k dn ((d,.bool true)::l) H)(he:b=false→O P w0 ops Q bV X n k dn ((d,.bool false)::l) H):O P w0 ops Q bV X n k dn l H:=by
 intro a w j i;cases b
 ·exact he rfl a w (j.same av) i
 ·exact o rfl a w (j.same av) i
theorem zL{md:Region.Mode}{Q:Exit→Act→World→Prop}{S d:World→Prop}(k:∀w,d w→S w):∀(fuel:Nat) (listed:Array Bool) (a:Act) (w:World),jn P md ops Q d X fuel listed a w→jn P md ops Q S X fuel listed a w
 |0,_,_,_,h=>h
 |fuel+1,_,_,_,h=>⟨h.1,fun i q=>wpOp_mono (fun o n j=>⟨j.1.imp id (k n),zL k fuel _ o n j.2⟩) (h.2 i q)⟩
theorem O.narrow{SH2:Heap→Prop}(i:∀aa,SH2 aa→bV aa)(h:O P w0 ops Q SH2 X n k dn l H):O P w0 ops Q bV X n k dn l H:=
 fun a w o j=>zL (fun _ ⟨aa,d,U⟩=>⟨aa,d,i aa U⟩) _ _ _ _ (h a w o j)
theorem O.done(j:Region.ready .any ops (dD ops.size dn)=[])(h:aP w0 Q n l H):O P w0 ops Q bV X n k dn l H:=
 fun a w i d=>Ib (Q:=NoPanic Q) j (NoPanic.normal (h a w i d)) _
theorem cx (h : aP w0 Q n l H) (d : Region.ready .any ops (dD ops.size dn)=[] := by kernel_rfl) : O P w0 ops Q bV X n k dn l H := O.done d h
theorem O.one{i:Nat}(r:Region.ready .any ops (dD ops.size dn)=[i])(h:dq P w0 ops Q bV X n k i dn l H):O P w0 ops Q bV X n (k+1) dn l H:=
 fun a w q o=>zK r (by simp) (fun j d=>by
  simp only[List.mem_singleton]at d;subst d;exact h a w q o)
theorem O.two{i j:Nat}(t:Region.ready .any ops (dD ops.size dn)=[i,j])(h:dq P w0 ops Q bV X n k i dn l H)(U:dq P w0 ops Q bV X n k j dn l H):O P w0 ops Q bV X n (k+1) dn l H:=
 fun a w o d=>zK t (by simp) (fun q r=>by
  simp only[List.mem_cons,List.not_mem_nil,or_false]at r;rcases r with rfl|rfl
  ·exact h a w o d
  ·exact U a w o d)
theorem dq.z{R:Value→Heap→Prop}{d:Nat}(A:ops[i]?=some J)(C:Z P w0 n l H J R)(hw:c5 ops l J)(an:J.dst=some d)(aA:Nat.blt d n=true)
 (h:∀v aa,R v aa→(X.contains i=true∨bV aa)∧O P w0 ops Q bV X n k (i::dn) ((d,v)::l) aa):dq P w0 ops Q bV X n k i dn l H:=by
 intro a w o x;obtain⟨v,aa,E,B,q,t⟩:=C a w o x;obtain⟨j,U⟩:=h v aa t;have r:=o.put aA v;rw[←an]at r;unfold wpOp;simp only[A];rw[if_pos (hw n a o)];refine .inl ?_;unfold Oper.wp;rw[B];exact⟨j.imp id (fun j=>⟨aa,q,j⟩),U _ E r q⟩
theorem et {j : Value→Heap→Prop} {d : Nat} (o : ops[i]?=some J) (q : Z P w0 n l H J j) (h : ∀v aa,j v aa→(X.contains i=true∨bV aa)∧O P w0 ops Q bV X n k (i::dn) ((d,v)::l) aa) (hw : c5 ops l J := by exact c5.u rfl) (an : J.dst=some d := by exact rfl) (aA : Nat.blt d n=true := by exact rfl) : dq P w0 ops Q bV X n k i dn l H := dq.z o q hw an aA h
theorem dq.v{v:Value}{d:Nat}(t:ops[i]?=some J)(hy:Y P w0 n l H J v)(hw:c5 ops l J)(an:J.dst=some d)(aA:Nat.blt d n=true)(q:X.contains i=true∨bV H)
 (h:O P w0 ops Q bV X n k (i::dn) ((d,v)::l) H):dq P w0 ops Q bV X n k i dn l H:=
 dq.z (R:=fun u aa=>u=v∧aa=H) t (fun a w r j=>⟨v,H,w,hy a w r j,j,rfl,rfl⟩) hw an aA (fun u aa ⟨aK,o⟩=>by subst aK;subst o;exact⟨q,h⟩)
theorem hg {v : Value} {d : Nat} (o : ops[i]?=some J) (hy : Y P w0 n l H J v) (j : X.contains i=true∨bV H) (h : O P w0 ops Q bV X n k (i::dn) ((d,v)::l) H) (hw : c5 ops l J := by exact c5.u rfl) (an : J.dst=some d := by exact rfl) (aA : Nat.blt d n=true := by exact rfl) : dq P w0 ops Q bV X n k i dn l H := dq.v o hy hw an aA j h
theorem dq.s{q:Heap→Prop}(B:ops[i]?=some J)(E:S P w0 n l H J q)(hw:c5 ops l J)(an:J.dst=none)
 (h:∀aa,q aa→(X.contains i=true∨bV aa)∧O P w0 ops Q bV X n k (i::dn) l aa):dq P w0 ops Q bV X n k i dn l H:=by
 intro a w o A;obtain⟨aa,d,C,r,x⟩:=E a w o A;obtain⟨j,U⟩:=h aa x;unfold wpOp;simp only[B];rw[if_pos (hw n a o)];refine .inl ?_;unfold Oper.wp;rw[C];show(fun t d=>(X.contains i=true∨∃aa,At w0 aa d∧bV aa)∧jn P .any ops (NoPanic Q) (fun d=>∃aa,At w0 aa d∧bV aa) X k (dD ops.size (i::dn)) t d) (a.put J.dst undef) d;rw[an];exact⟨j.imp id (fun j=>⟨aa,r,j⟩),U a d o r⟩
theorem gL {d : Heap→Prop} (j : ops[i]?=some J) (o : S P w0 n l H J d) (h : ∀aa,d aa→(X.contains i=true∨bV aa)∧O P w0 ops Q bV X n k (i::dn) l aa) (hw : c5 ops l J := by exact c5.u rfl) (an : J.dst=none := by exact rfl) : dq P w0 ops Q bV X n k i dn l H := dq.s j o hw an h
theorem dq.call{t:Value→Heap→Prop}{f d:Nat}{args:List Operand}{C:Array TypeId}{j:List Value}(I:ops[i]?=some J)(K:J.op= .call {callee:= .value (.func f),args:=args.toArray,argTypes:=C})
 (G:∀(j:Array Value) (w:World),(callFunc f j).run P w= .ok (.enter f j) w) (L:gI l args=some j) (hw:c5 ops l J) (an:J.dst=some d) (aA:Nat.blt d n=true) (av:aC P w0 f j.toArray H t)
 (h:∀v aa,t v aa→(X.contains i=true∨bV aa)∧O P w0 ops Q bV X n k (i::dn) ((d,v)::l) aa):dq P w0 ops Q bV X n k i dn l H:=by
 intro a w q F;have B:=yD (P:=P) (ρ:=a.eval) (w:=w) K rfl G;rw[List.map_toArray,q.jR L]at B;unfold wpOp;simp only[I];rw[if_pos (hw n a q)];refine .inl ?_;unfold Oper.wp;rw[B];show Calls P f j.toArray w _;refine(av w F).mono ?_;rintro e M ⟨r,aa,rfl,x,E⟩;obtain⟨o,U⟩:=h r aa E;have A:=q.put aA r;rw[←an]at A;exact⟨o.imp id (fun o=>⟨aa,x,o⟩),U _ M A x⟩
theorem cf {o : Value→Heap→Prop} {f d : Nat} {args : List Operand} {q : Array TypeId} {j : List Value} (r : ∀(j:Array Value) (w:World),(callFunc f j).run P w= .ok (.enter f j) w) (av : aC P w0 f j.toArray H o) (h : ∀v aa,o v aa→(X.contains i=true∨bV aa)∧O P w0 ops Q bV X n k (i::dn) ((d,v)::l) aa) (t : ops[i]?=some J := by exact rfl) (x : J.op= .call {callee:= .value (.func f),args:=args.toArray,argTypes:=q} := by exact rfl) (A : gI l args=some j := by exact rfl) (hw : c5 ops l J := by exact c5.u rfl) (an : J.dst=some d := by exact rfl) (aA : Nat.blt d n=true := by exact rfl) : dq P w0 ops Q bV X n k i dn l H := dq.call t x r A hw an aA av h
end
end E

namespace E
abbrev bx{α:Type}(H:Heap)(f:α→List Value)(sz:Nat)(v:Value)(l:List α):Prop:=Rd (fun _=>True) H f sz v l
theorem Rd.any{α:Type}{F:Nat→Prop}{H:Heap}{f:α→List Value}{sz:Nat}{v:Value}{l:List α}(h:Rd F H f sz v l):bx H f sz v l:=h.imp (fun _ _ _=>trivial)
theorem Rd.lt{α:Type}{F:Nat→Prop}{H:Heap}{f:α→List Value}{sz:Nat}{v:Value}{l:List α}(h:Rd F H f sz v l):Rd (fun b=>b<H.size) H f sz v l:=h.imp (fun _ aw _=>aw)
def mx(d:Nat×Nat)(n:Nat):Prop:=d.1≤d.2∧∀i,i<n→¬(d.1≤i∧i<d.2)
theorem mx.zero(n:Nat):mx (0,0) n:=⟨Nat.le_refl _,fun _ _ h=>absurd h.2 (Nat.not_lt_zero _)⟩
def Row(H:Heap)(g:Nat)(cur:Array Value)(e:TypeId):Prop:=∃d,H[g]?=some (.cells cur e d)∧mx d cur.size
theorem Row.lt{H:Heap}{g:Nat}{cur:Array Value}{e:TypeId}(h:Row H g cur e):g<H.size:=let⟨_,h,_⟩:=h;(Array.getElem?_eq_some_iff.1 h).1
theorem Row.up{H aa:Heap}{g:Nat}{cur:Array Value}{e:TypeId}(h:Row H g cur e)(al:aa[g]?=H[g]?):Row aa g cur e:=let⟨d,i,U⟩:=h;⟨d,by rw[al];exact i,U⟩
theorem Row.cell{H:Heap}{g:Nat}{cur:Array Value}{e:TypeId}(h:Row H g cur e)(i:Nat):E.cell H ⟨g,i,none⟩=cur[i]?:=by
 obtain⟨j,d,_⟩:=h;simp[E.cell,d]
theorem Row.of{H:Heap}{g:Nat}{cur:Array Value}{e:TypeId}(h:H[g]?=some (.cells cur e (0,0))):Row H g cur e:=⟨_,h,mx.zero _⟩
structure Own {α:Type} (aR:Nat→Prop) (e:TypeId) (H:Heap) (f:α→List Value) (sz:Nat) (v:Value) (l:List α):Prop where
 cells:∀x,(f x).length=sz
 one:∀x,∀u∈f x,u.oneCell'=true
 ex:(v= .slice none 0 0∧l=[])∨∃g cap cur,v= .slice (some ⟨g,0,none⟩) l.length cap∧aR g∧Row H g cur e∧l.length≤cap∧cap≤maxLen∧cur.size=cap*sz∧cur.toList.take (l.length*sz)=l.flatMap f
abbrev gg(s:List UInt8):List Value:=[aI s]
abbrev qd(x:Int):List Value:=[.int .i64 x]
abbrev a1(b:UInt8):List Value:=[.int .u8 b.toNat]
structure aN where
 a:Option Addr
 len:Nat
 cap:Nat
abbrev aN.v(s:aN):Value:= .slice s.a s.len s.cap
theorem mM(s:List UInt8):(gg s).length=1:=rfl
theorem nD(s:List UInt8):∀u∈gg s,u.oneCell'=true:=by intro u hu;simp only[List.mem_singleton]at hu;subst hu;rfl
theorem km(s:Int):(qd s).length=1:=rfl
theorem kn(s:Int):∀u∈qd s,u.oneCell'=true:=by intro u hu;simp only[List.mem_singleton]at hu;subst hu;rfl
theorem eE(s:UInt8):(a1 s).length=1:=rfl
theorem fK(s:UInt8):∀u∈a1 s,u.oneCell'=true:=by intro u hu;simp only[List.mem_singleton]at hu;subst hu;rfl
def gO:Value→Nat
 | .slice (some a) _ _=>a.block
 | .pointer (some a)=>a.block
 | .map (some r)=>r
 |_=>0
theorem length_flatMap{α:Type}{f:α→List Value}{sz:Nat}(d:∀x,(f x).length=sz):∀l:List α,(l.flatMap f).length=l.length*sz
 |[]=>by simp
 |x::l=>by simp[d x,length_flatMap d l,Nat.add_mul,Nat.add_comm]
theorem qq{α:Type}{f:α→List Value}{sz:Nat}(d:∀x,(f x).length=sz):∀(l:List α) (i j:Nat) (x:α) (c:Value),l[i]?=some x→(f x)[j]?=some c→(l.flatMap f)[i*sz+j]?=some c
 |[],_,_,_,_,h,_=>by simp at h
 |y::l,0,j,x,c,h,av=>by
  simp only[List.getElem?_cons_zero,Option.some.injEq]at h;subst h;have k:=(List.getElem?_eq_some_iff.1 av).1;simp only[List.flatMap_cons,Nat.zero_mul,Nat.zero_add]
  rw[List.getElem?_append_left k];exact av
 |y::l,i+1,j,x,c,h,av=>by
  simp only[List.getElem?_cons_succ]at h;simp only[List.flatMap_cons];rw[List.getElem?_append_right (by rw[d y,Nat.add_mul];omega),d y];have:=qq d l i j x c h av;rwa[show(i+1)*sz+j-sz=i*sz+j by rw[Nat.add_mul];omega]
theorem Own.rd{α:Type}{aR:Nat→Prop}{e:TypeId}{H:Heap}{f:α→List Value}{sz:Nat}{v:Value}{l:List α}(h:Own aR e H f sz v l):Rd aR H f sz v l:=by
 rcases h.ex with⟨rfl,rfl⟩|⟨g,cap,cur,rfl,o,bE,k,U,r,n⟩
 ·exact Rd.nil _ _ _ _
 ·refine⟨_,cap,rfl,k,U,fun _=>⟨_,rfl,rfl,o,bE.lt,fun i x q=>⟨rfl,fun j c av=>?_⟩⟩⟩
  have d:=qq h.cells l i j x c q av;rw[←n,List.getElem?_take]at d;split at d
  ·simp only[Nat.zero_add]
   rw[bE.cell]
   simpa using d
  ·cases d
def cl:Value→aN
 | .slice a l c=>⟨a,l,c⟩
 |_=>⟨none,0,0⟩
theorem Rd.bl{α:Type}{F:Nat→Prop}{H:Heap}{f:α→List Value}{sz:Nat}{v:Value}{l:List α}(h:Rd F H f sz v l):(cl v).v=v:=by
 obtain⟨a,cap,rfl,_⟩:=h.ex;rfl
theorem Rd.o9{α:Type}{F:Nat→Prop}{H:Heap}{f:α→List Value}{sz:Nat}{v:Value}{l:List α}(h:Rd F H f sz v l):v.oneCell'=true:=by
 obtain⟨a,cap,rfl,_⟩:=h.ex;rfl
theorem Own.bl{α:Type}{aR:Nat→Prop}{e:TypeId}{H:Heap}{f:α→List Value}{sz:Nat}{v:Value}{l:List α}(h:Own aR e H f sz v l):(cl v).v=v:=h.rd.bl
section
variable {α : Type} {aR : Nat → Prop} {e : TypeId} {H aa : Heap} {f : α → List Value} {sz : Nat} {v : Value} {l : List α}
theorem Own.nil(i:∀x,(f x).length=sz)(d:∀x,∀u∈f x,u.oneCell'=true):Own aR e H f sz (.slice none 0 0) []:=⟨i,d,.inl ⟨rfl,rfl⟩⟩
theorem Own.up{S:Nat→Prop}(h:Own aR e H f sz v l)(s:W S H aa)(i:∀b,b<H.size→aR b→¬S b):Own aR e aa f sz v l:=by
 refine⟨h.cells,h.one,?_⟩;rcases h.ex with h|⟨g,cap,cur,j,d,bE,r⟩
 ·exact .inl h
 ·exact .inr ⟨g,cap,cur,j,d,bE.up (s.same g bE.lt (i _ bE.lt d)),r⟩
theorem Own.imp{G':Nat→Prop}(h:Own aR e H f sz v l)(d:∀b,b<H.size→aR b→G' b):Own G' e H f sz v l:=by
 refine⟨h.cells,h.one,?_⟩;rcases h.ex with h|⟨g,cap,cur,j,i,bE,r⟩
 ·exact .inl h
 ·exact .inr ⟨g,cap,cur,j,d _ bE.lt i,bE,r⟩
theorem Own.len(h:Own aR e H f sz v l):l.length≤9223372036854775807:=h.rd.len
theorem Own.at{j:Nat}(h:Own aR e H f sz v l)(i:j<l.length):aR (gO v)∧gO v<H.size∧∃cap,v= .slice (some ⟨gO v,0,none⟩) l.length cap:=by
 rcases h.ex with⟨rfl,rfl⟩|⟨g,cap,cur,rfl,d,bE,r⟩
 ·simp at i
 ·exact⟨d,bE.lt,cap,rfl⟩
theorem Own.N{j:Nat}(h:Own aR e H f sz v l)(i:j<l.length):cg H ⟨gO v,j*sz,none⟩ (f l[j]):=by
 obtain⟨B,U,cap,d⟩:=h.at i;obtain⟨a,r,k,_,_,q⟩:=h.rd.ex;obtain⟨ad,rfl,t,x,A,n⟩:=q (by intro e;subst e;simp at i);have aw:gO v=ad.block:=by rw[k];rfl
 have:=n j l[j] (by simp[i]);rw[k]at d;simp only[Value.slice.injEq,Option.some.injEq]at d;have o:ad.off=0:=by rw[d.1]
 rw[o,Nat.zero_add,←aw]at this;exact this
theorem yS{f:α→List Value}{sz:Nat}(d:∀x,(f x).length=sz):∀(l:List α) (j k:Nat) (x y:α) (c:Value),l[j]?=some x→k<sz→f y=(f x).set k c→(l.set j y).flatMap f=(l.flatMap f).set (j*sz+k) c
 |[],_,_,_,_,_,h,_,_=>by simp at h
 |z::l,0,k,x,y,c,h,i,hy=>by
  simp only[List.getElem?_cons_zero,Option.some.injEq]at h;subst h;simp only[List.set_cons_zero,List.flatMap_cons,hy,Nat.zero_mul,Nat.zero_add]
  rw[List.set_append_left _ _ (by rw[d z];exact i)]
 |z::l,j+1,k,x,y,c,h,i,hy=>by
  simp only[List.getElem?_cons_succ]at h;simp only[List.set_cons_succ,List.flatMap_cons];rw[yS d l j k x y c h i hy,List.set_append_right _ _ (by rw[d z,Nat.add_mul];omega),d z];congr 2;rw[Nat.add_mul];omega
def jV(H:Heap)(b i:Nat)(c:Value):Heap:=H.modify b fun
 | .cells cs e d=> .cells (cs.setIfInBounds i c) e d
 |J=>J
theorem DK(H:Heap)(b i:Nat)(c:Value):W (fun k=>k=b) H (jV H b i c):=
 ⟨by simp[jV],fun k _ d=>by simp only[jV,Array.getElem?_modify];rw[if_neg (fun e=>d e.symm)]⟩
theorem DJ{b i:Nat}{c:Value}{cs:Array Value}{e:TypeId}{d:Nat×Nat}(h:H[b]?=some (.cells cs e d)):(jV H b i c)[b]?=some (.cells (cs.setIfInBounds i c) e d):=by
 simp only[jV,Array.getElem?_modify,if_true,h];rfl
theorem Row.set{H:Heap}{b i:Nat}{c:Value}{cs:Array Value}{e:TypeId}(h:Row H b cs e):Row (jV H b i c) b (cs.setIfInBounds i c) e:=
 let⟨d,j,U⟩:=h;⟨d,DJ j,by simpa using U⟩
theorem Own.set{j k:Nat}{y:α}{c:Value}(h:Own aR e H f sz v l)(d:j<l.length)(r:k<sz)(hy:f y=(f l[j]).set k c):Own aR e (jV H (gO v) (j*sz+k) c) f sz v (l.set j y):=by
 refine⟨h.cells,h.one,?_⟩;rcases h.ex with⟨rfl,rfl⟩|⟨g,cap,cur,rfl,q,bE,i,U,n,o⟩
 ·simp at d
 ·refine .inr ⟨g,cap,_,by rw[List.length_set],q,bE.set,by rw[List.length_set];exact i,U,by simpa using n,?_⟩
  have t:j*sz+k<l.length*sz:=by
   have:=Nat.mul_le_mul_right sz (show j+1≤l.length from d);rw[Nat.add_mul]at this;omega
  rw[yS h.cells l j k l[j] y c (by simp[d]) r hy,←o,List.length_set,Array.toList_setIfInBounds,List.take_set]
end
theorem xm{α:Type}{d:List α}{k:Nat}(i:d.length=k):(d.zip (List.range' 0 d.length)).map (fun p=>(p.2,p.1))=(List.range k).zip d:=by
 subst i;rw[List.range_eq_range'];generalize 0=s
 induction d generalizing s with
 |nil=>rfl
 |cons v d ih=>simp[List.range'_succ,ih]
section
variable {P : Program} {w0 : World} {n : Nat} {l : bZ} {H : Heap} {J : Oper}
theorem At.alloc{w:World}(d:At w0 H w)(i:Obj):At w0 (H.push i) (w.alloc i):=⟨by simp[World.alloc,d.heap],d.os,d.tape,d.output,d.fJ⟩
theorem Z.alloc{t:TypeId}{z:Value}(i:J.op= .alloc t)(j:∀w,(zeroValue t).run P w= .ok z w):Z P w0 n l H J (fun v aa=>v= .pointer (some ⟨H.size,0,none⟩)∧aa=H.push (.cells z.cells t)):=by
 intro a w k d;refine⟨_,_,_,?_,d.alloc (.cells z.cells t),rfl,rfl⟩;simp[execOp,i,Instr.alloc,j,newVar,newRow,d.heap]
theorem Z.box{t:TypeId}{x:Operand}{v:Value}(j:J.op= .box t x)(k:aF l x=some v):Z P w0 n l H J (fun r aa=>r= .pointer (some ⟨H.size,0,none⟩)∧aa=H.push (.cells v.cells t)):=by
 intro a w i d;refine⟨_,_,_,?_,d.alloc (.cells v.cells t),rfl,rfl⟩;simp[execOp,j,i.eval k,Instr.box,newVar,newRow,d.heap]
theorem run_store{w:World}{ad:Addr}{c u:Value}(h:w.cell? ad=some u)(i:w.frozen? ad=false)(d:c.oneCell'=true):(store ad c).run P w= .ok () (w.setCell ad c):=by
 cases c<;>first|(simp[Value.oneCell']at d;done)|simp[store,Sem.run,h,i]
theorem S.cell{x y:Operand}{t:TypeId}{b i:Nat}{c:Value}{cs:Array Value}{e:TypeId}(C:J.op= .store t x y)(G:aF l x=some (.pointer (some ⟨b,i,none⟩)))(hy:aF l y=some c)(j:c.oneCell'=true)
 (al:∀w,(sizeOf t).run P w= .ok 1 w) (A:Row H b cs e) (o:i<cs.size):S P w0 n l H J (fun aa=>aa=jV H b i c):=by
 intro a w k d;obtain⟨⟨f1,f2⟩,aw,F⟩:=A;have av:w.cell? ⟨b,i,none⟩=some cs[i]:=by rw[d.cell];simp[E.cell,aw,o]
 have I:w.frozen? ⟨b,i,none⟩=false:=by have:=F.2 i o;simp only at this;simp[World.frozen?,d.heap,aw];omega
 have B:c.cells= #[c]:=by cases c<;>first|(simp[Value.oneCell']at j;done)|rfl
 refine⟨jV H b i c,{w with heap:=jV H b i c},?_,d.set,rfl⟩;have q:=run_store (P:=P) av I j
 have hw:w.setCell ⟨b,i,none⟩ c={w with heap:=jV H b i c}:=by
  simp only[World.setCell,jV,d.heap];congr 1
 rw[hw]at q;have r:(⟨b,i,none⟩:Addr).add 0=⟨b,i,none⟩:=by simp[Addr.add]
 simp[execOp,C,k.eval G,k.eval hy,Instr.storeAt,Instr.sureAddr,storeVar,B,al,storeCells,q,r]
section
variable {α : Type} {aR F : Nat → Prop} {e : TypeId} {f : α → List Value} {sz : Nat} {v : Value} {xs ys : List α}
theorem Y.FL{x i:Operand}{t:TypeId}{k:IntKind}{aD:Int}(h:Own aR e H f sz v xs)(j:Nat)(C:J.op= .indexAddr t x i)(E:∀w,(underlying t).run P w= .ok (.slice e) w)(al:∀w,(sizeOf e).run P w= .ok sz w)
 (F:aF l x=some v) (A:aF l i=some (.int k aD)) (B:aD=j) (o:j<xs.length):Y P w0 n l H J (.pointer (some ⟨gO v,j*sz,none⟩)):=by
 obtain⟨G,U,cap,r⟩:=h.at o;subst B;intro ac w d I;have q:=d.eval F;rw[r]at q;simp[execOp,C,q,d.eval A,Instr.indexAt,asIntOf,E,al,o,add_eq]
theorem S.own{x y:Operand}{t:TypeId}{c:Value}(h:Own aR e H f sz v xs)(j k:Nat)(z:α)(E:J.op= .store t x y)(i:aF l x=some (.pointer (some ⟨gO v,j*sz+k,none⟩)))(hy:aF l y=some c)(o:c.oneCell'=true)
 (al:∀w,(sizeOf t).run P w= .ok 1 w) (d:j<xs.length) (B:k<sz) (I:f z=(f xs[j]).set k c):S P w0 n l H J (fun aa=>Own aR e aa f sz v (xs.set j z)∧W (fun b=>b=gO v) H aa):=by
 intro a w A q;rcases h.ex with⟨rfl,rfl⟩|⟨g,cap,cur,G,L,bE,M,N,O,Q⟩
 ·simp at d
 ·have aw:gO v=g:=by rw[G];rfl
  have C:j*sz+k<cur.size:=by
   have:=Nat.mul_le_mul_right sz (show j+1≤cap by omega);rw[Nat.add_mul]at this;omega
  obtain⟨aa,K,F,r,rfl⟩:=S.cell (P:=P) (w0:=w0) (n:=n) E (by rw[aw]at i;exact i) hy o al bE C a w A q;refine⟨_,K,F,r,?_,by rw[aw];exact DK H g _ c⟩;rw[←aw];exact h.set d B I
theorem Own.new{G':Nat→Prop}{w:World}{z:Value}{cap:Nat}{zs:List α}(av:∀x,(f x).length=sz)(d:∀x,∀u∈f x,u.oneCell'=true)(k:z.cells.size=sz)(j:G' w.heap.size)(U:zs.length≤cap)(i:cap≤maxLen):
 Own G' e (w.alloc (.cells ((zs.flatMap f).toArray++Builtin.zeroCells z.cells (cap-zs.length)) e)).heap f sz (.slice (some ⟨w.heap.size,0,none⟩) zs.length cap) zs:=by
 refine⟨av,d,.inr ⟨w.heap.size,cap,_,rfl,j,.of (heap_alloc_new w _),U,i,?_,?_⟩⟩
 ·simp only[Array.size_append,List.size_toArray,size_zeroCells,k,length_flatMap av,←Nat.add_mul]
  congr 1;omega
 ·simp only[Array.toList_append]
  rw[←length_flatMap av zs];exact List.take_left
theorem Rd.lA{u:Value}{a:Addr}{m c:Nat}(h:Rd F H f sz u ys)(av:∀x,(f x).length=sz)(hu:u= .slice (some a) m c){w:World}(B:At w0 H w):∀j d,(ys.flatMap f)[j]?=some d→w.cell? (a.add j)=some d:=by
 intro j d an;obtain⟨ad,cap,k,N,O,K⟩:=h.ex;have i:=(List.getElem?_eq_some_iff.1 an).1;rw[length_flatMap av]at i;have E:ys≠[]:=by intro e;subst e;simp at i
 obtain⟨r,aK,t,L,M,A⟩:=K E
 have I:0<sz:=by rcases Nat.eq_zero_or_pos sz with h|h;·subst h;simp at i
                 ·exact h
 have hdiv:j/sz<ys.length:=Nat.div_lt_of_lt_mul (by rw[Nat.mul_comm];exact i);have G:=A (j/sz) ys[j/sz] (by simp[hdiv]);have hm:j%sz<(f ys[j/sz]).length:=by rw[av];exact Nat.mod_lt _ I
 have n:=G.cells (j%sz) (f ys[j/sz])[j%sz] (by simp[hm]);have o:=qq av ys (j/sz) (j%sz) _ _ (show ys[j/sz]?=some ys[j/sz]by simp[hdiv]) (show(f ys[j/sz])[j%sz]?=some (f ys[j/sz])[j%sz]by simp[hm]);have q:j/sz*sz+j%sz=j:=by rw[Nat.mul_comm];exact Nat.div_add_mod j sz
 rw[q,an]at o;simp only[Option.some.injEq]at o;have C:a=r:=by rw[hu]at k;simp only[Value.slice.injEq]at k;rw[aK]at k;exact Option.some.inj k.1
 rw[C,add_eq t,B.cell,o];simp only at n;rw[Nat.add_assoc,q]at n;exact n
def c4(P:Program)(t e:TypeId)(sz bytes:Nat):Prop:=P.underlying t=some (.slice e)∧∃i z,P.info? e=some i∧i.zero=some z∧i.size=sz∧i.bytes=bytes∧z.cells.size=sz
theorem m4(P:Program)(g J:Nat)(t:TypeId)(d:Nat×Nat):∀(k:List Value) (i:Nat) (cur:Array Value) (w:World),w.heap[g]?=some (.cells cur t d)→mx d cur.size→J+i+k.length≤cur.size→(∀v∈k,v.oneCell'=true)→
 (storeCells ⟨g,J,none⟩ k i).run P w= .ok () (w.setRow g (cur.toList.take (J+i)++k++cur.toList.drop (J+i+k.length)).toArray)
 |[],i,cur,w,j,_,_,_=>by
  simp only[storeCells,List.append_nil,List.length_nil,Nat.add_zero,List.take_append_drop,Array.toArray_toList];rw[setRow_self w g cur t d j]
  rfl
 |v::rest,i,cur,w,j,q,n,o=>by
  have r:J+i<cur.size:=by simp at n;omega
  have A:w.cell? ⟨g,J+i,none⟩=some cur[J+i]:=by simp[World.cell?,j,r]
  have B:w.frozen? ⟨g,J+i,none⟩=false:=by
   obtain⟨G,F⟩:=d;have:=q.2 (J+i) r;simp only at this;simp[World.frozen?,j];omega
  have C:(store ((⟨g,J,none⟩:Addr).add i) v).run P w= .ok () (w.setRow g (cur.setIfInBounds (J+i) v)):=by
   rw[add_eq rfl,run_store A B (o v (by simp)),setCell_eq_setRow w g (J+i) cur t d v j]
  have ih:=m4 P g J t d rest (i+1) (cur.setIfInBounds (J+i) v) (w.setRow g (cur.setIfInBounds (J+i) v)) (setRow_heap w g cur _ t _ j) (by simpa using q) (by simp at n⊢;omega) (fun x E=>o x (by simp[E]));simp only[storeCells,Sem.run_bind,C,Result.andThen_ok,ih,setRow_setRow];congr 3;have e:=list_seg_step cur.toList (J+i) v rest (by simp at n⊢;omega)
  simpa[Array.toList_setIfInBounds,Nat.add_assoc]using e
theorem GG{w:World}(t ty e:TypeId)(i:TypeInfo)(H:P.underlying t=some (.slice e))(C:P.info? e=some i)
 (g d n:Nat) (cur:Array Value) (k:Nat×Nat) (B:w.heap[g]?=some (.cells cur e k)) (A:mx k cur.size)
 (a:Addr) (m c:Nat) (news:List Value) (E:news.length=m*i.size) (F:∀j u,news[j]?=some u→w.cell? (a.add j)=some u) (q:∀u∈news,u.oneCell'=true)
 (G:d+m≤n) (x:d*i.size+news.length≤cur.size):
 (Builtin.append_ #[t,t] ty #[.slice (some ⟨g,0,none⟩) d n,.slice (some a) m c]).run P w=
  .ok (.slice (some ⟨g,0,none⟩) (d+m) n) (w.setRow g (cur.toList.take (d*i.size)++news++cur.toList.drop (d*i.size+news.length)).toArray):=by
 have r:=run_firstCells_some (P:=P) w i.size m a m c news E F;have o:=m4 P g (d*i.size) e k news 0 cur w B A (by simpa using x) q;simp only[Nat.add_zero]at o;simp[Builtin.append_,run_underlying H,sizeOf,typeInfo,C,Builtin.lenOf,G,r,Addr.add_lit,o]
theorem Z.append{s x:Operand}{t:TypeId}{u:Value}{bytes:Nat}(h:Own aR e H f sz v xs)(V:Rd F H f sz u ys)(C:J.op= .call {callee:= .builtin .append,args:= #[s,x],argTypes:= #[t,t]})
 (au:c4 P t e sz bytes) (al:aF l s=some v) (G:aF l x=some u) (aw:(xs.length+ys.length)*bytes≤140737488355328) (hm:xs.length+ys.length≤9223372036854775807):
 Z P w0 n l H J (fun r aa=>Own (fun b=>aR b∨H.size≤b) e aa f sz r (xs++ys)∧W aR H aa):=by
 obtain⟨E,i,z,o,X,aC,ah,aD⟩:=au;subst aC;subst ah;intro a w k d;obtain⟨ad,cap,rfl,aI,aJ,aE⟩:=id V.ex;have K:(ys.flatMap f).length=ys.length*i.size:=length_flatMap h.cells ys
 have ag:∀c∈ys.flatMap f,c.oneCell'=true:=by
  intro c av;obtain⟨y,hy,av⟩:=List.mem_flatMap.1 av;exact h.one y c av
 cases ad with
 |none=>
  have S:ys=[]:=by
   apply Decidable.byContradiction;intro aB;obtain⟨ad,aA,_⟩:=aE aB;cases aA
  subst S;refine⟨v,H,w,?_,d,by rw[List.append_nil];exact h.imp (fun b _ B=> .inl B),W.refl _ _⟩;rcases h.ex with⟨rfl,rfl⟩|⟨g,A,cur,rfl,B,bE,Y,ab,ae,af⟩
  ·simp[execOp,C,resolve,invoke,builtin,k.eval al,k.eval G,Builtin.append_,run_underlying E,sizeOf,typeInfo,o,Builtin.lenOf,Builtin.firstCells]
  ·simp[execOp,C,resolve,invoke,builtin,k.eval al,k.eval G,Builtin.append_,run_underlying E,sizeOf,typeInfo,o,Builtin.lenOf,Builtin.firstCells,Y,storeCells]
 |some ad=>
  have O:=V.lA h.cells rfl d
  have grown:∀(q:Nat) (r:Value),q<xs.length+ys.length→r= .slice (some ⟨w.heap.size,0,none⟩) (xs.length+ys.length) (grownCap w (xs.length+ys.length) q e)→∀I,I=Obj.cells ((xs.flatMap f).toArray++(ys.flatMap f).toArray++Builtin.zeroCells z.cells (grownCap w (xs.length+ys.length) q e-(xs.length+ys.length))) e→
   At w0 (w.drew.alloc I).heap (w.drew.alloc I)∧Own (fun b=>aR b∨H.size≤b) e (w.drew.alloc I).heap f i.size r (xs++ys)∧W aR H (w.drew.alloc I).heap:=by
   rintro q r aH rfl I rfl;have aq:=grownCap_ge w (xs.length+ys.length) q e;have ai:grownCap w (xs.length+ys.length) q e≤maxLen:=grownCap_le_maxLen w (xs.length+ys.length) q e (by unfold maxLen;omega);have N:At w0 H w.drew:=d.drew;refine⟨⟨rfl,d.os,d.tape,d.output,N.fJ⟩,?_,?_⟩
   ·have:=Own.new (e:=e) (G':=fun b=>aR b∨H.size≤b) (w:=w.drew) (z:=z) (cap:=grownCap w (xs.length+ys.length) q e) (zs:=xs++ys) h.cells h.one aD (.inr (by rw[N.heap];exact Nat.le_refl _)) (by simpa using aq) ai
    simpa using this
   ·rw[(N.alloc _).heap];exact W.push _ _ _
  rcases h.ex with⟨rfl,rfl⟩|⟨g,A,cur,rfl,B,bE,Y,ab,ae,af⟩
  ·by_cases az:ys.length=0
   ·have S:ys=[]:=List.eq_nil_of_length_eq_zero az
    subst S;refine⟨.slice none 0 0,H,w,?_,d,by simpa using h.imp (fun b _ B=> .inl B),W.refl _ _⟩;simp[execOp,C,resolve,invoke,builtin,k.eval al,k.eval G,Builtin.append_,run_underlying E,sizeOf,typeInfo,o,Builtin.lenOf,Builtin.firstCells,loadCells,loadCellsFrom]
   ·simp only[List.length_nil,Nat.zero_add]at aw hm
    have L:=run_append_nil (P:=P) w t J.type e i z E o X ad ys.length cap (ys.flatMap f) K O (by omega) (by omega) (by omega);have:=grown 0 _ (by simp;omega) rfl _ rfl;simp only[List.length_nil,Nat.zero_add,List.flatMap_nil,List.nil_append,Array.empty_append]at this;exact⟨_,_,_,by simp[execOp,C,resolve,invoke,builtin,k.eval al,k.eval G,L],this.1,this.2.1,this.2.2⟩
  ·obtain⟨M,ar,R⟩:=id bE
   have T:w.heap[g]?=some (.cells cur e M):=by rw[d.heap];exact ar
   by_cases Q:xs.length+ys.length≤A
   ·have ak:xs.length*i.size+(ys.flatMap f).length≤cur.size:=by rw[K,ae,←Nat.add_mul];exact Nat.mul_le_mul_right _ Q
    have L:=GG (P:=P) (w:=w) t J.type e i E o g xs.length A cur M T R ad ys.length cap (ys.flatMap f) K O ag Q ak;refine⟨.slice (some ⟨g,0,none⟩) (xs.length+ys.length) A,(w.setRow g (cur.toList.take (xs.length*i.size)++ys.flatMap f++cur.toList.drop (xs.length*i.size+(ys.flatMap f).length)).toArray).heap,w.setRow g (cur.toList.take (xs.length*i.size)++ys.flatMap f++cur.toList.drop (xs.length*i.size+(ys.flatMap f).length)).toArray,by simp[execOp,C,resolve,invoke,builtin,k.eval al,k.eval G,L],⟨rfl,d.os,d.tape,d.output,d.fJ⟩,⟨h.cells,h.one,.inr ⟨g,A,_,by rw[List.length_append],   .inl B,⟨M,setRow_heap w g cur _ e _ T,R.1,fun i o=>R.2 i (by simp only[List.size_toArray,List.length_append,List.length_take,List.length_drop,Array.length_toList]at o;omega)⟩,by simpa using Q,ab,?_,?_⟩⟩,⟨by rw[←d.heap];simp[World.setRow],fun b aw aA=>?_⟩⟩
    ·simp only[List.size_toArray,List.length_append,List.length_take,List.length_drop,Array.length_toList]
     omega
    ·have ay:=length_flatMap h.cells xs
     rw[af,←List.flatMap_append,List.length_append,Nat.add_mul,←K,←ay,←List.length_append,←List.flatMap_append];exact List.take_left
    ·rw[←d.heap];exact setRow_other w g b _ (fun e=>aA (e▸B))
   ·have holds:∀j c,(xs.flatMap f)[j]?=some c→w.cell? ((⟨g,0,none⟩:Addr).add j)=some c:=h.rd.lA h.cells rfl d
    have L:=run_append_grow (P:=P) w t J.type e i z E o X ⟨g,0,none⟩ xs.length A (xs.flatMap f) (length_flatMap h.cells xs) holds ad ys.length cap (ys.flatMap f) K O (by omega) (by omega) (growslice_fits (by omega) aw);have:=grown A _ (by omega) rfl _ rfl;exact⟨_,_,_,by simp[execOp,C,resolve,invoke,builtin,k.eval al,k.eval G,L],this.1,this.2.1,this.2.2⟩
theorem wN(size:Nat):∀(k:List Value) (j off:Nat) (cs:Array Value) (pre d post:List Value),cs.toList=pre++d++post→pre.length=off+j→d.length=k.length→
 ((k.zipIdx j).foldl (fun cs (x:Value×Nat)=>cs.setIfInBounds (off+x.2) x.1) cs).toList=pre++k++post
 |[],j,off,cs,pre,d,post,h,_,i=>by
  have:d=[]:=List.eq_nil_of_length_eq_zero i;subst this
  simpa using h
 |v::k,j,off,cs,pre,d,post,h,n,i=>by
  match d,i with
  |x::d,i=>
   simp only[List.zipIdx_cons,List.foldl_cons]
   have:=wN size k (j+1) off (cs.setIfInBounds (off+j) v) (pre++[v]) d post (by
    rw[Array.toList_setIfInBounds,h,←n];simp) (by simp;omega) (by simpa using i)
   simpa using this
theorem oN(size:Nat):∀(j:List Value) (i:Nat) (cs:Array Value) (pre d:List Value),cs.toList=pre++d→pre.length=i*size→d.length=j.length*size→(∀v∈j,v.cells.size=size)→
 ∃r,Instr.fill (fun i=>some (i*size,size)) cs ((j.zipIdx i).map (fun p=>(p.2,p.1)))=some r∧r.toList=pre++j.flatMap (fun v=>v.cells.toList)
 |[],i,cs,pre,d,h,_,k,_=>by
  have:d=[]:=List.eq_nil_of_length_eq_zero (by simpa using k);subst this
  exact⟨cs,rfl,by simpa using h⟩
 |v::j,i,cs,pre,d,h,A,k,o=>by
  have n:=o v (by simp);have hlen:size≤d.length:=by rw[k];simp[Nat.add_mul]
  have hold:d=d.take size++d.drop size:=(List.take_append_drop size d).symm;have q:cs.toList=pre++d.take size++d.drop size:=by rw[h,List.append_assoc,←hold]
  have E:cs.size=pre.length+d.length:=by rw[←Array.length_toList,h,List.length_append]
  have t:=wN size v.cells.toList 0 (i*size) cs pre (d.take size) (d.drop size) q (by omega) (by rw[List.length_take,show v.cells.toList.length=size from by simpa using n];omega);simp only[List.zipIdx_cons,List.map_cons,Instr.fill];rw[if_neg (by simp[n];omega)]
  obtain⟨r,B,C⟩:=oN size j (i+1) (v.cells.zipIdx.foldl (fun cs (x:Value×Nat)=>cs.setIfInBounds (i*size+x.2) x.1) cs) (pre++v.cells.toList) (d.drop size) (by
   rw[←t,←Array.foldl_toList,Array.toList_zipIdx]) (by simp[n,A,Nat.add_mul]) (by simp[k,Nat.add_mul]) (fun u hu=>o u (by simp[hu]))
  exact⟨r,B,by simpa using C⟩
theorem Z.lit{t:TypeId}{k bytes:Nat}{parts:List (Nat×Operand)}(d:List Value)(zs:List α)(O:J.op= .buildSlice t k parts.toArray)(Y:c4 P t e sz bytes)(Q:gI l (parts.map (·.2))=some d)(N:parts.map (·.1)=List.range k)(j:d.length=k)(aq:k*sz≤16777216)(al:k≤16777216)
 (av:∀x,(f x).length=sz) (V:∀x,∀u∈f x,u.oneCell'=true) (G:d.map (fun v=>v.cells.toList)=zs.map f):
 Z P w0 n l H J (fun r aa=>Own (fun b=>b=H.size) e aa f sz r zs∧aj H aa∧∃c,aa=H.push c):=by
 obtain⟨S,i,z,B,ah,ae,ak,ar⟩:=Y;subst ae;intro a w X I;have L:=X.jR Q;have T:zs.length=k:=by have:=congrArg List.length G;simpa[j]using this.symm
 have R:(parts.toArray.map (fun(x:Nat×Operand)=>(x.1,a.eval x.2))).toList=(d.zipIdx 0).map (fun p=>(p.2,p.1)):=by
  have aK:parts.map (fun(x:Nat×Operand)=>(x.1,a.eval x.2))=(List.range k).zip d:=by
   rw[←N,←L,List.map_map];clear N L Q O
   induction parts with
   |nil=>rfl
   |cons p eW ih=>simp[ih]
  rw[List.map_toArray];simp only;rw[aK,List.zipIdx_eq_zip_range',xm j]
 have K:∀v∈d,v.cells.size=i.size:=by
  intro v af;have:v.cells.toList∈zs.map f:=by rw[←G];exact List.mem_map.2 ⟨v,af,rfl⟩
  obtain⟨x,_,ag⟩:=List.mem_map.1 this;have:=av x;rw[ag]at this
  simpa using this
 have M:d.flatMap (fun v=>v.cells.toList)=zs.flatMap f:=by rw[List.flatMap_def,List.flatMap_def,G]
 have W:∀(o:Array Value),((Array.range (k*i.size)).map (o[·%o.size]!)).toList=[]++((Array.range (k*i.size)).map (o[·%o.size]!)).toList:=fun _=>rfl
 have F:∃cs:Array Value,cs.toList=zs.flatMap f∧(Instr.buildSlice t k (parts.toArray.map (fun(x:Nat×Operand)=>(x.1,a.eval x.2)))).run P w= .ok (.slice (some ⟨w.heap.size,0,none⟩) k k) (w.alloc (.cells cs e)):=by
  by_cases q:k*i.size=0
  ·obtain⟨r,C,E⟩:=oN i.size d 0 #[] [] [] rfl (by simp) (by simp[j,q]) K
   refine⟨r,by rw[E,M];rfl,?_⟩;simp only[Instr.buildSlice,Sem.run_bind,run_underlying S,Result.andThen_ok,sizeOf,typeInfo,run_program,B,Sem.run_pure,R];have ai:∀g:Nat→Value,(Array.range 0).map g= #[]:=fun g=>by simp
   simp[q,ai,C,newRow]
  ·obtain⟨r,C,E⟩:=oN i.size d 0 ((Array.range (k*i.size)).map (z.cells[·%z.cells.size]!)) [] _ (W _) (by simp) (by simp[j]) K
   refine⟨r,by rw[E,M];rfl,?_⟩;simp only[Instr.buildSlice,Sem.run_bind,run_underlying S,Result.andThen_ok,sizeOf,typeInfo,run_program,B,Sem.run_pure,R];have ab:¬(k*i.size>2^24):=by simp only[Nat.reducePow];omega
   simp[q,ab,zeroValue,typeInfo,B,ah,C,newRow]
 obtain⟨cs,A,F⟩:=F;refine⟨.slice (some ⟨w.heap.size,0,none⟩) k k,H.push (.cells cs e),w.alloc (.cells cs e),?_,I.alloc (.cells cs e),⟨av,V,.inr ⟨H.size,k,cs,?_,rfl,.of (by simp),?_,?_,?_,?_⟩⟩,aj.pu _ _,_,rfl⟩
 ·simp only[execOp,O,Sem.run_bind,F,Result.andThen_ok,Sem.run_pure]
 ·rw[T,I.heap]
 ·omega
 ·unfold maxLen;omega
 ·rw[←Array.length_toList,A,length_flatMap av,T]
 ·rw[←length_flatMap av,List.take_of_length_le (by rw[←A];exact Nat.le_refl _),A]
theorem Y.build{t:TypeId}{parts:List (Nat×Operand)}{d:List Value}{v:Value}(j:J.op= .build t parts.toArray)(k:gI l (parts.map (·.2))=some d)(q:∀w,(Instr.build t ((parts.map (·.1)).zip d).toArray).run P w= .ok v w):Y P w0 n l H J v:=by
 intro a w r A;have i:=r.jR k
 have aK:parts.map (fun(x:Nat×Operand)=>(x.1,a.eval x.2))=(parts.map (·.1)).zip d:=by
  rw[←i,List.map_map];clear i k j q
  induction parts with
  |nil=>rfl
  |cons p eW ih=>simp[ih]
 have o:=q w;rw[←aK]at o;simp[execOp,j,o]
end
end
end E

namespace E
open Go.MapKept
structure ht {κ β:Type} (aR:Nat→Prop) (H:Heap) (a7:κ→Value) (fv:β→Value) (v:Value) (m:List (κ×β)):Prop where
 ex:∃r es clock,v= .map (some r)∧aR r∧H[r]?=some (.map es clock)∧Stamped es clock∧es.toList.map (fun e=>(e.key,e.val))=m.map (fun p=>(a7 p.1,fv p.2))
section
variable {κ β : Type} {aR : Nat → Prop} {H aa : Heap} {a7 : κ → Value} {fv : β → Value} {v : Value} {m : List (κ × β)}
theorem ht.up{S:Nat→Prop}(h:ht aR H a7 fv v m)(s:W S H aa)(n:∀b,b<H.size→aR b→¬S b):ht aR aa a7 fv v m:=by
 obtain⟨r,es,clock,j,U,d,k⟩:=h.ex;have i:=(Array.getElem?_eq_some_iff.1 d).1;exact⟨r,es,clock,j,U,by rw[s.same r i (n r i U)];exact d,k⟩
theorem ht.M(h:ht aR H a7 fv v m)(s:aj H aa):ht aR aa a7 fv v m:=h.up s (fun _ _ _ e=>e)
theorem ht.size(h:ht aR H a7 fv v m):∃r es clock,v= .map (some r)∧H[r]?=some (.map es clock)∧es.size=m.length:=by
 obtain⟨r,es,clock,d,U,i,k,j⟩:=h.ex;refine⟨r,es,clock,d,i,?_⟩;have:=congrArg List.length j
 simpa using this
theorem ht.nodup(h:ht aR H a7 fv v m):(m.map (·.1)).Nodup:=by
 obtain⟨r,es,clock,n,U,o,i,j⟩:=h.ex;have d:=i.2.2
 have:es.toList.map (·.key)=(m.map (·.1)).map a7:=by
  have:=congrArg (List.map Prod.fst) j
  simpa[Function.comp_def]using this
 rw[this,List.nodup_iff_pairwise_ne,List.pairwise_map]at d;rw[List.nodup_iff_pairwise_ne];exact d.imp (fun k e=>k (by rw[e]))
end
theorem ht.AI{κ β:Type}{aR:Nat→Prop}{H:Heap}{a7:κ→Value}{fv:β→Value}{v:Value}{m:List (κ×β)}(h:ht aR H a7 fv v m):gO v<H.size:=by
 obtain⟨r,es,clock,rfl,U,d,i⟩:=h.ex;exact(Array.getElem?_eq_some_iff.1 d).1
def aM{κ β:Type}[DecidableEq κ]:List (κ×β)→κ→Option β
 |[],_=>none
 |p::m,k=>if k=p.1 then some p.2 else aM m k
structure ld {κ:Type} (d:TypeDesc) (a7:κ→Value):Prop where
 key:∀k,IsKey d (a7 k)
 inj:∀a b,a7 a=a7 b→a=b
theorem gv:ld .string aI:=⟨fun _=>trivial,fun a b h=>by simpa[aI]using h⟩
def fN{κ β:Type}[DecidableEq κ](m:List (κ×β))(k:κ)(b:β):List (κ×β):=if(aM m k).isSome then m.map (fun p=>if p.1=k then(p.1,b)else p)else m++[(k,b)]
section
variable {P : Program} {w0 : World} {n : Nat} {l : bZ} {H : Heap} {J : Oper}
variable {κ β : Type} [DecidableEq κ] {aR : Nat → Prop} {a7 : κ → Value} {fv : β → Value} {v : Value} {m : List (κ × β)} {d : TypeDesc}
theorem qk{k:κ}(o:ld d a7):∀(es:List MapEntry) (m:List (κ×β)) (i:Nat),es.map (fun e=>(e.key,e.val))=m.map (fun p=>(a7 p.1,fv p.2))→
 (aM m k=none∧Instr.findNow d (a7 k) es i=some none∧∀x∈es,x.key≠a7 k)∨∃j e b,aM m k=some b∧Instr.findNow d (a7 k) es i=some (some (i+j,fv b))∧es[j]?=some e∧e.key=a7 k∧e.val=fv b
 |[],m,i,h=>by
  have:m=[]:=by cases m<;>simp_all
  subst this
  exact .inl ⟨rfl,rfl,by simp⟩
 |e::es,m,i,h=>by
  match m,h with
  |(a,b)::m,h=>
   simp only[List.map_cons,List.cons.injEq,Prod.mk.injEq]at h;obtain⟨⟨n,U⟩,K⟩:=h;obtain⟨r,A,G⟩:=sameNow_of_keys (o.key k) (b:=e.key) (by rw[n];exact o.key a)
   cases r with
   |true=>
    have L:k=a:=o.inj _ _ (by rw[G.1 rfl,n]);subst L
    exact .inr ⟨0,e,b,by simp[aM],by simp[Instr.findNow,A,U],rfl,n,U⟩
   |false=>
    have t:k≠a:=fun q=>by subst q;have:=G.2 n.symm;cases this
    rcases qk (k:=k) o es m (i+1) K with⟨C,E,F⟩|⟨j,I,H,C,E,F,M,N⟩
    ·refine .inl ⟨?_,by simp[Instr.findNow,A,E],?_⟩
     ·simp only[aM,t,if_false];exact C
     ·intro x B
      cases B with
      |head=>intro q;exact t (o.inj _ _ (by rw[←q,n]))
      |tail _ B=>exact F x B
    ·refine .inr ⟨j+1,I,H,?_,?_,by simpa using F,M,N⟩
     ·simp only[aM,t,if_false];exact C
     ·simp[Instr.findNow,A,E];omega
theorem yH{w:World}{t e6 x:TypeId}{z:Value}{k:κ}{ok:Bool}(h:ht aR H a7 fv v m)(n:ld d a7)(E:At w0 H w)(hm:∀w,(underlying t).run P w= .ok (.map e6 x) w)(i:P.underlying e6=some d)(F:∀w,(zeroValue x).run P w= .ok z w):
 (Instr.lookup t v (a7 k) ok).run P w= .ok (if ok then .tuple #[(match aM m k with|some b=>fv b|none=>z),.bool (aM m k).isSome]else(match aM m k with|some b=>fv b|none=>z)) w:=by
 obtain⟨r,es,clock,rfl,U,B,L,C⟩:=h.ex;have A:w.heap[r]?=some (.map es clock):=by rw[E.heap];exact B
 rcases qk (k:=k) n es.toList m 0 C with⟨o,q,G⟩|⟨j,K,I,o,q,G,M,N⟩
 ·simp[Instr.lookup,hm,MapKept.run_getObj_map A,MapKept.run_checkKey i (n.key k),MapKept.run_findKey i q,o,F]
 ·simp[Instr.lookup,hm,MapKept.run_getObj_map A,MapKept.run_checkKey i (n.key k),MapKept.run_findKey i q,o]
theorem Y.lookup{t e6 j:TypeId}{x i:Operand}{k:κ}{z0:β}(h:ht aR H a7 fv v m)(A:ld d a7)(E:J.op= .lookup t x i false)(hm:∀w,(underlying t).run P w= .ok (.map e6 j) w)(C:P.underlying e6=some d)(G:∀w,(zeroValue j).run P w= .ok (fv z0) w)
 (F:aF l x=some v) (B:aF l i=some (a7 k)):Y P w0 n l H J (fv ((aM m k).getD z0)):=by
 intro ac w o r;have q:=yH (k:=k) (ok:=false) h A r hm C G;have:(match aM m k with|some b=>fv b|none=>fv z0)=fv ((aM m k).getD z0):=by cases aM m k<;>rfl
 rw[this]at q;simp[execOp,E,o.eval F,o.eval B,q]
theorem Y.xy{x:Operand}{t e6 d:TypeId}(h:ht aR H a7 fv v m)(q:J.op= .call {callee:= .builtin .len,args:= #[x],argTypes:= #[t]})(A:∀w,(underlying t).run P w= .ok (.map e6 d) w)(B:aF l x=some v):Y P w0 n l H J (.int .i64 m.length):=by
 obtain⟨r,es,clock,rfl,U,j⟩:=h.size;intro ac w o k;have i:w.heap[r]?=some (.map es clock):=by rw[k.heap];exact U
 simp[execOp,q,o.eval B,resolve,invoke,builtin,Builtin.len_,A,goInt,MapKept.run_getObj_map i,j]
theorem xD{k:κ}{b:β}{key:Value}(t:ld d a7)(A:key=a7 k):∀(es:List MapEntry) (m:List (κ×β)) (j:Nat) (e:MapEntry),es.map (fun e=>(e.key,e.val))=m.map (fun p=>(a7 p.1,fv p.2))→(es.map (·.key)).Nodup→es[j]?=some e→e.key=a7 k→
 (es.modify j (fun e=>{e with key:=key,val:=fv b})).map (fun e=>(e.key,e.val))=(m.map (fun p=>if p.1=k then(p.1,b)else p)).map (fun p=>(a7 p.1,fv p.2))
 |[],_,_,_,_,_,h,_=>by simp at h
 |x::es,m,j,e,h,aA,i,he=>by
  match m,h with
  |(a,c)::m,h=>
   simp only[List.map_cons,List.cons.injEq,Prod.mk.injEq]at h;obtain⟨⟨n,U⟩,o⟩:=h;simp only[List.map_cons,List.nodup_cons]at aA
   cases j with
   |zero=>
    simp only[List.getElem?_cons_zero,Option.some.injEq]at i;subst i;have r:a=k:=t.inj _ _ (by rw[←n,he]);subst r;simp only[List.modify_zero_cons,List.map_cons,if_true,A];congr 1;rw[o,List.map_map];apply List.map_congr_left;intro p C
    have:p.1≠a:=by
     intro e;apply aA.1;have:(a7 p.1,fv p.2)∈es.map (fun e=>(e.key,e.val)):=by rw[o];exact List.mem_map.2 ⟨p,C,rfl⟩
     obtain⟨y,hy,B⟩:=List.mem_map.1 this;simp only[Prod.mk.injEq]at B;exact List.mem_map.2 ⟨y,hy,by rw[B.1,e,n]⟩
    simp[this]
   |succ j=>
    simp only[List.getElem?_cons_succ]at i
    have r:a≠k:=by
     intro q;subst q;apply aA.1;rw[n,←he];exact List.mem_map.2 ⟨e,List.mem_of_getElem? i,rfl⟩
    simp only[List.modify_succ_cons,List.map_cons,r,if_false,n,U];rw[xD t A es m j e o aA.2 i he]
theorem S.mapUpdate{t e6 ae:TypeId}{x i y:Operand}{k:κ}{b:β}(h:ht aR H a7 fv v m)(B:ld d a7)(Z:J.op= .mapUpdate t x i y)(hm:∀w,(underlying t).run P w= .ok (.map e6 ae) w)(F:P.underlying e6=some d)
 (ab:aF l x=some v) (T:aF l i=some (a7 k)) (hy:aF l y=some (fv b)):S P w0 n l H J (fun aa=>ht aR aa a7 fv v (fN m k b)∧W (fun c=>c=gO v) H aa):=by
 intro ac w o A;obtain⟨r,es,clock,C,U,Q,I,K⟩:=h.ex;have E:w.heap[r]?=some (.map es clock):=by rw[A.heap];exact Q
 have af:gO v=r:=by rw[C];rfl
 have ah:=(Array.getElem?_eq_some_iff.1 Q).1;have X:∀q,W (fun c=>c=gO v) H (H.setIfInBounds r q):=fun q=>⟨by simp,fun b aw Y=>by rw[af]at Y;simp[Ne.symm Y]⟩;have R:∀q,(H.setIfInBounds r q)[r]?=some q:=fun q=>by simp[ah]
 rcases qk (k:=k) B es.toList m 0 K with⟨L,M,G⟩|⟨j,O,ai,L,M,G,N,ak⟩
 ·refine⟨H.setIfInBounds r (.map (es.push {key:=a7 k,val:=fv b,born:=clock}) (clock+1)),{w with heap:=H.setIfInBounds r (.map (es.push {key:=a7 k,val:=fv b,born:=clock}) (clock+1))},?_,A.set,⟨r,_,_,C,U,R _,stamped_push I G,?_⟩,X _⟩
  ·simp[execOp,Z,o.eval ab,o.eval T,o.eval hy,C,Instr.mapUpdate,hm,MapKept.run_getObj_map E,MapKept.run_checkKey F (B.key k),MapKept.run_findKey F M,MapKept.run_setObj_map _ E,A.heap]
  ·simp[fN,L,K]
 ·have V:es[j]?=some O:=by simpa using G
  have ag:∀e,es[j]?=some e→({e with key:=a7 k,val:=fv b}:MapEntry).key=e.key:=fun e he=>by rw[V]at he;cases he;exact N.symm
  refine⟨H.setIfInBounds r (.map (es.modify j fun e=>{e with key:=a7 k,val:=fv b}) clock),{w with heap:=H.setIfInBounds r (.map (es.modify j fun e=>{e with key:=a7 k,val:=fv b}) clock)},?_,A.set,⟨r,_,_,C,U,R _,stamped_modify I _ _ (fun _ _=>rfl) (fun e _ he=>ag e he),?_⟩,X _⟩
  ·simp[execOp,Z,o.eval ab,o.eval T,o.eval hy,C,Instr.mapUpdate,hm,MapKept.run_getObj_map E,MapKept.run_checkKey F (B.key k),MapKept.run_findKey F M,V,N,MapKept.run_keyThatStays (B.key k),MapKept.run_setObj_map _ E,A.heap]
  ·have:=xD (fv:=fv) (b:=b) B rfl es.toList m j O K I.2.2 G N
   rw[Array.toList_modify,this];simp[fN,L]
theorem Z.makeSlice{α:Type}{f:α→List Value}{sz bytes:Nat}{t e:TypeId}{x c:Operand}{M L:IntKind}{cw:Int}{z:Value}(k:Nat)(z0:α)(S:J.op= .makeSlice t x c)(Q:c4 P t e sz bytes)(ab:∀w,(zeroValue e).run P w= .ok z w)(ae:f z0=z.cells.toList)
 (av:∀x,(f x).length=sz) (j:∀x,∀u∈f x,u.oneCell'=true) (Y:aF l x=some (.int M cw)) (O:aF l c=some (.int L cw)) (R:cw=k) (aw:(bytes:Int)*k≤281474976710656) (ah:k≤9223372036854775807):
 Z P w0 n l H J (fun r aa=>Own (fun b=>b=H.size) e aa f sz r (List.replicate k z0)∧aj H aa∧∃ag,aa=H.push ag):=by
 obtain⟨X,i,d,G,K,V,N,o⟩:=Q;intro ac w E A;subst R
 have af:d=z:=by
  have j:=ab w;simp[zeroValue,typeInfo,G,K]at j;exact j
 subst af;have I:=run_make (P:=P) w t e i d X G K M L (k:Int) k (by omega) (by omega) (by rw[N];exact aw) (by omega);simp only[Int.toNat_natCast,V]at I;refine⟨.slice (some ⟨w.heap.size,0,none⟩) k k,H.push (.cells (madeCells d.cells (k*sz)) e),w.alloc (.cells (madeCells d.cells (k*sz)) e),?_,A.alloc _,⟨av,j,.inr ⟨w.heap.size,k,madeCells d.cells (k*sz),by simp,A.heap▸rfl,.of (by rw[A.heap];simp),by simp,by unfold maxLen;omega,size_madeCells _ _,?_⟩⟩,aj.pu _ _,_,rfl⟩
 ·simp[execOp,S,E.eval Y,E.eval O,I]
 ·rw[List.length_replicate,List.take_of_length_le (by simp[size_madeCells])]
  apply List.ext_getElem?;intro q;by_cases C:q<k*sz
  ·have W:0<sz:=by rcases Nat.eq_zero_or_pos sz with h|h;·subst h;simp at C
                   ·exact h
   have hdiv:q/sz<k:=Nat.div_lt_of_lt_mul (by rw[Nat.mul_comm];exact C);have B:=Nat.mod_lt q W;have F:=qq av (List.replicate k z0) (q/sz) (q%sz) z0 (d.cells[q%sz]'(by rw[o];exact B)) (by simp[hdiv]) (by rw[ae];simp[o,B]);have T:q/sz*sz+q%sz=q:=by rw[Nat.mul_comm];exact Nat.div_add_mod q sz
   rw[T]at F;rw[F];simp only[madeCells,o,Array.getElem?_toList];rw[Array.getElem?_map,Array.getElem?_range,if_pos C];simp[o,B]
  ·rw[List.getElem?_eq_none (by simp[size_madeCells];omega),List.getElem?_eq_none (by rw[length_flatMap av,List.length_replicate];omega)]
end
end E

namespace E
structure Var (e:TypeId) (H:Heap) (b:Nat) (cs:List Value):Prop where
 row:Row H b cs.toArray e
theorem Var.lt{e:TypeId}{H:Heap}{b:Nat}{cs:List Value}(h:Var e H b cs):b<H.size:=h.row.lt
theorem Var.up{e:TypeId}{H aa:Heap}{b:Nat}{cs:List Value}{S:Nat→Prop}(h:Var e H b cs)(s:W S H aa)(d:¬S b):Var e aa b cs:=⟨h.row.up (s.same b h.lt d)⟩
theorem Var.M{e:TypeId}{H aa:Heap}{b:Nat}{cs:List Value}(h:Var e H b cs)(s:aj H aa):Var e aa b cs:=h.up s (fun e=>e)
theorem Var.N{e:TypeId}{H:Heap}{b:Nat}{cs:List Value}(h:Var e H b cs):cg H ⟨b,0,none⟩ cs:=
 ⟨rfl,fun j c av=>by simp only[Nat.zero_add];rw[h.row.cell];simpa using av⟩
theorem Var.new(H:Heap)(cs:Array Value)(t:TypeId):Var t (H.push (.cells cs t)) H.size cs.toList:=⟨.of (by simp)⟩
def ed(cs:List Value)(i:Nat)(d:List Value):List Value:=cs.take i++d++cs.drop (i+d.length)
theorem tJ{cs:List Value}{i:Nat}{d:List Value}(h:i+d.length≤cs.length):(ed cs i d).length=cs.length:=by
 simp[ed];omega
section
variable {P : Program} {w0 : World} {n : Nat} {l : bZ} {H : Heap} {J : Oper}
theorem Z.Ai{t:TypeId}{z:Value}(q:J.op= .alloc t)(r:∀w,(zeroValue t).run P w= .ok z w):Z P w0 n l H J (fun v aa=>v= .pointer (some ⟨H.size,0,none⟩)∧Var t aa H.size z.cells.toList∧aj H aa∧∃x,aa=H.push x):=by
 intro a w o k;obtain⟨v,aa,A,d,U,i,j⟩:=Z.alloc (P:=P) (w0:=w0) (n:=n) (l:=l) (H:=H) q r a w o k;subst j;exact⟨v,_,A,d,U,i,Var.new _ _ _,aj.pu _ _,_,rfl⟩
theorem cV {t : TypeId} {z : Value} (i : ∀w,(zeroValue t).run P w= .ok z w) (d : J.op= .alloc t := by exact rfl) : Z P w0 n l H J (fun v aa=>v= .pointer (some ⟨H.size,0,none⟩)∧Var t aa H.size z.cells.toList∧aj H aa∧∃j,aa=H.push j) := Z.Ai d i
theorem Z.uV{t:TypeId}{x:Operand}{v:Value}(q:J.op= .box t x)(A:aF l x=some v):Z P w0 n l H J (fun r aa=>r= .pointer (some ⟨H.size,0,none⟩)∧Var t aa H.size v.cells.toList∧aj H aa∧∃B,aa=H.push B):=by
 intro a w o k;obtain⟨v,aa,C,d,U,i,j⟩:=Z.box (P:=P) (w0:=w0) (n:=n) (H:=H) q A a w o k;subst j;exact⟨v,_,C,d,U,i,Var.new _ _ _,aj.pu _ _,_,rfl⟩
theorem cq {t : TypeId} {x : Operand} {v : Value} (d : J.op= .box t x := by exact rfl) (i : aF l x=some v := by exact rfl) : Z P w0 n l H J (fun r aa=>r= .pointer (some ⟨H.size,0,none⟩)∧Var t aa H.size v.cells.toList∧aj H aa∧∃j,aa=H.push j) := Z.uV d i
theorem vG{v:Value}(h:v.oneCell'=true):v.cells.toList=[v]:=by cases v<;>first|(simp[Value.oneCell']at h;done)|rfl
theorem Z.ns{t:TypeId}{x:Operand}{v:Value}(o:J.op= .box t x)(q:aF l x=some v)(i:v.oneCell'=true):Z P w0 n l H J (fun r aa=>r= .pointer (some ⟨H.size,0,none⟩)∧Var t aa H.size [v]∧aj H aa∧∃A,aa=H.push A):=by
 intro a w k j;obtain⟨r,aa,I,B,C,E,d,F,G⟩:=Z.uV (P:=P) (w0:=w0) (n:=n) (H:=H) o q a w k j;rw[vG i]at d;exact⟨r,aa,I,B,C,E,d,F,G⟩
theorem At.row{w:World}(d:At w0 H w)(g:Nat)(c:Array Value):At w0 (w.setRow g c).heap (w.setRow g c):=⟨rfl,d.os,d.tape,d.output,d.fJ⟩
theorem ph{w:World}(d:At w0 H w)(g:Nat)(c:Array Value):W (fun b=>b=g) H (w.setRow g c).heap:=
 ⟨by rw[←d.heap];simp[World.setRow],fun b aw aA=>by rw[←d.heap];exact setRow_other w g b _ (fun e=>aA e)⟩
theorem q4{w:World}(j:At w0 H w){g:Nat}{cur c:Array Value}{e:TypeId}(h:Row H g cur e)(av:c.size=cur.size):Row (w.setRow g c).heap g c e:=by
 obtain⟨d,i,U⟩:=h;exact⟨d,setRow_heap w g cur _ e _ (by rw[j.heap];exact i),by rw[av];exact U⟩
theorem S.cells{x y:Operand}{t:TypeId}{b i k:Nat}{c:Value}{cs:Array Value}{e:TypeId}(E:J.op= .store t x y)(F:aF l x=some (.pointer (some ⟨b,i,none⟩)))(hy:aF l y=some c)(A:∀u∈c.cells.toList,u.oneCell'=true)
 (al:∀w,(sizeOf t).run P w= .ok k w) (j:c.cells.size=k) (aw:Row H b cs e) (G:i+k≤cs.size):S P w0 n l H J (fun aa=>Row aa b (ed cs.toList i c.cells.toList).toArray e∧W (fun g=>g=b) H aa):=by
 intro a w o d;obtain⟨r,B,C⟩:=id aw;have q:=m4 P b i e r c.cells.toList 0 cs w (by rw[d.heap];exact B) C (by simp[j];omega) A;simp only[Nat.add_zero]at q;refine⟨_,w.setRow b (ed cs.toList i c.cells.toList).toArray,?_,d.row _ _,q4 d aw (by simp[ed,j];omega),ph d _ _⟩;simp[execOp,E,o.eval F,o.eval hy,Instr.storeAt,Instr.sureAddr,storeVar,j,al,q,ed]
theorem S.var{x y:Operand}{t:TypeId}{b i k:Nat}{c:Value}{cs:List Value}{e:TypeId}(h:Var e H b cs)(d j:List Value)(C:J.op= .store t x y)(E:aF l x=some (.pointer (some ⟨b,i,none⟩)))(hy:aF l y=some c)(av:c.cells.toList=d)(o:∀u∈d,u.oneCell'=true)
 (al:∀w,(sizeOf t).run P w= .ok k w) (B:d.length=k) (A:i+k≤cs.length) (F:ed cs i d=j):S P w0 n l H J (fun aa=>Var e aa b j∧W (fun g=>g=b) H aa):=by
 subst av F;intro a w r q;obtain⟨aa,M,G,I,K,L⟩:=S.cells (P:=P) (w0:=w0) (n:=n) C E hy o al (by simpa using B) h.row (by simpa using A) a w r q;exact⟨aa,M,G,I,⟨K⟩,L⟩
theorem dM {x y : Operand} {t : TypeId} {b i k : Nat} {c : Value} {cs : List Value} {e : TypeId} (h : Var e H b cs) (d : List Value) (j : List Value) (o : ∀u∈d,u.oneCell'=true) (al : ∀w,(sizeOf t).run P w= .ok k w) (r : d.length=k) (C : ed cs i d=j) (A : J.op= .store t x y := by exact rfl) (B : aF l x=some (.pointer (some ⟨b,i,none⟩)) := by exact rfl) (hy : aF l y=some c := by exact rfl) (av : c.cells.toList=d := by exact rfl) (q : i+k≤cs.length := by decide) : S P w0 n l H J (fun aa=>Var e aa b j∧W (fun g=>g=b) H aa) := S.var h d j A B hy av o al r q C
theorem Hd{cs:List Value}{i:Nat}{c:Value}(h:i<cs.length):ed cs i [c]=cs.set i c:=by
 simp[ed,List.set_eq_take_append_cons_drop,h]
theorem S.ub{x y:Operand}{t:TypeId}{b:Nat}{c:Value}{cs:List Value}{e:TypeId}(h:Var e H b cs)(i:Nat)(d:List Value)(o:J.op= .store t x y)(q:aF l x=some (.pointer (some ⟨b,i,none⟩)))(hy:aF l y=some c)(j:c.oneCell'=true)
 (al:∀w,(sizeOf t).run P w= .ok 1 w) (k:i<cs.length) (r:cs.set i c=d):S P w0 n l H J (fun aa=>Var e aa b d∧W (fun g=>g=b) H aa):=
 S.var h [c] d o q hy (vG j) (by simpa using j) al rfl (by omega) ((Hd k).trans r)
theorem dj {x y : Operand} {t : TypeId} {b : Nat} {c : Value} {cs : List Value} {e : TypeId} (h : Var e H b cs) (i : Nat) (d : List Value) (j : c.oneCell'=true) (al : ∀w,(sizeOf t).run P w= .ok 1 w) (k : i<cs.length) (r : cs.set i c=d) (o : J.op= .store t x y := by exact rfl) (q : aF l x=some (.pointer (some ⟨b,i,none⟩)) := by exact rfl) (hy : aF l y=some c := by exact rfl) : S P w0 n l H J (fun aa=>Var e aa b d∧W (fun g=>g=b) H aa) := S.ub h i d o q hy j al k r
section
variable {α : Type} {aR F : Nat → Prop} {e : TypeId} {f : α → List Value} {sz : Nat} {v : Value} {xs ys : List α}
theorem y0{f:α→List Value}{sz:Nat}(n:∀x,(f x).length=sz):∀(l:List α) (j k:Nat) (x y:α) (d post:List Value),l[j]?=some x→k+d.length≤sz→f y=ed (f x) k d→ed (l.flatMap f++post) (j*sz+k) d=(l.set j y).flatMap f++post
 |[],_,_,_,_,_,_,h,_,_=>by simp at h
 |z::l,0,k,x,y,d,post,h,o,hy=>by
  simp only[List.getElem?_cons_zero,Option.some.injEq]at h;subst h;have i:=n z;simp only[List.set_cons_zero,List.flatMap_cons,hy,Nat.zero_mul,Nat.zero_add,ed,List.append_assoc]
  rw[List.take_append_of_le_length (by omega),List.drop_append_of_le_length (by omega)]
 |z::l,j+1,k,x,y,d,post,h,o,hy=>by
  simp only[List.getElem?_cons_succ]at h;have:=y0 n l j k x y d post h o hy;have i:=n z;simp only[List.set_cons_succ,List.flatMap_cons,ed,List.append_assoc]at this⊢;rw[List.take_append,List.take_of_length_le (by rw[i,Nat.add_mul];omega),List.drop_append,List.drop_of_length_le (by rw[i,Nat.add_mul];omega),List.nil_append,List.append_assoc];congr 1;rw[show(j+1)*sz+k-(f z).length=j*sz+k by rw[i,Nat.add_mul];omega,show(j+1)*sz+k+d.length-(f z).length=j*sz+k+d.length by rw[i,Nat.add_mul];omega];exact this
theorem S.FM{x y:Operand}{t:TypeId}{c:Value}{m:Nat}(h:Own aR e H f sz v xs)(j k:Nat)(z:α)(d:List Value)(K:J.op= .store t x y)(r:aF l x=some (.pointer (some ⟨gO v,j*sz+k,none⟩)))(hy:aF l y=some c)(av:c.cells.toList=d)(A:∀u∈d,u.oneCell'=true)
 (al:∀w,(sizeOf t).run P w= .ok m w) (hm:d.length=m) (i:j<xs.length) (G:k+m≤sz) (L:f z=ed (f xs[j]) k d):S P w0 n l H J (fun aa=>Own aR e aa f sz v (xs.set j z)∧W (fun b=>b=gO v) H aa):=by
 subst av;intro a w E B;rcases h.ex with⟨rfl,rfl⟩|⟨g,cap,cur,q,F,bE,R,T,V,X⟩
 ·simp at i
 ·have aw:gO v=g:=by rw[q];rfl
  have I:j*sz+k+m≤cur.size:=by
   have:=Nat.mul_le_mul_right sz (show j+1≤cap by omega);rw[Nat.add_mul]at this;omega
  obtain⟨aa,Y,M,N,O,Q⟩:=S.cells (P:=P) (w0:=w0) (n:=n) K (by rw[aw]at r;exact r) hy A al (by simpa using hm) bE I a w E B;refine⟨aa,Y,M,N,⟨h.cells,h.one,.inr ⟨g,cap,_,by rw[List.length_set];exact q,F,O,by rw[List.length_set];exact R,T,?_,?_⟩⟩,by rw[aw];exact Q⟩
  ·rw[List.size_toArray,tJ (by simp at hm⊢;omega)];simpa using V
  ·have o:=length_flatMap h.cells xs
   have C:cur.toList=xs.flatMap f++cur.toList.drop (xs.length*sz):=by rw[←X,List.take_append_drop]
   rw[C,y0 h.cells xs j k xs[j] z _ _ (by simp[i]) (by rw[hm];exact G) L,List.length_set,←o];have:=length_flatMap h.cells (xs.set j z);rw[List.length_set]at this;rw[o,←this];exact List.take_left
theorem Own.front{cap:Nat}{ad:Option Addr}{k:Nat}(h:Own aR e H f sz (.slice ad xs.length cap) xs)(n:k≤xs.length)(o:xs≠[]):Own aR e H f sz (.slice ad k cap) (xs.take k):=by
 refine⟨h.cells,h.one,?_⟩;rcases h.ex with⟨_,rfl⟩|⟨g,x,cur,i,j,bE,A,q,r,t⟩
 ·exact absurd rfl o
 ·simp only[Value.slice.injEq,true_and]at i
  obtain⟨rfl,rfl⟩:=i;have d:(xs.take k).length=k:=by simp;omega
  refine .inr ⟨g,cap,cur,by rw[d],j,bE,by omega,q,r,?_⟩;rw[d]
  have:(xs.take k).flatMap f=(xs.flatMap f).take (k*sz):=by
   have U:xs.flatMap f=(xs.take k).flatMap f++(xs.drop k).flatMap f:=by rw[←List.flatMap_append,List.take_append_drop]
   rw[U,←d,←length_flatMap h.cells (xs.take k),d];rw[List.take_left]
  rw[this,←t,List.take_take];congr 1;exact(Nat.min_eq_left (Nat.mul_le_mul_right _ n)).symm
end
theorem fold_push(l:List UInt8):∀acc:List UInt8,(l.map (fun b=>(b.toNat:Int))).foldl (fun r n=>r.push (UInt8.ofNat n.toNat)) (ByteArray.mk acc.toArray)=ByteArray.mk (acc++l).toArray:=by
 induction l with
 |nil=>intro acc;simp
 |cons b l ih=>
  intro acc;rw[List.map_cons,List.foldl_cons]
  have:(ByteArray.mk acc.toArray).push (UInt8.ofNat ((b.toNat:Int)).toNat)=ByteArray.mk (acc++[b]).toArray:=by
   simp[ByteArray.push]
  rw[this,ih];simp
theorem oO(l:List UInt8):l.flatMap a1=l.map (fun b=>Value.int .u8 b.toNat):=by
 induction l with
 |nil=>rfl
 |cons b l ih=>simp[ih]
theorem sc(s:List UInt8):Array.map (fun b:UInt8=>Value.int .u8 (b.toNat:Int)) s.toArray=(s.flatMap a1).toArray:=by
 rw[oO];simp
theorem Y.nt{F:Nat→Prop}{x:Operand}{t u e:TypeId}{v:Value}{xs:List UInt8}(h:Rd F H a1 1 v xs)(k:J.op= .convert t u x)(G:P.underlying t=some (.slice e))(hu:P.underlying u=some .string)(he:P.underlying e=some (.int .u8))(o:aF l x=some v):Y P w0 n l H J (aI xs):=by
 intro a w d r;obtain⟨ad,cap,rfl,_,_,q⟩:=id h.ex;have av:=run_convert_bytes_string (P:=P) w t u e ad xs.length cap G he hu
 cases ad with
 |none=>
  have I:xs=[]:=by
   apply Decidable.byContradiction;intro C;obtain⟨ad,aA,_⟩:=q C;cases aA
  subst I
  have A:(convert t u (.slice none 0 cap)).run P w= .ok (aI []) w:=by
   rw[show(0:Nat)=([]:List UInt8).length from rfl,av];rfl
  simp[execOp,k,d.eval o,A]
 |some ad=>
  have E:=h.lA eE rfl r;have j:=run_loadCells_list (P:=P) w ad (xs.flatMap a1) E;have hlen:(xs.flatMap a1).length=xs.length:=by rw[length_flatMap eE,Nat.mul_one]
  have aw:=run_bytesToString (P:=P) w ad xs.length cap (xs.map (fun b=>(b.toNat:Int))) (by
   rw[hlen]at j;rw[j,oO,List.map_map];rfl)
  have i:=fold_push xs [];simp only[List.nil_append]at i;have B:ByteArray.empty=ByteArray.mk ([]:List UInt8).toArray:=rfl;rw[B,i]at aw;simp[execOp,k,d.eval o,av,aw,aI]
theorem Z.Hs{x:Operand}{t u e:TypeId}{ut:TypeDesc}{s:List UInt8}(B:J.op= .convert t u x)(E:P.underlying t=some ut)(hu:P.underlying u=some (.slice e))(he:P.underlying e=some (.int .u8))(F:aF l x=some (aI s))(aw:s.length≤9223372036854775807):
 Z P w0 n l H J (fun r aa=>Own (fun b=>b=H.size) e aa a1 1 r s∧aj H aa∧aa.size=H.size+1):=by
 intro a w q d;have C:=Lib.run_convert_string_bytes (P:=P) w t u e (ByteArray.mk s.toArray) E hu he;have j:=m_ s;have A:=grownCap_ge w s.length 0 e;have k:grownCap w s.length 0 e≤maxLen:=grownCap_le_maxLen w s.length 0 e (by unfold maxLen;omega)
 have o:(Lib.bytesCells w e (ByteArray.mk s.toArray)).size=grownCap w s.length 0 e:=by
  simp only[Lib.bytesCells,j,sc,Array.size_append,List.size_toArray,length_flatMap eE,Array.size_replicate,Nat.mul_one];omega
 refine⟨_,(Lib.bytesWorld w e (ByteArray.mk s.toArray)).heap,Lib.bytesWorld w e (ByteArray.mk s.toArray),by simp[execOp,B,q.eval F,C,aI];rfl,⟨rfl,?_,?_,?_,?_⟩,⟨eE,fK,.inr ⟨w.heap.size,grownCap w s.length 0 e,_,by rw[j],d.heap▸rfl,⟨_,Lib.bytesWorld_at_new w e _,?_⟩,A,k,?_,?_⟩⟩,⟨?_,?_⟩,?_⟩
 ·have:=d.os;simp only[Lib.bytesWorld,World.freeze];exact this
 ·have:=d.tape;simp only[Lib.bytesWorld,World.freeze];exact this
 ·have:=d.output;simp only[Lib.bytesWorld,World.freeze];exact this
 ·have:=d.fJ;simp only[Lib.bytesWorld,World.freeze];first|exact this|exact Nat.le_succ_of_le this
 ·refine⟨by simp only;omega,?_⟩;intro i G av;simp only at av;omega
 ·rw[o,Nat.mul_one]
 ·simp only[Lib.bytesCells,sc,Array.toList_append]
  rw[←length_flatMap eE s];exact List.take_left
 ·rw[Lib.bytesWorld_size,d.heap];omega
 ·intro b aw _;rw[←d.heap]at aw⊢;exact Lib.bytesWorld_at_old w e _ b aw
 ·rw[Lib.bytesWorld_size,d.heap]
theorem y9(s:List UInt8):Lib.strCells (ByteArray.mk s.toArray)=s.flatMap a1:=by
 rw[oO];simp[Lib.strCells]
theorem GH{w:World}(t u ty e:TypeId)(i:TypeInfo)(E:P.underlying t=some (.slice e))(hu:P.underlying u=some .string)(A:P.info? e=some i)(C:i.size=1)
 (g d k:Nat) (cur:Array Value) (j:Nat×Nat) (x:w.heap[g]?=some (.cells cur e j)) (r:mx j cur.size) (s:ByteArray)
 (B:d+s.size≤k) (q:d+s.size≤cur.size):
 (Builtin.append_ #[t,u] ty #[.slice (some ⟨g,0,none⟩) d k,.string s]).run P w=
  .ok (.slice (some ⟨g,0,none⟩) (d+s.size) k) (w.setRow g (cur.toList.take d++Lib.strCells s++cur.toList.drop (d+s.size)).toArray):=by
 have o:=Lib.run_firstCells_string (P:=P) w 1 s;have n:=m4 P g d e j (Lib.strCells s) 0 cur w x r (by simpa[Lib.strCells_length]using q) (Lib.strCells_oneCell s);simp only[Nat.add_zero,Lib.strCells_length]at n;simp[Builtin.append_,run_underlying E,run_underlying hu,sizeOf,typeInfo,A,C,Builtin.lenOf,B,o,Addr.add_lit,n]
theorem Z.Ar{aR:Nat→Prop}{e:TypeId}{v:Value}{xs ys:List UInt8}{s x:Operand}{t u:TypeId}(h:Own aR e H a1 1 v xs)(G:J.op= .call {callee:= .builtin .append,args:= #[s,x],argTypes:= #[t,u]})
 (ae:c4 P t e 1 1) (hu:P.underlying u=some .string) (al:aF l s=some v) (K:aF l x=some (aI ys)) (hm:xs.length+ys.length≤140737488355328):
 Z P w0 n l H J (fun r aa=>Own (fun b=>aR b∨H.size≤b) e aa a1 1 r (xs++ys)∧W aR H aa):=by
 obtain⟨I,i,z,B,T,S,O,ak⟩:=ae;intro a w k d;have af:(ys.flatMap a1).length=ys.length:=by rw[length_flatMap eE,Nat.mul_one]
 have R:(xs.flatMap a1).length=xs.length:=by rw[length_flatMap eE,Nat.mul_one]
 have E:=m_ ys
 have grown:∀(q:Nat) (r:Value),q<xs.length+ys.length→r= .slice (some ⟨w.heap.size,0,none⟩) (xs.length+ys.length) (grownCap w (xs.length+ys.length) q e)→∀C,C=Obj.cells (((xs++ys).flatMap a1).toArray++Builtin.zeroCells z.cells (grownCap w (xs.length+ys.length) q e-(xs.length+ys.length))) e→
  At w0 (w.drew.alloc C).heap (w.drew.alloc C)∧Own (fun b=>aR b∨H.size≤b) e (w.drew.alloc C).heap a1 1 r (xs++ys)∧W aR H (w.drew.alloc C).heap:=by
  rintro q r au rfl C rfl;have Y:=grownCap_ge w (xs.length+ys.length) q e;have X:grownCap w (xs.length+ys.length) q e≤maxLen:=grownCap_le_maxLen w (xs.length+ys.length) q e (by unfold maxLen;omega);have M:At w0 H w.drew:=d.drew;refine⟨⟨rfl,d.os,d.tape,d.output,M.fJ⟩,?_,?_⟩
  ·have:=Own.new (e:=e) (G':=fun b=>aR b∨H.size≤b) (w:=w.drew) (z:=z) (cap:=grownCap w (xs.length+ys.length) q e) (zs:=xs++ys) h.cells h.one ak (.inr (by rw[M.heap];exact Nat.le_refl _)) (by simpa using Y) X
   simpa using this
  ·rw[(M.alloc _).heap];exact W.push _ _ _
 rcases h.ex with⟨rfl,rfl⟩|⟨g,A,cur,rfl,F,bE,ay,aq,ar,V⟩
 ·by_cases ag:ys.length=0
  ·have ai:ys=[]:=List.eq_nil_of_length_eq_zero ag
   subst ai;refine⟨.slice none 0 0,H,w,?_,d,by simpa using h.imp (fun b _ F=> .inl F),W.refl _ _⟩;have he:(ByteArray.mk ([]:List UInt8).toArray).size=0:=rfl;simp only[execOp,G];simp[resolve,invoke,builtin,k.eval al,k.eval K,Builtin.append_,run_underlying I,run_underlying hu,sizeOf,typeInfo,B,Builtin.lenOf,Builtin.firstCells,aI,he]
  ·simp only[List.length_nil,Nat.zero_add]at hm
   have o:=run_append_nil_string (P:=P) w t u J.type e i z I hu B T (ByteArray.mk ys.toArray) (by omega) (by omega) (by rw[E,O];omega);rw[E,sc]at o;have:=grown 0 _ (by simp;omega) rfl _ rfl;simp only[List.length_nil,Nat.zero_add,List.nil_append]at this;exact⟨_,_,_,by simp[execOp,G,resolve,invoke,builtin,k.eval al,k.eval K,aI,o],this.1,this.2.1,this.2.2⟩
 ·obtain⟨L,ab,N⟩:=id bE
  have Q:w.heap[g]?=some (.cells cur e L):=by rw[d.heap];exact ab
  rw[Nat.mul_one]at ar V;by_cases ah:xs.length+ys.length≤A
  ·have o:=GH (P:=P) (w:=w) t u J.type e i I hu B S g xs.length A cur L Q N (ByteArray.mk ys.toArray) (by omega) (by omega)
   rw[E,y9]at o;refine⟨.slice (some ⟨g,0,none⟩) (xs.length+ys.length) A,(w.setRow g (cur.toList.take xs.length++ys.flatMap a1++cur.toList.drop (xs.length+ys.length)).toArray).heap,w.setRow g (cur.toList.take xs.length++ys.flatMap a1++cur.toList.drop (xs.length+ys.length)).toArray,by simp[execOp,G,resolve,invoke,builtin,k.eval al,k.eval K,aI,o],⟨rfl,d.os,d.tape,d.output,d.fJ⟩,⟨h.cells,h.one,.inr ⟨g,A,_,by rw[List.length_append],.inl F,⟨L,setRow_heap w g cur _ e _ Q,N.1,fun i B=>N.2 i (by simp only[List.size_toArray,List.length_append,List.length_take,List.length_drop,Array.length_toList]at B;omega)⟩,by simpa using ah,aq,?_,?_⟩⟩,⟨by rw[←d.heap];simp[World.setRow],fun b aw aA=>?_⟩⟩
   ·simp only[List.size_toArray,List.length_append,List.length_take,List.length_drop,Array.length_toList]
    omega
   ·rw[V,List.length_append,Nat.mul_one,List.flatMap_append]
    have:xs.length+ys.length=(xs.flatMap a1++ys.flatMap a1).length:=by rw[List.length_append,af,R]
    rw[this];exact List.take_left
   ·rw[←d.heap];exact setRow_other w g b _ (fun e=>aA (e▸F))
  ·have holds:∀j c,(xs.flatMap a1)[j]?=some c→w.cell? ((⟨g,0,none⟩:Addr).add j)=some c:=h.rd.lA h.cells rfl d
   have o:=Lib.run_append_grow_string (P:=P) w t u J.type e i z I hu B T ⟨g,0,none⟩ xs.length A (xs.flatMap a1) (by rw[R,S,Nat.mul_one]) holds (ByteArray.mk ys.toArray) (by omega) (by omega) (by rw[E,O];exact growslice_fits (by omega) (by omega));rw[E,y9]at o;have:=grown A _ (by omega) rfl _ rfl;rw[List.flatMap_append,←List.append_toArray]at this;exact⟨_,_,_,by simp[execOp,G,resolve,invoke,builtin,k.eval al,k.eval K,aI,o],this.1,this.2.1,this.2.2⟩
end
end E

namespace E
theorem Rd.Co{α:Type}{F:Nat→Prop}{H:Heap}{f:α→List Value}{sz:Nat}{v:Value}{l:List α}(h:Rd F H f sz v l):v.cells.toList=[v]:=by
 obtain⟨a,cap,rfl,_⟩:=h.ex;rfl
structure aV {α:Type} (k:Nat) (e:TypeId) (H:Heap) (f:α→List Value) (sz:Nat) (v:Value) (l:List α):Prop where
 own:Own (fun b=>b+1=k) e H f sz v l
 le:k≤H.size
section
variable {α : Type} {k : Nat} {e : TypeId} {H aa : Heap} {f : α → List Value} {sz : Nat} {v : Value} {l : List α}
theorem aV.rd(h:aV k e H f sz v l):Rd (fun b=>b+1=k) H f sz v l:=h.own.rd
theorem aV.len(h:aV k e H f sz v l):l.length≤9223372036854775807:=h.own.len
theorem aV.bl(h:aV k e H f sz v l):(cl v).v=v:=h.own.bl
theorem aV.up{S:Nat→Prop}(h:aV k e H f sz v l)(s:W S H aa)(d:∀b,b<H.size→b+1=k→¬S b):aV k e aa f sz v l:=⟨h.own.up s d,Nat.le_trans h.le s.size⟩
theorem aV.M(h:aV k e H f sz v l)(s:aj H aa):aV k e aa f sz v l:=h.up s (fun _ _ _ e=>e)
theorem aV.nil(i:∀x,(f x).length=sz)(d:∀x,∀u∈f x,u.oneCell'=true):aV 0 e H f sz (.slice none 0 0) ([]:List α):=⟨Own.nil i d,Nat.zero_le _⟩
theorem aV.of{aR:Nat→Prop}(h:Own aR e H f sz v l):∃k,aV k e H f sz v l∧(k=0∨∃g,k=g+1∧aR g):=by
 rcases h.ex with⟨rfl,rfl⟩|⟨g,cap,cur,i,d,bE,r⟩
 ·exact⟨0,⟨⟨h.cells,h.one,.inl ⟨rfl,rfl⟩⟩,Nat.zero_le _⟩,.inl rfl⟩
 ·exact⟨g+1,⟨⟨h.cells,h.one,.inr ⟨g,cap,cur,i,rfl,bE,r⟩⟩,bE.lt⟩,.inr ⟨g,rfl,d⟩⟩
theorem aV.at{j:Nat}(h:aV k e H f sz v l)(d:j<l.length):gO v+1=k:=(h.own.at d).1
theorem aV.N{j:Nat}(h:aV k e H f sz v l)(d:j<l.length):cg H ⟨gO v,j*sz,none⟩ (f l[j]):=h.own.N d
end
def af(a b:Nat):Prop:=∀c,c+1=a→c+1≠b
def T(k h a8:Nat):Prop:=a8=0∨a8=k∨h<a8
def aE(ks:List Nat):Nat→Prop:=fun c=>c+1∈ks
def ah(a:Nat)(ks:List Nat):Prop:=∀k∈ks,af a k
def ay(F:Nat→Prop)(k:Nat):Prop:=∀b,F b→b+1≠k
def bh(F:Nat→Prop)(h:Nat):Prop:=∀b,F b→b<h
def az(F:Nat→Prop)(ks:List Nat):Prop:=∀k∈ks,ay F k
def aq(ks:List Nat)(h k:Nat):Prop:=∀b,b<h→b+1=k→aE ks b
def ag(ks:List Nat)(h:Nat)(iK:List Nat):Prop:=∀k∈iK,aq ks h k
section
variable {a b k a8 ic h U : Nat} {ks iK : List Nat} {F : Nat → Prop}
theorem af.symm(d:af a b):af b a:=fun c i U=>d c U i
theorem af.new(i:a≤h):af a (h+1):=fun c d U=>by omega
theorem af.z:af a 0:=fun c d U=>by omega
theorem af.z2:af 0 a:=fun c d U=>by omega
theorem af.app(d:af a k)(n:a≤h)(i:T k h a8):af a a8:=fun c j U=>by
 rcases i with rfl|rfl|i
 ·omega
 ·exact d c j U
 ·omega
theorem af.ne(d:af (a+1) (b+1)):a≠b:=fun e=>d a rfl (by rw[e])
theorem af.of(d:a≠b):af (a+1) (b+1):=fun c i U=>by omega
theorem kB (d : a≠b := by omega) : af (a+1) (b+1) := af.of d
theorem T.refl(k h:Nat):T k h k:= .inr (.inl rfl)
theorem T.new(bE:h≤U):T 0 h (U+1):= .inr (.inr (by omega))
theorem T.L(x:T k h a8)(y:T a8 U ic)(bE:h≤U):T k h ic:=by
 unfold T at*;omega
theorem ah.nil:ah a []:=fun k d=>by cases d
theorem ah.cons(d:af a k)(e:ah a ks):ah a (k::ks):=fun j i=>by
 rcases List.mem_cons.1 i with rfl|i
 ·exact d
 ·exact e j i
theorem az.nil:az F []:=fun k d=>by cases d
theorem az.cons(d:ay F k)(e:az F ks):az F (k::ks):=fun j i=>by
 rcases List.mem_cons.1 i with rfl|i
 ·exact d
 ·exact e j i
theorem ay.new(aw:bh F h):ay F (h+1):=fun b d U=>by have:=aw b d;omega
theorem ay.z:ay F 0:=fun b d U=>by omega
theorem ay.app(d:ay F k)(aw:bh F h)(j:T k h a8):ay F a8:=fun b i U=>by
 have:=aw b i;rcases j with rfl|rfl|j
 ·omega
 ·exact d b i U
 ·omega
theorem bh.of(le:k≤h):bh (fun b=>b+1=k) h:=fun b e=>by simp only at e;omega
theorem ay.of(d:af a k):ay (fun b=>b+1=a) k:=fun b e=>d (b+1-1) (by simp only at e;omega)
theorem bh.mono(aw:bh F h)(bE:h≤U):bh F U:=fun b d=>Nat.lt_of_lt_of_le (aw b d) bE
theorem aq.root(hm:k∈ks):aq ks h k:=fun b _ U=>by unfold aE;rw[U];exact hm
theorem aq.z:aq ks h 0:=fun b d U=>by omega
theorem aq.new(bE:h≤U):aq ks h (U+1):=fun b d i=>by omega
theorem aq.app(x:aq ks h k)(d:T k U a8)(bE:h≤U):aq ks h a8:=fun b i j=>by
 rcases d with rfl|rfl|d
 ·omega
 ·exact x b i j
 ·omega
theorem ag.nil:ag ks h []:=fun k d=>by cases d
theorem ag.cons(d:aq ks h k)(e:ag ks h iK):ag ks h (k::iK):=fun j i=>by
 rcases List.mem_cons.1 i with rfl|i
 ·exact d
 ·exact e j i
theorem W.md{H aa:Heap}(s:W (fun b=>b+1=k) H aa):W (aE [k]) H aa:=s.weaken (fun b _ e=>by unfold aE;simp;exact e)
theorem W.bs{H aa:Heap}(s:W (fun g=>g=b) H aa):W (aE [b+1]) H aa:=s.weaken (fun c _ e=>by unfold aE;simp;exact e)
theorem W.kU{H aa:Heap}(s:aj H aa)(ks:List Nat):W (aE ks) H aa:=s.weaken (fun c _ e=>e.elim)
theorem W.nil{H aa:Heap}(s:W (aE []) H aa):aj H aa:=s.weaken (fun c _ e=>by cases e)
theorem W.aJ{I H aa:Heap}(x:W (aE ks) I H)(s:W (aE iK) H aa)(d:ag ks I.size iK):W (aE ks) I aa:=
 W.trans x s (fun _ _ e=>e) (fun b aw e=>d (b+1) e b aw rfl)
theorem W.bc{I H aa:Heap}(x:W (aE ks) I H)(s:aj H aa):W (aE ks) I aa:=W.trans x s (fun _ _ e=>e) (fun _ _ e=>e.elim)
theorem aV.ab{α:Type}{e:TypeId}{H aa:Heap}{f:α→List Value}{sz:Nat}{v:Value}{l:List α}(x:aV a e H f sz v l)(s:W (aE ks) H aa)(d:ah a ks):aV a e aa f sz v l:=
 x.up s (fun b _ i U=>d (b+1) U b i rfl)
theorem Var.ab{e:TypeId}{H aa:Heap}{cs:List Value}(x:Var e H b cs)(s:W (aE ks) H aa)(d:ah (b+1) ks):Var e aa b cs:=x.up s (fun U=>d (b+1) U b rfl rfl)
theorem Rd.bw{α:Type}{H:Heap}{f:α→List Value}{sz:Nat}{v:Value}{l:List α}(x:Rd F H f sz v l):Rd (fun b=>F b∧b<H.size) H f sz v l:=x.imp (fun b aw h=>⟨h,aw⟩)
theorem Rd.bY{α:Type}{H:Heap}{f:α→List Value}{sz:Nat}{v:Value}{l:List α}{aR:Nat→Prop}(x:Rd (fun b=>aR b∧b<h) H f sz v l):bh (fun b=>aR b∧b<h) h:=fun b e=>e.2
theorem Rd.ab{α:Type}{H aa:Heap}{f:α→List Value}{sz:Nat}{v:Value}{l:List α}(x:Rd F H f sz v l)(s:W (aE ks) H aa)(d:az F ks):Rd F aa f sz v l:=
 x.up s (fun b _ i U=>d (b+1) U b i rfl)
end
section
variable {α : Type} {k : Nat} {ks : List Nat} {e : TypeId} {H aa : Heap} {f : α → List Value} {sz : Nat} {v : Value} {l : List α}
end
section
variable {P : Program} {w0 : World} {n : Nat} {l : bZ} {H : Heap} {J : Oper} {α : Type} {k : Nat} {e : TypeId} {f : α → List Value} {sz : Nat} {v : Value} {xs ys : List α}
theorem Y.cast{v v2:Value}(h:Y P w0 n l H J v)(e:v=v2):Y P w0 n l H J v2:=e▸h
theorem o.sA{Q:Exit→Act→World→Prop}{ops:Array Oper}{rest:List Oper}{m:Bool}{d j i:Nat}{b:Bool}(A:J.guard=some (j,b))(B:(ops[j]?).bind (·.dst)=some i)(av:cL l i=some undef)
 (an:J.dst=some d) (aA:Nat.blt d n=true) (h:o m P w0 ops Q n ((d,undef)::l) rest H):o m P w0 ops Q n l (J::rest) H:=by
 intro a w k x
 have hw:Region.wanted J (yielded ops a.tmps)=false:=by
  have r:=k.get i _ av;have U:(ops[j]?).bind (fun J=>J.dst)=some i:=B
  have t:yielded ops a.tmps j=none:=by
   unfold yielded;rw[U];simp[r,undef]
  simp[Region.wanted,A,t]
 have q:=k.put aA undef;rw[←an]at q;have bE:=h _ w q x;cases m
 ·simp only[jr]at bE⊢
  unfold wpList;rw[if_neg (by simp[hw])];exact bE
 ·simp only[jr]at bE⊢
  unfold wpStill;rw[if_neg (by simp[hw])];exact bE
theorem gx {Q : Exit→Act→World→Prop} {ops : Array Oper} {rest : List Oper} {m : Bool} {d j i : Nat} {b : Bool} (h : o m P w0 ops Q n ((d,undef)::l) rest H) (k : J.guard=some (j,b) := by exact rfl) (q : (ops[j]?).bind (·.dst)=some i := by exact rfl) (av : cL l i=some undef := by exact rfl) (an : J.dst=some d := by exact rfl) (aA : Nat.blt d n=true := by exact rfl) : o m P w0 ops Q n l (J::rest) H := o.sA k q av an aA h
theorem Z.mono{d i:Value→Heap→Prop}(h:Z P w0 n l H J d)(r:∀v aa,d v aa→i v aa):Z P w0 n l H J i:=by
 intro a w q o;obtain⟨v,aa,t,j,U,k⟩:=h a w q o;exact⟨v,aa,t,j,U,r _ _ k⟩
theorem S.mono{d i:Heap→Prop}(h:S P w0 n l H J d)(r:∀aa,d aa→i aa):S P w0 n l H J i:=by
 intro a w q o;obtain⟨aa,t,j,U,k⟩:=h a w q o;exact⟨aa,t,j,U,r _ k⟩
theorem Z.pP{F:Nat→Prop}{s x:Operand}{t:TypeId}{u:Value}{bytes:Nat}(h:aV k e H f sz v xs)(B:Rd F H f sz u ys)(A:J.op= .call {callee:= .builtin .append,args:= #[s,x],argTypes:= #[t,t]})
 (q:c4 P t e sz bytes) (al:aF l s=some v) (C:aF l x=some u) (aw:(xs.length+ys.length)*bytes≤140737488355328) (hm:xs.length+ys.length≤9223372036854775807):
 Z P w0 n l H J (fun r aa=>∃d,aV d e aa f sz r (xs++ys)∧(d=0∨d=k∨H.size<d)∧W (fun b=>b+1=k) H aa):=
 (Z.append h.own B A q al C aw hm).mono fun r aa ⟨i,U⟩=>by
  obtain⟨d,j,o⟩:=aV.of i;refine⟨d,j,?_,U⟩;rcases o with rfl|⟨g,rfl,E⟩
  ·exact .inl rfl
  ·omega
theorem dQ {F : Nat→Prop} {s x : Operand} {t : TypeId} {u : Value} {bytes : Nat} (h : aV k e H f sz v xs) (o : Rd F H f sz u ys) (i : c4 P t e sz bytes) (aw : (xs.length+ys.length)*bytes≤140737488355328) (hm : xs.length+ys.length≤9223372036854775807) (j : J.op= .call {callee:= .builtin .append,args:= #[s,x],argTypes:= #[t,t]} := by exact rfl) (al : aF l s=some v := by exact rfl) (q : aF l x=some u := by exact rfl) : Z P w0 n l H J (fun r aa=>∃d,aV d e aa f sz r (xs++ys)∧(d=0∨d=k∨H.size<d)∧W (fun b=>b+1=k) H aa) := Z.pP h o j i al q aw hm
theorem Z.pQ{v:Value}{xs ys:List UInt8}{s x:Operand}{t u:TypeId}(h:aV k e H a1 1 v xs)(A:J.op= .call {callee:= .builtin .append,args:= #[s,x],argTypes:= #[t,u]})
 (q:c4 P t e 1 1) (hu:P.underlying u=some .string) (al:aF l s=some v) (B:aF l x=some (aI ys)) (hm:xs.length+ys.length≤140737488355328):
 Z P w0 n l H J (fun r aa=>∃d,aV d e aa a1 1 r (xs++ys)∧(d=0∨d=k∨H.size<d)∧W (fun b=>b+1=k) H aa):=
 (Z.Ar h.own A q hu al B hm).mono fun r aa ⟨i,U⟩=>by
  obtain⟨d,j,o⟩:=aV.of i;refine⟨d,j,?_,U⟩;rcases o with rfl|⟨g,rfl,C⟩
  ·exact .inl rfl
  ·omega
theorem aV.new{aR:Nat→Prop}{aa:Heap}{c:Obj}(d:∀b,aR b→b=H.size)(h:Own aR e aa f sz v xs)(av:aa=H.push c):aV (H.size+1) e aa f sz v xs:=
 ⟨h.imp (fun b _ aw=>by rw[d b aw]),by rw[av];simp⟩
theorem Z.xf{t:TypeId}{k bytes:Nat}{parts:List (Nat×Operand)}(d:List Value)(zs:List α)(E:J.op= .buildSlice t k parts.toArray)(q:c4 P t e sz bytes)(F:gI l (parts.map (·.2))=some d)(o:parts.map (·.1)=List.range k)(A:d.length=k)(C:k*sz≤16777216)(B:k≤16777216)
 (av:∀x,(f x).length=sz) (i:∀x,∀u∈f x,u.oneCell'=true) (G:d.map (fun v=>v.cells.toList)=zs.map f):
 Z P w0 n l H J (fun r aa=>aV (H.size+1) e aa f sz r zs∧aj H aa∧∃c,aa=H.push c):=
 (Z.lit d zs E q F o A C B av i G).mono fun r aa ⟨i,U,c,j⟩=>⟨aV.new (fun _ e=>e) i j,U,c,j⟩
theorem cT {t : TypeId} {k bytes : Nat} {parts : List (Nat×Operand)} (d : List Value) (zs : List α) (o : c4 P t e sz bytes) (av : ∀x,(f x).length=sz) (i : ∀x,∀u∈f x,u.oneCell'=true) (F : d.map (fun v=>v.cells.toList)=zs.map f) (C : J.op= .buildSlice t k parts.toArray := by exact rfl) (E : gI l (parts.map (·.2))=some d := by exact rfl) (j : parts.map (·.1)=List.range k := by exact rfl) (q : d.length=k := by exact rfl) (B : k*sz≤16777216 := by decide) (A : k≤16777216 := by decide) : Z P w0 n l H J (fun r aa=>aV (H.size+1) e aa f sz r zs∧aj H aa∧∃c,aa=H.push c) := Z.xf d zs C o E j q B A av i F
theorem Z.ED{t e:TypeId}{bytes:Nat}{x c:Operand}{I G:IntKind}{cw:Int}{z:Value}(k:Nat)(z0:α)(B:J.op= .makeSlice t x c)(o:c4 P t e sz bytes)(E:∀w,(zeroValue e).run P w= .ok z w)(F:f z0=z.cells.toList)
 (av:∀x,(f x).length=sz) (d:∀x,∀u∈f x,u.oneCell'=true) (C:aF l x=some (.int I cw)) (j:aF l c=some (.int G cw)) (q:cw=k) (aw:(bytes:Int)*k≤281474976710656) (A:k≤9223372036854775807):
 Z P w0 n l H J (fun r aa=>aV (H.size+1) e aa f sz r (List.replicate k z0)∧aj H aa∧∃K,aa=H.push K):=
 (Z.makeSlice k z0 B o E F av d C j q aw A).mono fun r aa ⟨d,U,c,i⟩=>⟨aV.new (fun _ e=>e) d i,U,c,i⟩
theorem Z.y_{x:Operand}{t u e:TypeId}{ut:TypeDesc}{s:List UInt8}(j:J.op= .convert t u x)(k:P.underlying t=some ut)(hu:P.underlying u=some (.slice e))(he:P.underlying e=some (.int .u8))(o:aF l x=some (aI s))(aw:s.length≤9223372036854775807):
 Z P w0 n l H J (fun r aa=>aV (H.size+1) e aa a1 1 r s∧aj H aa∧aa.size=H.size+1):=
 (Z.Hs j k hu he o aw).mono fun r aa ⟨i,U,d⟩=>⟨⟨i.imp (fun b _ aw=>by rw[aw]),by rw[d];exact Nat.le_refl _⟩,U,d⟩
theorem Y.qS{x i:Operand}{t:TypeId}{a8:IntKind}{aD:Int}(h:aV k e H f sz v xs)(j:Nat)(r:J.op= .indexAddr t x i)(A:∀w,(underlying t).run P w= .ok (.slice e) w)(al:∀w,(sizeOf e).run P w= .ok sz w)
 (B:aF l x=some v) (d:aF l i=some (.int a8 aD)) (o:aD=j) (q:j<xs.length):Y P w0 n l H J (.pointer (some ⟨gO v,j*sz,none⟩)):=Y.FL h.own j r A al B d o q
theorem mj {x i : Operand} {t : TypeId} {a8 : IntKind} {aD : Int} (h : aV k e H f sz v xs) (j : Nat) (A : ∀w,(underlying t).run P w= .ok (.slice e) w) (al : ∀w,(sizeOf e).run P w= .ok sz w) (r : J.op= .indexAddr t x i := by exact rfl) (B : aF l x=some v := by exact rfl) (d : aF l i=some (.int a8 aD) := by exact rfl) (o : aD=j := by first|rfl|omega) (q : j<xs.length := by first|omega|(simp;omega)|(simp;done)) : Y P w0 n l H J (.pointer (some ⟨gO v,j*sz,none⟩)) := Y.qS h j r A al B d o q
theorem Y.FJ{x i:Operand}{t q:TypeId}{a8:IntKind}{aD:Int}(h:aV k e H f sz v xs)(j:Nat)(L:J.op= .slice t x none (some i) none)(M:∀w,(underlying t).run P w= .ok (.slice q) w)(al:∀w,(sizeOf q).run P w= .ok sz w)
 (N:aF l x=some v) (G:aF l i=some (.int a8 aD)) (K:aD=j) (d:j≤xs.length):∃E,(∀aa,Y P w0 n l aa J E)∧aV k e H f sz E (xs.take j):=by
 have run:∀(a:Option Addr) (len cap:Nat),v= .slice a len cap→j≤len→len≤cap→(∀ad,a=some ad→ad.spot=none)→∀aa,Y P w0 n l aa J (.slice a j cap):=by
  rintro a len cap rfl R U A aa ac w B S
  have aK:∀w,(Instr.sliceBounds true len cap none (some (ac.eval i)) none).run P w= .ok (0,j,cap) w:=by
   intro w;have Q:j≤cap:=by omega
   subst K;simp[Instr.sliceBounds,Instr.sliceBound,asIntOf,B.eval G, *]
  have F:(if cap=0 then a else a.map (·.add (0*sz)))=a:=by
   cases a with
   |none=>simp
   |some ad=>simp[add_eq (A ad rfl)];intro _;obtain⟨b,J,s⟩:=ad;have:=A _ rfl;simp at this;rw[this]
  have r:=F;simp only[Nat.zero_mul]at r;simp[execOp,L,B.eval N,Instr.sliceAt,Instr.slice,M,al,aK,r]
 rcases h.own.ex with⟨rfl,rfl⟩|⟨g,cap,cur,o,T,bE,O,V,W,X⟩
 ·refine⟨.slice none j 0,run none 0 0 rfl (by simpa using d) (Nat.le_refl _) (fun ad e=>by cases e),?_⟩
  have:j=0:=by simpa using d
  subst this
  simpa using h
 ·refine⟨.slice (some ⟨g,0,none⟩) j cap,run _ _ _ o d O (fun ad e=>by rw[←Option.some.inj e]),⟨?_,h.le⟩⟩
  by_cases C:xs=[]
  ·subst C
   have I:j=0:=by simpa using d
   subst I;have:=h.own;rw[o]at this
   simpa using this
  ·have U:=h.own
   rw[o]at U;exact U.front d C
theorem S.FO{x y:Operand}{t:TypeId}{c:Value}(h:aV k e H f sz v xs)(j i:Nat)(z:α)(r:J.op= .store t x y)(A:aF l x=some (.pointer (some ⟨gO v,j*sz+i,none⟩)))(hy:aF l y=some c)(d:c.oneCell'=true)
 (al:∀w,(sizeOf t).run P w= .ok 1 w) (o:j<xs.length) (q:i<sz) (B:f z=(f xs[j]).set i c):S P w0 n l H J (fun aa=>aV k e aa f sz v (xs.set j z)∧W (fun b=>b+1=k) H aa):=
 (S.own h.own j i z r A hy d al o q B).mono fun aa ⟨d,U⟩=>⟨⟨d,Nat.le_trans h.le U.size⟩,U.weaken (fun b _ e=>by have:=h.at o;omega)⟩
theorem S.tf{x y:Operand}{t:TypeId}{c:Value}{m:Nat}(h:aV k e H f sz v xs)(j i:Nat)(z:α)(d:List Value)(A:J.op= .store t x y)(B:aF l x=some (.pointer (some ⟨gO v,j*sz+i,none⟩)))(hy:aF l y=some c)(av:c.cells.toList=d)(o:∀u∈d,u.oneCell'=true)
 (al:∀w,(sizeOf t).run P w= .ok m w) (hm:d.length=m) (q:j<xs.length) (r:i+m≤sz) (C:f z=ed (f xs[j]) i d):S P w0 n l H J (fun aa=>aV k e aa f sz v (xs.set j z)∧W (fun b=>b+1=k) H aa):=
 (S.FM h.own j i z d A B hy av o al hm q r C).mono fun aa ⟨o,U⟩=>⟨⟨o,Nat.le_trans h.le U.size⟩,U.weaken (fun b _ e=>by have:=h.at q;omega)⟩
theorem Y.peq{x y:Operand}{t u:TypeId}{p:Option Addr}(i:J.op= .binOp .eql t x y u)(j:P.underlying t=some (.pointer (P.pointee t)))(hm:P.eqGuardType P.depth t=false)(k:aF l x=some (.pointer p))(hy:aF l y=some (.pointer none)):Y P w0 n l H J (.bool p.isNone):=by
 intro a w d o;have h:=run_equal_pointer_nil (w:=w) t p j;simp[execOp,i,d.eval k,d.eval hy,binOp,eqGuard,h]
theorem Y.tm{x y:Operand}{t u:TypeId}{p:Option Addr}(i:J.op= .binOp .neq t x y u)(j:P.underlying t=some (.pointer (P.pointee t)))(hm:P.eqGuardType P.depth t=false)(k:aF l x=some (.pointer p))(hy:aF l y=some (.pointer none)):Y P w0 n l H J (.bool p.isSome):=by
 intro a w d o;have h:=run_equal_pointer_nil (w:=w) t p j;simp[execOp,i,d.eval k,d.eval hy,binOp,eqGuard,h]
theorem Y.pk{x y:Operand}{t u e:TypeId}{p:Option Addr}{k c:Nat}(i:J.op= .binOp .eql t x y u)(j:P.underlying t=some (.slice e))(o:aF l x=some (.slice p k c))(hy:aF l y=some (.slice none 0 0)):Y P w0 n l H J (.bool p.isNone):=by
 intro a w d q;have h:=run_equal_slice_nil (w:=w) t e p k c j;simp[execOp,i,d.eval o,d.eval hy,binOp,eqGuard,h]
theorem Z.uL{a8:Nat}{x:Operand}{t e:TypeId}{v:Value}{xs:List UInt8}(h:aV a8 e H a1 1 v xs)(K:xs≠[])(L:J.op= .convert t t x)(R:P.underlying t=some (.slice e))(he:P.underlying e=some (.int .u8))(S:aF l x=some v):
 Z P w0 n l H J (fun r aa=>r=v∧aV a8 e aa a1 1 v xs∧W (fun b=>b+1=a8) H aa):=by
 intro a w B d;rcases h.own.ex with⟨rfl,rfl⟩|⟨g,cap,cur,A,E,bE,T,V,X,Y⟩
 ·exact absurd rfl K
 ·obtain⟨⟨j,k⟩,bE,N,o⟩:=bE
  simp only at N o;have hw:w.heap[g]?=some (.cells cur e (j,k)):=by rw[d.heap];exact bE
  have O:w.shape? g=some (e,cur.size):=by unfold World.shape?;rw[hw]
  have M:(execOp a.eval J).run P w= .ok (.value v) (w.freeze ⟨g,cur.size,none⟩ 1):=by
   simp[execOp,L,B.eval S,A,convert,run_underlying R,run_underlying he,markStringish,O]
  have C:(w.freeze ⟨g,cur.size,none⟩ 1).heap[g]?=some (.cells cur e (if j==k then(cur.size,cur.size+1)else(min j cur.size,max k (cur.size+1)))):=by
   unfold World.freeze;rw[if_neg (by decide)];simp[Array.getElem?_modify,hw]
  have I:W (fun b=>b+1=a8) H (w.freeze ⟨g,cur.size,none⟩ 1).heap:=by
   unfold World.freeze;rw[if_neg (by decide)];refine⟨by simp[d.heap],fun b aw ab=>?_⟩;simp only[Array.getElem?_modify,d.heap];rw[if_neg (by omega)]
  have Q:(w.freeze ⟨g,cur.size,none⟩ 1).heap.size=H.size:=by
   unfold World.freeze;rw[if_neg (by decide)];simp[d.heap]
  refine⟨v,_,_,M,⟨rfl,?_,?_,?_,?_⟩,rfl,⟨⟨h.own.cells,h.own.one,.inr ⟨g,cap,cur,A,E,⟨_,C,?_⟩,T,V,X,Y⟩⟩,by rw[Q];exact h.le⟩,I⟩
  ·have:=d.os;unfold World.freeze;rw[if_neg (by decide)];exact this
  ·have:=d.tape;unfold World.freeze;rw[if_neg (by decide)];exact this
  ·have:=d.output;unfold World.freeze;rw[if_neg (by decide)];exact this
  ·have:=d.fJ;unfold World.freeze;rw[if_neg (by decide)];exact this
  ·by_cases q:j=k
   ·subst q
    simp only[beq_self_eq_true,if_true];refine⟨by simp only;omega,fun i F av=>?_⟩;simp only at av;omega
   ·rw[if_neg (by simpa using q)]
    refine⟨by simp only;omega,fun i F av=>?_⟩;simp only at av;have:=o j;by_cases G:j<cur.size
    ·have:=o j G;omega
    ·omega
end
section
variable {m a b : Nat} {F S : Nat → Prop} {α : Type} {e : TypeId} {I H aa : Heap} {f : α → List Value} {sz : Nat} {v : Value} {l : List α} {cs : List Value}
theorem ay.iy{k n:Nat}(d:∀b,F b→n≤b)(i:k≤n):ay F k:=fun b h e=>by have:=d b h;omega
end
section
variable {P : Program} {w0 : World} {n : Nat} {l : bZ} {H : Heap} {J : Oper} {α : Type} {e : TypeId} {f : α → List Value} {sz : Nat}
end
structure kE (F:Nat→Prop) (H:Heap) (ad:Addr) (cs:List Value):Prop where
 N:cg H ad cs
 f:F ad.block
section
variable {F : Nat → Prop} {H aa : Heap} {ad : Addr} {cs : List Value} {ks : List Nat} {m : Nat}
theorem kE.M(h:kE F H ad cs)(s:aj H aa):kE F aa ad cs:=⟨h.N.M s,h.f⟩
theorem kE.ab(h:kE F H ad cs)(s:W (aE ks) H aa)(d:az F ks):kE F aa ad cs:=⟨h.N.up s (fun e=>d _ e _ h.f rfl),h.f⟩
end
section
variable {P : Program} {w0 : World} {n : Nat} {l : bZ} {H : Heap} {J : Oper} {α : Type} {F : Nat → Prop} {f : α → List Value} {sz : Nat} {v : Value} {xs : List α}
theorem Y.mS{x i:Operand}{t e:TypeId}{k:IntKind}{aD:Int}(h:Rd F H f sz v xs)(j:Nat)(I:J.op= .indexAddr t x i)(K:∀w,(underlying t).run P w= .ok (.slice e) w)(al:∀w,(sizeOf e).run P w= .ok sz w)
 (L:aF l x=some v) (E:aF l i=some (.int k aD)) (G:aD=j) (d:j<xs.length):∃ad,(∀aa,Y P w0 n l aa J (.pointer (some ad)))∧kE F H ad (f xs[j]):=by
 obtain⟨a,cap,rfl,M,U,C⟩:=h.ex;obtain⟨ad,rfl,q,r,A,B⟩:=C (by intro e;subst e;simp at d);subst G;refine⟨_,?_,B j xs[j] (by simp[d]),by first|exact r|exact A⟩;intro aa ac w o N;simp[execOp,I,o.eval L,o.eval E,Instr.indexAt,asIntOf,K,al,d,add_eq q]
end
end E

namespace E
section
variable {P : Program} {w0 : World} {Q : Exit → Act → World → Prop} {n : Nat} {l : bZ} {H : Heap} {ops : Array Oper} {rest : List Oper} {J : Oper} {m : Bool}
theorem G.t1{x y:Code}(h:∀{K:Exit→Act→World→Prop},(∀{l' aa},G P w0 Q n l' y aa→aP w0 K n l' aa)→G P w0 K n l x H):G P w0 Q n l (.seq x y) H:=G.seq (fun _ da _=>h (da _ _))
theorem G.t2{x y:Code}(h:∀{K:Exit→Act→World→Prop},(∀{l' aa},G P w0 Q n l' y aa→aP w0 K n l' aa)→(∀{e l' aa},fR w0 Q e n l' aa→∀(he:e≠.normal:=by first|nofun|simp),fR w0 K e n l' aa)→G P w0 K n l x H):G P w0 Q n l (.seq x y) H:=G.seq (fun _ da d=>h (da _ _) (fun q he=>d _ he _ _ q))
theorem G.L{id:Nat}{d:List Oper}{y:Code}(h:∀{K:Exit→Act→World→Prop},(∀{l' aa},G P w0 Q n l' y aa→aP w0 K n l' aa)→o false P w0 d.toArray K n l d H):G P w0 Q n l (.seq (.region id d.toArray false) y) H:=G.seq (fun _ da _=>G.region (h (da _ _)))
theorem G.aB{id:Nat}{c:Code}(h:∀{K:Exit→Act→World→Prop},(∀{l' aa},aP w0 Q n l' aa→aP w0 K n l' aa)→(∀{l' aa},aP w0 Q n l' aa→fR w0 K (.exit id) n l' aa)→(∀{e l' aa},fR w0 Q e n l' aa→∀(he:e≠.normal:=by first|nofun|simp)(d:e≠.exit id:=by first|nofun|simp),fR w0 K e n l' aa)→G P w0 K n l c H):G P w0 Q n l (.block id c) H:=G.block (fun _ da j i=>h (da _ _) (j _ _) (fun q he d=>i _ he d _ _ q))
theorem G.GU{c:Code}(h:∀{K:Exit→Act→World→Prop},(∀{l' aa},aP w0 Q n l' aa→aP w0 K n l' aa)→(∀{e l' aa},fR w0 Q e n l' aa→∀(he:e≠.normal:=by first|nofun|simp)(d:∀k,e≠.goto k:=by first|nofun|simp),fR w0 K e n l' aa)→G P w0 K n l c H):G P w0 Q n l (.scope c) H:=G.scope (fun _ da i=>h (da _ _) (fun q he d=>i _ he d _ _ q))
theorem G.bg{σ:Type}{c:Code}(fF:σ→bZ)(d:σ→Heap→Prop)(μ:σ→Nat)(j:σ)(x:Sub (fF j) l)(k:d j H)(round:∀s H,d s H→∀K:Exit→Act→World→Prop,(∀i aa,d i aa→μ i<μ s→aP w0 K n (fF i) aa)→(∀{e l' aa},fR w0 Q e n l' aa→∀(he:e≠.normal:=by first|nofun|simp),fR w0 K e n l' aa)→G P w0 K n (fF s) c H):G P w0 Q n l (.loop c) H:=G.loop fF d μ j x k (fun s H r K t o=>round s H r K t (fun q he=>o _ he _ _ q))
theorem G.bm{σ:Type}{x y:Code}(fF:σ→bZ)(d:σ→Heap→Prop)(h:∀K:Exit→Act→World→Prop,(∀s aa,d s aa→aP w0 K n (fF s) aa)→(∀{e l' aa},fR w0 Q e n l' aa→∀(he:e≠.normal:=by first|nofun|simp),fR w0 K e n l' aa)→G P w0 K n l x H)(hy:∀s aa,d s aa→G P w0 Q n (fF s) y aa):G P w0 Q n l (.seq x y) H:=G.cut fF d (fun K j i=>h K j (fun q he=>i _ he _ _ q)) hy
theorem aC.aK{f:FuncId}{fn:Func}{c:Code}{d:Value→Heap→Prop}(args:List Value)(j:P.funcs[f]?=some fn)(h:∀Q:Exit→Act→World→Prop,(∀{l aa v},d v aa→∀(i:∀a w,Fr n l a→At w0 aa w→(results fn a.tmps).run P w= .ok v w:=by first|exact yr rfl rfl|exact Gm rfl rfl rfl|exact Gn rfl rfl rfl rfl),fR w0 Q .ret n l aa)→G P w0 Q n (lS args 0) c H)(aw:fn.body=some c:=by exact rfl)(aA:fn.ntmps=n:=by exact rfl)(k:Nat.ble args.length n=true:=by exact rfl):aC P w0 f args.toArray H d:=aC.enter j aw aA k (fun Q o=>h Q (fun x i=>o .ret (.inr rfl) _ _ _ i x))
theorem o.bR{φ:Addr→Prop}{d:Nat}(hy:∃x,(∀aa,Y P w0 n l aa J (.pointer (some x)))∧φ x)(h:∀x,φ x→o m P w0 ops Q n ((d,.pointer (some x))::l) rest H)(hw:c5 ops l J:=by exact cQ)(an:J.dst=some d:=by exact rfl)(aA:Nat.blt d n=true:=by exact rfl):o m P w0 ops Q n l (J::rest) H:=o.e (g:=fun ad:Addr=>Value.pointer (some ad)) hy hw an aA h
theorem b6{a b:List Value}(h:a=b):Value.agg a.toArray=Value.agg b.toArray:=congrArg (fun z:List Value=>Value.agg z.toArray) h
theorem o.v1{v:Value}{d:Nat}(hy:Y P w0 n l H J v)(h:o m P w0 ops Q n ((d,v)::l) rest H)(hw:c5 ops l J:=by exact cQ)(an:J.dst=some d:=by exact rfl)(aA:Nat.blt d n=true:=by exact rfl):o m P w0 ops Q n l (J::rest) H:=o.v hy hw an aA h
def rb(l:bZ)(d:Nat):Op→Option bZ
 |.move x=>match aF l x with
  |some v=>some ((d,v)::l)
  |none=>none
 |.assign x=>match aF l x with
  |some v=>some ((d,v)::l)
  |none=>none
 |.nilCheck x=>match aF l x with
  |some (.pointer (some ad))=>some ((d,.pointer (some ad))::l)
  |_=>none
 |.pick c x y=>match aF l c with
  |some (.bool true)=>match aF l x with
   |some v=>some ((d,v)::l)
   |none=>none
  |some (.bool false)=>match aF l y with
   |some v=>some ((d,v)::l)
   |none=>none
  |_=>none
 |_=>none
def tY(ops:Array Oper)(n:Nat)(l:bZ)(J:Oper):Option bZ:=match J.dst with
 |none=>none
 |some d=>match Nat.blt d n with
  |false=>none
  |true=>match J.guard with
   |none=>rb l d J.op
   |some (j,b)=>match (ops[j]?).bind (·.dst) with
    |none=>none
    |some e=>match cL l e with
     |some (.bool c)=>match c==b with
      |false=>some ((d,undef)::l)
      |true=>rb l d J.op
     |_=>none
theorem zk{d:Nat}{i:bZ}(al:rb l d J.op=some i):∃v,i=(d,v)::l∧Y P w0 n l H J v:=by
 unfold rb at al
 repeat' split at al
 all_goals first|(cases al;done)|(cases al;refine ⟨_,rfl,?_⟩;first|exact Y.move (by assumption) (by assumption)|exact Y.assign (by assumption) (by assumption)|exact Y.nilCheck (by assumption) (by assumption)|exact Y.tl (by assumption) (by assumption) (by assumption)|exact Y.tk (by assumption) (by assumption) (by assumption))
theorem o.HH{d:bZ}(h:o m P w0 ops Q n d rest H)(al:tY ops n l J=some d):o m P w0 ops Q n l (J::rest) H:=by
 unfold tY at al
 repeat' split at al
 all_goals first|(cases al;done)|(obtain⟨v,rfl,hy⟩:=zk al;exact o.v hy (c5.u (by assumption)) (by assumption) (by assumption) h)|(cases al;exact o.gs (by assumption) (by assumption) (by assumption) (by assumption) (by assumption) (by assumption) h)|(rename_i q;cases eq_of_beq q;obtain⟨v,rfl,hy⟩:=zk al;exact o.v hy (c5.g (by assumption) (by assumption) (by assumption)) (by assumption) (by assumption) h)
def re(ops:Array Oper)(n:Nat):Nat→bZ→List Oper→Option (bZ×List Oper)
 |k+1,l,J::r=>match tY ops n l J with
  |some d=>re ops n k d r
  |none=>none
 |0,l,r=>some (l,r)
 |_,_,_=>none
theorem o.ax{d:bZ}{i:List Oper}:∀(k:Nat){l:bZ}{rest:List Oper}(h:o m P w0 ops Q n d i H)(al:re ops n k l rest=some (d,i):=by exact rfl),o m P w0 ops Q n l rest H
 |0,_,_,h,al=>by cases al;exact h
 |k+1,_,[],_,al=>by cases al
 |k+1,l,J::r,h,al=>by
  unfold re at al;split at al
  ·rename_i j e;exact o.HH (o.ax k h al) e
  ·cases al
theorem o.aQ{d:bZ}(k:Nat){l:bZ}{rest:List Oper}(h:aP w0 Q n d H)(al:re ops n k l rest=some (d,[]):=by exact rfl):o m P w0 ops Q n l rest H:=o.ax k (o.nil h) al
theorem o.V{x:Operand}{v:Value}{d:Nat}(h:o m P w0 ops Q n ((d,v)::l) rest H)(i:J.op= .move x:=by exact rfl)(j:aF l x=some v:=by exact rfl)(hw:c5 ops l J:=by exact cQ)(an:J.dst=some d:=by exact rfl)(aA:Nat.blt d n=true:=by exact rfl):o m P w0 ops Q n l (J::rest) H:=o.v (Y.move i j) hw an aA h
theorem o.b2{x:Operand}{v:Value}{d:Nat}(h:o m P w0 ops Q n ((d,v)::l) rest H)(i:J.op= .assign x:=by exact rfl)(j:aF l x=some v:=by exact rfl)(hw:c5 ops l J:=by exact cQ)(an:J.dst=some d:=by exact rfl)(aA:Nat.blt d n=true:=by exact rfl):o m P w0 ops Q n l (J::rest) H:=o.v (Y.assign i j) hw an aA h
theorem Y.ai{x:Operand}{s:TypeId}{k off d:Nat}{ad:Addr}{cs:List Value}{fs:Array Field}{fd:Field}(h:cg H ad cs)(j:J.op= .fieldAddr s x k)(hu:∀w,(underlying s).run P w= .ok (.struct fs) w)(i:fs[k]?=some fd)(q:∀w,(sizeOf fd.type).run P w= .ok d w)
 (o:fd.offset=off:=by exact rfl) (t:d≠0:=by decide) (r:aF l x=some (.pointer (some ad)):=by exact rfl):Y P w0 n l H J (.pointer (some (ad.add off))):=Y.fieldAddr h j hu i o q t r
theorem o.g1{d j e:Nat}{b c:Bool}(h:o m P w0 ops Q n ((d,undef)::l) rest H)(i:J.guard=some (j,b):=by exact rfl)(k:(ops[j]?).bind (·.dst)=some e:=by exact rfl)(av:cL l e=some (.bool c):=by exact rfl)(q:(c==b)=false:=by exact rfl)(an:J.dst=some d:=by exact rfl)(aA:Nat.blt d n=true:=by exact rfl):o m P w0 ops Q n l (J::rest) H:=o.gs i k av q an aA h
theorem o.ao{v:Value}{d j e:Nat}{b:Bool}(hy:Y P w0 n l H J v)(h:o m P w0 ops Q n ((d,v)::l) rest H)(i:J.guard=some (j,b):=by exact rfl)(k:(ops[j]?).bind (·.dst)=some e:=by exact rfl)(av:cL l e=some (.bool b):=by exact rfl)(an:J.dst=some d:=by exact rfl)(aA:Nat.blt d n=true:=by exact rfl):o m P w0 ops Q n l (J::rest) H:=o.v hy (c5.g i k av) an aA h
theorem G.s1{x y:Code}(h:∀{K:Exit→Act→World→Prop},(∀l' aa,G P w0 Q n l' y aa→aP w0 K n l' aa)→G P w0 K n l x H):G P w0 Q n l (.seq x y) H:=G.seq (fun _ da _=>h da)
theorem G.s2{x y:Code}(h:∀{K:Exit→Act→World→Prop},(∀l' aa,G P w0 Q n l' y aa→aP w0 K n l' aa)→(∀e,e≠ .normal→∀l' aa,fR w0 Q e n l' aa→fR w0 K e n l' aa)→G P w0 K n l x H):G P w0 Q n l (.seq x y) H:=G.seq (fun _ da d=>h da d)
theorem Y.bL{α:Type}{F:Nat→Prop}{f:α→List Value}{sz:Nat}{v:Value}{xs:List α}{x i:Operand}{t e:TypeId}{k:IntKind}{aD:Int}(h:Rd F H f sz v xs)(j:Nat)(r:J.op= .indexAddr t x i)(A:∀w,(underlying t).run P w= .ok (.slice e) w)(al:∀w,(sizeOf e).run P w= .ok sz w)
 (B:aF l x=some v) (d:aF l i=some (.int k aD)) (o:aD=j:=by first|rfl|omega) (q:j<xs.length:=by first|omega|(simp;omega)|(simp;done)):∃ad,(∀aa,Y P w0 n l aa J (.pointer (some ad)))∧kE F H ad (f xs[j]):=Y.mS h j r A al B d o q
theorem o.aO{i:Value→Heap→Prop}{d:Nat}(j:E.Z P w0 n l H J i)(h:∀v aa,i v aa→o false P w0 ops Q n ((d,v)::l) rest aa)(hw:c5 ops l J:=by exact cQ)(an:J.dst=some d:=by exact rfl)(aA:Nat.blt d n=true:=by exact rfl):o false P w0 ops Q n l (J::rest) H:=o.z j hw an aA h
theorem o.s1{d:Heap→Prop}(i:E.S P w0 n l H J d)(h:∀aa,d aa→o false P w0 ops Q n l rest aa)(hw:c5 ops l J:=by exact cQ)(an:J.dst=none:=by exact rfl):o false P w0 ops Q n l (J::rest) H:=o.s i hw an h
theorem o.aK{α:Type}{g:α→Value}{φ:α→Prop}{d:Nat}(hy:∃x,(∀aa,Y P w0 n l aa J (g x))∧φ x)(h:∀x,φ x→o m P w0 ops Q n ((d,g x)::l) rest H)(hw:c5 ops l J:=by exact cQ)(an:J.dst=some d:=by exact rfl)(aA:Nat.blt d n=true:=by exact rfl):o m P w0 ops Q n l (J::rest) H:=o.e hy hw an aA h
theorem G.k5{id:Nat}{d:List Oper}{y:Code}(h:∀{K:Exit→Act→World→Prop},(∀l' aa,G P w0 Q n l' y aa→aP w0 K n l' aa)→o false P w0 d.toArray K n l d H):G P w0 Q n l (.seq (.region id d.toArray false) y) H:=G.seq (fun _ da _=>G.region (h da))
theorem o.ak{x:Operand}{v:Value}{d:Nat}(h:aP w0 Q n ((d,v)::l) H)(i:J.op= .assign x:=by exact rfl)(j:aF l x=some v:=by exact rfl)(hw:c5 ops l J:=by exact cQ)(an:J.dst=some d:=by exact rfl)(aA:Nat.blt d n=true:=by exact rfl):o m P w0 ops Q n l [J] H:=o.v (Y.assign i j) hw an aA (o.nil h)
theorem o.bH{x:Operand}{ad:Addr}{d:Nat}(h:o m P w0 ops Q n ((d,.pointer (some ad))::l) rest H)(i:J.op= .nilCheck x:=by exact rfl)(j:aF l x=some (.pointer (some ad)):=by exact rfl)(hw:c5 ops l J:=by exact cQ)(an:J.dst=some d:=by exact rfl)(aA:Nat.blt d n=true:=by exact rfl):o m P w0 ops Q n l (J::rest) H:=o.v (Y.nilCheck i j) hw an aA h
theorem o.N{c x y:Operand}{v:Value}{d:Nat}(h:o m P w0 ops Q n ((d,v)::l) rest H)(i:J.op= .pick c x y:=by exact rfl)(av:aF l c=some (.bool true):=by exact rfl)(j:aF l x=some v:=by exact rfl)(hw:c5 ops l J:=by exact cQ)(an:J.dst=some d:=by exact rfl)(aA:Nat.blt d n=true:=by exact rfl):o m P w0 ops Q n l (J::rest) H:=o.v (Y.tl i av j) hw an aA h
theorem o.dF{c x y:Operand}{v:Value}{d:Nat}(h:o m P w0 ops Q n ((d,v)::l) rest H)(i:J.op= .pick c x y:=by exact rfl)(av:aF l c=some (.bool false):=by exact rfl)(j:aF l y=some v:=by exact rfl)(hw:c5 ops l J:=by exact cQ)(an:J.dst=some d:=by exact rfl)(aA:Nat.blt d n=true:=by exact rfl):o m P w0 ops Q n l (J::rest) H:=o.v (Y.tk i av j) hw an aA h
theorem o.bU{x:Operand}{v:Value}{d j e:Nat}{b:Bool}(h:o m P w0 ops Q n ((d,v)::l) rest H)(q:J.op= .move x:=by exact rfl)(r:aF l x=some v:=by exact rfl)(i:J.guard=some (j,b):=by exact rfl)(k:(ops[j]?).bind (·.dst)=some e:=by exact rfl)(av:cL l e=some (.bool b):=by exact rfl)(an:J.dst=some d:=by exact rfl)(aA:Nat.blt d n=true:=by exact rfl):o m P w0 ops Q n l (J::rest) H:=o.v (Y.move q r) (c5.g i k av) an aA h
end
section
variable {P : Program} {w0 : World} {Q : Exit → Act → World → Prop} {n k : Nat} {dn : List Nat} {l : bZ} {H : Heap} {ops : Array Oper} {J : Oper} {bV : Heap → Prop} {X : List Nat}
theorem O.cc{i:Nat}{A:Heap}(x:aj A H)(h:O P w0 ops Q (fun d=>aj H d) X n k dn l H):(X.contains i=true∨aj A H)∧O P w0 ops Q (fun d=>aj A d) X n k dn l H:=⟨.inr x,O.narrow (fun d j=>x.L j) h⟩
theorem O.b3{i:Nat}{A:Heap}{ks iK:List Nat}(x:W (aE ks) A H)(d:ag ks A.size iK)(h:O P w0 ops Q (fun j=>W (aE iK) H j) X n k dn l H):(X.contains i=true∨W (aE ks) A H)∧O P w0 ops Q (fun j=>W (aE ks) A j) X n k dn l H:=⟨.inr x,O.narrow (fun j o=>x.aJ o d) h⟩
theorem O.t1{v:Value}{d:Nat}(i:Nat)(t:ops[i]?=some J)(hy:∀aa,bV aa→Y P w0 n l aa J v)(o:bV H)(h:O P w0 ops Q bV X n k (i::dn) ((d,v)::l) H)
 (q:X.all (fun j=>Nat.beq j i||Region.waitsFor .any ops j i)=true:=by kernel_rfl) (al:Region.noSelect ops=true:=by kernel_rfl) (r:Region.free .any ops (dD ops.size dn) i=true:=by kernel_rfl) (x:(Region.ready .any ops (dD ops.size dn)).contains i=true:=by kernel_rfl)
 (hw:c5 ops l J:=by exact cQ) (an:J.dst=some d:=by exact rfl) (aA:Nat.blt d n=true:=by exact rfl):O P w0 ops Q bV X n (k+1) dn l H:=O.take i q t al r x hy hw an aA o h
theorem O.V{x:Operand}{v:Value}{d:Nat}(i:Nat)(t:ops[i]?=some J)(o:bV H)(h:O P w0 ops Q bV X n k (i::dn) ((d,v)::l) H)(A:J.op= .move x:=by exact rfl)(C:aF l x=some v:=by exact rfl)
 (q:X.all (fun j=>Nat.beq j i||Region.waitsFor .any ops j i)=true:=by kernel_rfl) (al:Region.noSelect ops=true:=by kernel_rfl) (r:Region.free .any ops (dD ops.size dn) i=true:=by kernel_rfl) (B:(Region.ready .any ops (dD ops.size dn)).contains i=true:=by kernel_rfl)
 (hw:c5 ops l J:=by exact cQ) (an:J.dst=some d:=by exact rfl) (aA:Nat.blt d n=true:=by exact rfl):O P w0 ops Q bV X n (k+1) dn l H:=O.take i q t al r B (fun _ _=>Y.move A C) hw an aA o h
theorem O.bH{x:Operand}{ad:Addr}{d:Nat}(i:Nat)(t:ops[i]?=some J)(o:bV H)(h:O P w0 ops Q bV X n k (i::dn) ((d,.pointer (some ad))::l) H)(A:J.op= .nilCheck x:=by exact rfl)(C:aF l x=some (.pointer (some ad)):=by exact rfl)
 (q:X.all (fun j=>Nat.beq j i||Region.waitsFor .any ops j i)=true:=by kernel_rfl) (al:Region.noSelect ops=true:=by kernel_rfl) (r:Region.free .any ops (dD ops.size dn) i=true:=by kernel_rfl) (B:(Region.ready .any ops (dD ops.size dn)).contains i=true:=by kernel_rfl)
 (hw:c5 ops l J:=by exact cQ) (an:J.dst=some d:=by exact rfl) (aA:Nat.blt d n=true:=by exact rfl):O P w0 ops Q bV X n (k+1) dn l H:=O.take i q t al r B (fun _ _=>Y.nilCheck A C) hw an aA o h
theorem O.bI{v:Value}{d:Nat}(i:Nat)(t:ops[i]?=some J)(hy:∀aa,bV aa→Y P w0 n l aa J v)(hw:c5 ops l J)(o:bV H)(h:O P w0 ops Q bV X n k (i::dn) ((d,v)::l) H)
 (q:X.all (fun j=>Nat.beq j i||Region.waitsFor .any ops j i)=true:=by kernel_rfl) (al:Region.noSelect ops=true:=by kernel_rfl) (r:Region.free .any ops (dD ops.size dn) i=true:=by kernel_rfl) (x:(Region.ready .any ops (dD ops.size dn)).contains i=true:=by kernel_rfl)
 (an:J.dst=some d:=by exact rfl) (aA:Nat.blt d n=true:=by exact rfl):O P w0 ops Q bV X n (k+1) dn l H:=O.take i q t al r x hy hw an aA o h
theorem O.g1{d j e:Nat}{b c:Bool}(i:Nat)(x:ops[i]?=some J)(t:J.guard=some (j,b))(A:(ops[j]?).bind (·.dst)=some e)(av:cL l e=some (.bool c))(o:bV H)(h:O P w0 ops Q bV X n k (i::dn) ((d,undef)::l) H)
 (q:X.all (fun j=>Nat.beq j i||Region.waitsFor .any ops j i)=true:=by kernel_rfl) (al:Region.noSelect ops=true:=by kernel_rfl) (r:Region.free .any ops (dD ops.size dn) i=true:=by kernel_rfl) (C:(Region.ready .any ops (dD ops.size dn)).contains i=true:=by kernel_rfl)
 (B:(c==b)=false:=by exact rfl) (an:J.dst=some d:=by exact rfl) (aA:Nat.blt d n=true:=by exact rfl):O P w0 ops Q bV X n (k+1) dn l H:=O.gs i q x al r C t A av B an aA o h
theorem O.iI{d j e:Nat}{b:Bool}(i:Nat)(x:ops[i]?=some J)(t:J.guard=some (j,b))(A:(ops[j]?).bind (·.dst)=some e)(av:cL l e=some undef)(o:bV H)(h:O P w0 ops Q bV X n k (i::dn) ((d,undef)::l) H)
 (q:X.all (fun j=>Nat.beq j i||Region.waitsFor .any ops j i)=true:=by kernel_rfl) (al:Region.noSelect ops=true:=by kernel_rfl) (r:Region.free .any ops (dD ops.size dn) i=true:=by kernel_rfl) (B:(Region.ready .any ops (dD ops.size dn)).contains i=true:=by kernel_rfl)
 (an:J.dst=some d:=by exact rfl) (aA:Nat.blt d n=true:=by exact rfl):O P w0 ops Q bV X n (k+1) dn l H:=O.sA i q x al r B t A av an aA o h
theorem O.aX(i:Nat)(h:dq P w0 ops Q bV X n k i dn l H)(d:Region.ready .any ops (dD ops.size dn)=[i]:=by kernel_rfl):O P w0 ops Q bV X n (k+1) dn l H:=O.one d h
end
theorem aq.q{ks:List Nat}{h a8:Nat}(x:T 0 h a8):aq ks h a8:=aq.app aq.z x (Nat.le_refl _)
theorem aq.r{ks:List Nat}{h k a8:Nat}(x:T k h a8)(hm:k∈ks:=by simp):aq ks h a8:=aq.app (aq.root hm) x (Nat.le_refl _)
theorem ag.J{ks:List Nat}{h k:Nat}(d:aq ks h k):ag ks h [k]:=ag.cons d ag.nil
theorem ah.J{a k:Nat}(d:af a k):ah a [k]:=ah.cons d ah.nil
theorem az.J{F:Nat→Prop}{k:Nat}(d:ay F k):az F [k]:=az.cons d az.nil
theorem W.bo{iK:List Nat}{I H aa:Heap}(x:aj I H)(s:W (aE iK) H aa)(d:ag [] I.size iK):aj I aa:=(W.aJ (ks:=[]) (x.kU []) s d).nil
def cj:= @Tryz.isAgg3
def dA:= @Tryz.isAgg4
def dS:= @Tryz.isAgg5
def bN:= @Tryz.isAgg9
def eB:= @Tryz.isAgg24
def b_:= @Tryz.isAgg26
def fi:= @Tryz.isAgg27
def h9:= @Tryz.isAgg29
def dV:= @Tryz.isAgg30
def fj:= @Tryz.isAgg32
def lP:= @Tryz.isAgg34
def pL:= @Tryz.isAgg35
def ix:= @Tryz.isAgg44
def hx:= @Tryz.isAgg45
def eC:= @Tryz.isAgg47
def iF:= @Tryz.isAgg52
def eD:= @Tryz.isAgg57
def h_:= @Tryz.isAgg60
def lQ:= @Tryz.isAgg62
def pM:= @Tryz.isAgg64
def hJ:= @Tryz.isAgg68
def uv:= @Tryz.isAgg69
def np:= @Tryz.isAgg71
def pN:= @Tryz.isAgg95
def hj:= @Tryz.isAgg103
def rJ:= @Tryz.isAgg104
def mB:= @Tryz.isAgg129
def zY:= @Tryz.isAgg130
def ou:= @Tryz.isAgg168
def zZ:= @Tryz.isAgg171
def uo:= @Tryz.isAgg175
def uq:= @Tryz.isAgg177
def ur:= @Tryz.isAgg184
def uu:= @Tryz.isAgg216
def z1:= @Tryz.isAgg230
def pK:= @Tryz.isAgg275
def e9:= @Tryz.isAgg329
def z6:= @Tryz.isAgg335
def rK:= @Tryz.isAgg336
def z7:= @Tryz.isAgg356
def AZ:= @Tryz.call11
def A5:= @Tryz.call12
def u7:= @Tryz.call13
def Bh:= @Tryz.call14
def vc:= @Tryz.call15
def r1:= @Tryz.call16
def Bo:= @Tryz.call17
def vg:= @Tryz.call18
def vm:= @Tryz.call19
def r2:= @Tryz.call20
def r3:= @Tryz.call22
def r6:= @Tryz.call23
def r7:= @Tryz.call24
def vq:= @Tryz.call25
def BJ:= @Tryz.call26
def BO:= @Tryz.call35
def vs:= @Tryz.call37
def BP:= @Tryz.call38
def vt:= @Tryz.call39
def pZ:= @Tryz.call40
def BQ:= @Tryz.call41
def BR:= @Tryz.call42
def vu:= @Tryz.call43
def BS:= @Tryz.call44
def BT:= @Tryz.call45
def hz:= @Tryz.call46
def kJ:= @Tryz.call47
def p0:= @Tryz.call48
def BU:= @Tryz.call49
def BV:= @Tryz.call50
def BW:= @Tryz.call51
def vv:= @Tryz.call52
def vw:= @Tryz.call53
def vx:= @Tryz.call54
def kK:= @Tryz.call55
def BX:= @Tryz.call56
def BY:= @Tryz.call57
def vy:= @Tryz.call58
def nx:= @Tryz.call59
def BZ:= @Tryz.call60
def B0:= @Tryz.call61
def B1:= @Tryz.call62
def B2:= @Tryz.call63
def vz:= @Tryz.call64
def B3:= @Tryz.call65
def B4:= @Tryz.call66
def B5:= @Tryz.call67
def B6:= @Tryz.call68
def B7:= @Tryz.call69
def B8:= @Tryz.call70
def B9:= @Tryz.call71
def B_:= @Tryz.call72
def Ca:= @Tryz.call73
def Cb:= @Tryz.call78
def vA:= @Tryz.call79
def mI:= @Tryz.call88
def vB:= @Tryz.call89
def r8:= @Tryz.call90
def vC:= @Tryz.call91
def jP:= @Tryz.call93
def Cc:= @Tryz.call98
def kL:= @Tryz.call99
def rZ:= @Tryz.call100
def oD:= @Tryz.call101
def nu:= @Tryz.call102
def AV:= @Tryz.call103
def AW:= @Tryz.call104
def AX:= @Tryz.call105
def u1:= @Tryz.call106
def u2:= @Tryz.call107
def u3:= @Tryz.call108
def AY:= @Tryz.call109
def u4:= @Tryz.call110
def u5:= @Tryz.call111
def A0:= @Tryz.call112
def u6:= @Tryz.call113
def oE:= @Tryz.call114
def A1:= @Tryz.call115
def A2:= @Tryz.call116
def A3:= @Tryz.call117
def A4:= @Tryz.call118
def oF:= @Tryz.call119
def lU:= @Tryz.call120
def nv:= @Tryz.call121
def A6:= @Tryz.call122
def A7:= @Tryz.call123
def A8:= @Tryz.call124
def A9:= @Tryz.call125
def A_:= @Tryz.call126
def Ba:= @Tryz.call127
def Bb:= @Tryz.call128
def Bc:= @Tryz.call129
def Bd:= @Tryz.call130
def Be:= @Tryz.call131
def Bf:= @Tryz.call132
def u9:= @Tryz.call133
def Bg:= @Tryz.call134
def u_:= @Tryz.call139
def Bi:= @Tryz.call140
def r0:= @Tryz.call141
def Bj:= @Tryz.call142
def va:= @Tryz.call143
def Bk:= @Tryz.call144
def Bl:= @Tryz.call145
def vb:= @Tryz.call146
def vd:= @Tryz.call160
def Bm:= @Tryz.call165
def ve:= @Tryz.call166
def jO:= @Tryz.call167
def pW:= @Tryz.call168
def Bn:= @Tryz.call169
def Bp:= @Tryz.call170
def Bq:= @Tryz.call171
def Br:= @Tryz.call172
def Bs:= @Tryz.call173
def Bt:= @Tryz.call174
def Bu:= @Tryz.call175
def Bv:= @Tryz.call176
def nw:= @Tryz.call177
def Bw:= @Tryz.call178
def vf:= @Tryz.call179
def vh:= @Tryz.call180
def lV:= @Tryz.call183
def pX:= @Tryz.call184
def vi:= @Tryz.call185
def vj:= @Tryz.call186
def vk:= @Tryz.call187
def vl:= @Tryz.call188
def pY:= @Tryz.call189
def Bx:= @Tryz.call190
def By:= @Tryz.call191
def Bz:= @Tryz.call193
def BA:= @Tryz.call194
def vn:= @Tryz.call195
def BB:= @Tryz.call196
def vo:= @Tryz.call221
def r4:= @Tryz.call222
def BC:= @Tryz.call223
def BD:= @Tryz.call224
def r5:= @Tryz.call225
def vp:= @Tryz.call226
def BE:= @Tryz.call227
def BF:= @Tryz.call230
def BG:= @Tryz.call255
def BH:= @Tryz.call256
def vr:= @Tryz.call257
def BI:= @Tryz.call258
def BK:= @Tryz.call273
def BL:= @Tryz.call277
def kI:= @Tryz.call278
def BM:= @Tryz.call279
def BN:= @Tryz.call280
def GQ:= @Tryz.sizeOf2
def b0:= @Tryz.sizeOf3
def cX:= @Tryz.sizeOf4
def cN:= @Tryz.sizeOf5
def bP:= @Tryz.sizeOf9
def eo:= @Tryz.sizeOf24
def a_:= @Tryz.sizeOf26
def ep:= @Tryz.sizeOf27
def cS:= @Tryz.sizeOf29
def dv:= @Tryz.sizeOf30
def ef:= @Tryz.sizeOf32
def mc:= @Tryz.sizeOf34
def q0:= @Tryz.sizeOf35
def hb:= @Tryz.sizeOf44
def fW:= @Tryz.sizeOf45
def di:= @Tryz.sizeOf47
def dO:= @Tryz.sizeOf52
def db:= @Tryz.sizeOf57
def gS:= @Tryz.sizeOf60
def fp:= @Tryz.sizeOf62
def j7:= @Tryz.sizeOf64
def ck:= @Tryz.sizeOf68
def GS:= @Tryz.sizeOf69
def hP:= @Tryz.sizeOf71
def q1:= @Tryz.sizeOf95
def tw:= @Tryz.sizeOf100
def GP:= @Tryz.sizeOf103
def ha:= @Tryz.sizeOf129
def lB:= @Tryz.sizeOf168
def m5:= @Tryz.sizeOf170
def m6:= @Tryz.sizeOf171
def yK:= @Tryz.sizeOf175
def yL:= @Tryz.sizeOf177
def lC:= @Tryz.sizeOf183
def ma:= @Tryz.sizeOf184
def mb:= @Tryz.sizeOf213
def qY:= @Tryz.sizeOf216
def GR:= @Tryz.sizeOf230
def qZ:= @Tryz.sizeOf275
def ey:= @Tryz.sizeOf329
def yM:= @Tryz.sizeOf335
def lD:= @Tryz.sizeOf336
def yN:= @Tryz.sizeOf354
def yO:= @Tryz.sizeOf356
def gn:= @Tryz.runUnderlying3
def jD:= @Tryz.runUnderlying5
def dP:= @Tryz.runUnderlying9
def tZ:= @Tryz.runUnderlying22
def zt:= @Tryz.runUnderlying23
def dI:= @Tryz.runUnderlying24
def k9:= @Tryz.runUnderlying26
def fq:= @Tryz.runUnderlying27
def bt:= @Tryz.runUnderlying29
def cu:= @Tryz.runUnderlying30
def bu:= @Tryz.runUnderlying32
def gK:= @Tryz.runUnderlying44
def fG:= @Tryz.runUnderlying45
def ca:= @Tryz.runUnderlying47
def cC:= @Tryz.runUnderlying52
def dc:= @Tryz.runUnderlying57
def hR:= @Tryz.runUnderlying60
def fZ:= @Tryz.runUnderlying62
def HR:= @Tryz.runUnderlying64
def ua:= @Tryz.runUnderlying66
def eX:= @Tryz.runUnderlying68
def jE:= @Tryz.runUnderlying69
def mg:= @Tryz.runUnderlying71
def zx:= @Tryz.runUnderlying83
def rj:= @Tryz.runUnderlying95
def HQ:= @Tryz.runUnderlying100
def hd:= @Tryz.runUnderlying102
def h7:= @Tryz.runUnderlying104
def pr:= @Tryz.runUnderlying108
def jC:= @Tryz.runUnderlying129
def k7:= @Tryz.runUnderlying130
def ps:= @Tryz.runUnderlying132
def ri:= @Tryz.runUnderlying168
def nb:= @Tryz.runUnderlying170
def kz:= @Tryz.runUnderlying173
def pt:= @Tryz.runUnderlying177
def lG:= @Tryz.runUnderlying183
def jm:= @Tryz.runUnderlying186
def gm:= @Tryz.runUnderlying206
def k8:= @Tryz.runUnderlying213
def gU:= @Tryz.runUnderlying216
def me:= @Tryz.runUnderlying223
def zu:= @Tryz.runUnderlying244
def t_:= @Tryz.runUnderlying251
def ka:= @Tryz.runUnderlying275
def zv:= @Tryz.runUnderlying291
def pv:= @Tryz.runUnderlying329
def mf:= @Tryz.runUnderlying335
def fY:= @Tryz.runUnderlying336
def zw:= @Tryz.runUnderlying354
def iV:= @Tryz.runUnderlying356
def zS:= @Tryz.zeroValue5
def Il:= @Tryz.zeroValue9
def nc:= @Tryz.zeroValue26
def rn:= @Tryz.zeroValue29
def nd:= @Tryz.zeroValue32
def kC:= @Tryz.zeroValue47
def mm:= @Tryz.zeroValue52
def zT:= @Tryz.zeroValue60
def pA:= @Tryz.zeroValue62
def kD:= @Tryz.zeroValue68
def Ik:= @Tryz.zeroValue71
def ue:= @Tryz.zeroValue129
def zQ:= @Tryz.zeroValue166
def Ii:= @Tryz.zeroValue175
def zR:= @Tryz.zeroValue335
def Ij:= @Tryz.zeroValue336
end E

namespace E
open Go.MapKept
structure df {κ β:Type} (H:Heap) (a7:κ→Value) (fv:β→Value) (b:Nat) (m:List (κ×β)):Prop where
 fo:ht (fun x=>x=b) H a7 fv (.map (some b)) m
section
variable {κ β : Type} {H aa : Heap} {a7 : κ → Value} {fv : β → Value} {b k : Nat} {m : List (κ × β)} {ks : List Nat}
theorem df.lt(h:df H a7 fv b m):b<H.size:=h.fo.AI
theorem df.up{S:Nat→Prop}(h:df H a7 fv b m)(s:W S H aa)(d:¬S b):df aa a7 fv b m:=⟨h.fo.up s (fun x _ e U=>d (by rw[←e];exact U))⟩
theorem df.M(h:df H a7 fv b m)(s:aj H aa):df aa a7 fv b m:=⟨h.fo.M s⟩
theorem df.ab(x:df H a7 fv b m)(s:W (aE ks) H aa)(d:ah (b+1) ks):df aa a7 fv b m:=x.up s (fun U=>d (b+1) U b rfl rfl)
end
section
variable {P : Program} {w0 : World} {n : Nat} {l : bZ} {H : Heap} {J : Oper} {κ β : Type} [DecidableEq κ] {a7 : κ → Value} {fv : β → Value} {b : Nat} {m : List (κ × β)} {d : TypeDesc}
theorem Z.nR(a7:κ→Value)(fv:β→Value){t:TypeId}(i:J.op= .makeMap t none):Z P w0 n l H J (fun r aa=>r= .map (some H.size)∧df aa a7 fv H.size ([]:List (κ×β))∧aj H aa∧∃j,aa=H.push j):=by
 intro a w k d;refine⟨.map (some w.heap.size),H.push (.map #[] 0),w.alloc (.map #[] 0),?_,d.alloc _,by rw[d.heap],⟨H.size,#[],0,rfl,rfl,by simp,stamped_empty 0,rfl⟩,aj.pu _ _,_,rfl⟩;simp[execOp,i,Instr.makeMap]
theorem S.l_{t e6 j:TypeId}{x i y:Operand}{k:κ}(z:β)(h:df H a7 fv b m)(q:ld d a7)(B:J.op= .mapUpdate t x i y)(hm:∀w,(underlying t).run P w= .ok (.map e6 j) w)(A:P.underlying e6=some d)
 (C:aF l x=some (.map (some b))) (r:aF l i=some (a7 k)) (hy:aF l y=some (fv z)):S P w0 n l H J (fun aa=>df aa a7 fv b (fN m k z)∧W (fun c=>c=b) H aa):=
 (S.mapUpdate h.fo q B hm A C r hy).mono fun aa ⟨o,U⟩=>⟨⟨o⟩,U⟩
end
theorem kV{κ β:Type}[DecidableEq κ](m:List (κ×β))(k:κ)(b:β)(q:κ):aM (fN m k b) q=if q=k then some b else aM m q:=by
 have j:∀m:List (κ×β),aM (m.map (fun p=>if p.1=k then(p.1,b)else p)) q=if q=k then(aM m q).map (fun _=>b)else aM m q:=by
  intro m
  induction m with
  |nil=>simp[aM]
  |cons p m ih=>
   simp only[List.map_cons];by_cases i:p.1=k
   ·rw[if_pos i]
    by_cases d:q=p.1
    ·have:q=k:=d.trans i
     simp[aM,d,i]
    ·simp only[aM]
     rw[if_neg d,ih,if_neg d]
   ·rw[if_neg i]
    by_cases d:q=p.1
    ·have:¬q=k:=fun e=>i (by rw[←d,e])
     simp[aM,d,i]
    ·simp only[aM]
     rw[if_neg d,ih,if_neg d]
 have U:∀m:List (κ×β),aM (m++[(k,b)]) q=(aM m q).or (if q=k then some b else none):=by
  intro m
  induction m with
  |nil=>simp[aM]
  |cons p m ih=>
   simp only[List.cons_append,aM];split
   ·simp
   ·exact ih
 unfold fN;split
 ·rename_i h
  rw[j];by_cases d:q=k
  ·subst d
   obtain⟨z,n⟩:=Option.isSome_iff_exists.1 h;simp[n]
  ·simp[d]
 ·rename_i h
  rw[U];by_cases d:q=k
  ·subst d
   have:aM m q=none:=by simpa using h
   simp[this]
  ·simp[d]
section
variable {P : Program} {w0 : World} {Q : Exit → Act → World → Prop} {n : Nat} {l : bZ} {H : Heap} {ops : Array Oper} {rest : List Oper} {J : Oper}
theorem o.rr{i:Value→Heap→Prop}(x:Z P w0 n l H J i)(hw:c5 ops l J)(an:J.dst=none)
 (h:∀v aa,i v aa→o false P w0 ops Q n l rest aa):o false P w0 ops Q n l (J::rest) H:=by
 intro a w d q;obtain⟨v,aa,j,t,r,k⟩:=x a w d q;have bE:=h v aa k a j d r;simp only[jr]at bE⊢;unfold wpList;rw[if_pos (hw n a d)];refine .inl ?_;unfold Oper.wp;rw[t];show wpList P ops Q rest (a.put J.dst v) j;rw[an];exact bE
end
section
variable {P : Program} {w0 : World} {Q : Exit → Act → World → Prop} {bV : Heap → Prop} {X : List Nat} {n k : Nat} {l : bZ} {H : Heap} {ops : Array Oper} {J : Oper} {dn : List Nat}
theorem Y.G0{x y:Operand}{t u:TypeId}{a b:List UInt8}(j:J.op= .binOp .gtr t x y u)(k:aF l x=some (aI a))(hy:aF l y=some (aI b)):Y P w0 n l H J (.bool (!(Op.bytesLess a b)&& !(decide (a=b)))):=by
 intro ac w i o;have aK:=ByteArray.toList_eq (ByteArray.mk a.toArray);have d:=ByteArray.toList_eq (ByteArray.mk b.toArray);have h:(a==b)=decide (a=b):=by by_cases h:a=b<;>simp[h]
 simp only at aK d;simp[execOp,j,i.eval k,i.eval hy,binOp,Op.stringOp,eqGuard,aI,aK,d,h]
end
end E

namespace E
section
variable {P : Program} {w0 : World} {n : Nat} {l : bZ} {H : Heap} {J : Oper}
theorem Y.ext{f:FuncId}{fn:Func}{e:Array Value→Sem Value}{args:List Operand}{j:Array TypeId}{i:List Value}{v:Value}(x:J.op= .call {callee:= .value (.func f),args:=args.toArray,argTypes:=j})(q:P.funcs[f]?=some fn)
 (t:(fn.name== "runtime.NumGoroutine")=false) (aw:fn.body.isNone=true) (aA:Extern.findNext fn=none) (he:Extern.find fn=some e) (B:gI l args=some i) (A:∀w,At w0 H w→(e i.toArray).run P w= .ok v w):Y P w0 n l H J v:=by
 intro a w r o;have k:a.eval (.func f)= .func (.func f) #[] #[]:=rfl;have U:=r.jR B;have d:=run_callFunc_extern (P:=P) q t aw aA he i.toArray w;rw[A w o]at d;simp only[Result.andThen]at d;simp[execOp,x,resolve,Deferred.ofValue,k,invoke,U,d]
theorem AU(xs:List UInt8):Lib.bytesOf (xs.map (fun b=>(b.toNat:Int)))=xs:=by
 induction xs with
 |nil=>rfl
 |cons b xs ih=>simp only[Lib.bytesOf,List.map_cons,List.map_map]at ih⊢;rw[ih];simp
end
end E

namespace E
section
variable {P : Program} {w0 : World} {n : Nat} {l : bZ} {H : Heap} {J : Oper}
theorem wrap_u8(n:Int):IntKind.u8.wrap n=n%256:=by
 have d:IntKind.u8.signed=false:=rfl;have U:(2^IntKind.u8.bits:Int)=256:=by decide
 simp only[IntKind.wrap,d,U,Bool.false_and,Bool.false_eq_true,if_false]
theorem HZ(x y:UInt8):IntKind.u8.wrap ((x.toNat:Int)+y.toNat)=((x+y).toNat:Int):=by
 rw[wrap_u8,UInt8.toNat_add];omega
theorem H7(a:Nat):IntKind.u8.wrap (a:Int)=((UInt8.ofNat a).toNat:Int):=by
 rw[wrap_u8,UInt8.toNat_ofNat'];omega
theorem Y.Af{x y:Operand}{t u:TypeId}{a b:UInt8}(d:J.op= .binOp .add t x y u)(i:aF l x=some (.int .u8 a.toNat))(hy:aF l y=some (.int .u8 b.toNat)):Y P w0 n l H J (.int .u8 (a+b).toNat):=Y.rN d i hy (HZ a b)
theorem Y.oH{x:Operand}{s d:TypeId}{k:IntKind}{a:Nat}{ds:TypeDesc}(i:J.op= .convert s d x)(al:∀w,(underlying s).run P w= .ok ds w)(an:∀w,(underlying d).run P w= .ok (.int .u8) w)(j:aF l x=some (.int k a)):Y P w0 n l H J (.int .u8 (UInt8.ofNat a).toNat):=by
 have h:=Y.conv (P:=P) (w0:=w0) (n:=n) (H:=H) i al an j
 rwa[H7]at h
theorem wrap_u32(n:Int):IntKind.u32.wrap n=n%4294967296:=by
 have d:IntKind.u32.signed=false:=rfl;have U:(2^IntKind.u32.bits:Int)=4294967296:=by decide
 simp only[IntKind.wrap,d,U,Bool.false_and,Bool.false_eq_true,if_false]
theorem HX(x y:UInt32):IntKind.u32.wrap ((x.toNat:Int)+y.toNat)=((x+y).toNat:Int):=by
 rw[wrap_u32,UInt32.toNat_add];omega
theorem zI(a:Nat):IntKind.u32.wrap (a:Int)=((UInt32.ofNat a).toNat:Int):=by
 rw[wrap_u32,UInt32.toNat_ofNat'];omega
theorem py(x:UInt32):BitVec.ofInt IntKind.u32.bits (x.toNat:Int)=x.toBitVec:=by
 apply BitVec.eq_of_toNat_eq;have:=x.toNat_lt;show(BitVec.ofInt 32 (x.toNat:Int)).toNat=x.toNat;rw[BitVec.toNat_ofInt];omega
theorem rl(x:UInt32):IntKind.u32.wrap (x.toBitVec.toNat:Int)=(x.toNat:Int):=by
 have:=x.toNat_lt;rw[wrap_u32];show((x.toNat:Nat):Int)%_=_;omega
theorem Y.ki{x y:Operand}{t u:TypeId}{a b:UInt32}(d:J.op= .binOp .add t x y u)(i:aF l x=some (.int .u32 a.toNat))(hy:aF l y=some (.int .u32 b.toNat)):Y P w0 n l H J (.int .u32 (a+b).toNat):=Y.rN d i hy (HX a b)
def m7(x:UInt32)(j:Nat):UInt32:=UInt32.ofNat (x.toNat*2^j)
def jA(x:UInt32)(j:Nat):UInt32:=UInt32.ofNat (x.toNat/2^j)
theorem G1(x:UInt32)(j:Nat):(jA x j).toNat=x.toNat/2^j:=by
 have:=x.toNat_lt;rw[jA,UInt32.toNat_ofNat'];exact Nat.mod_eq_of_lt (Nat.lt_of_le_of_lt (Nat.div_le_self _ _) this)
theorem Y.q5{x y:Operand}{t u:TypeId}{a8:IntKind}{a:UInt32}{aD:Int}(j:Nat)(k:J.op= .binOp .shl t x y u)(o:aF l x=some (.int .u32 a.toNat))(hy:aF l y=some (.int a8 aD))(d:aD=j)(i:j≤32):Y P w0 n l H J (.int .u32 (m7 a j).toNat):=by
 have h:=Y.shl (P:=P) (w0:=w0) (n:=n) (H:=H) k o hy (by omega);rw[d,Int.toNat_natCast,show min j IntKind.u32.bits=j from Nat.min_eq_left i]at h;rw[show IntKind.u32.wrap ((a.toNat:Int)*2^j)=((m7 a j).toNat:Int)by rw[m7,←zI];congr 1]at h;exact h
theorem Y.q6{x y:Operand}{t u:TypeId}{a8:IntKind}{a:UInt32}{aD:Int}(j:Nat)(k:J.op= .binOp .shr t x y u)(o:aF l x=some (.int .u32 a.toNat))(hy:aF l y=some (.int a8 aD))(d:aD=j)(i:j≤32):Y P w0 n l H J (.int .u32 (jA a j).toNat):=by
 have h:=Y.shr (P:=P) (w0:=w0) (n:=n) (H:=H) k o hy (by omega);rw[d,Int.toNat_natCast,show min j IntKind.u32.bits=j from Nat.min_eq_left i]at h
 rw[show(a.toNat:Int).fdiv (2^j)=((jA a j).toNat:Int)by
  rw[G1,Int.fdiv_eq_ediv_of_nonneg _ (by exact Int.le_of_lt (Int.pow_pos (by decide)))];simp]at h
 exact h
theorem Y.Fm{x:Operand}{t:TypeId}{a:UInt32}(j:J.op= .unOp .xor t x)(k:aF l x=some (.int .u32 a.toNat)):Y P w0 n l H J (.int .u32 (~~~a).toNat):=by
 intro ac w i o;have d:(if IntKind.u32.signed then(-1:Int)else IntKind.u32.max)=((UInt32.ofNat 4294967295).toNat:Int):=by decide
 have U:(BitVec.ofInt IntKind.u32.bits (if IntKind.u32.signed then(-1:Int)else IntKind.u32.max))^^^(BitVec.ofInt IntKind.u32.bits (a.toNat:Int))=(~~~a).toBitVec:=by
  rw[d,py,py];show BitVec.ofNat 32 4294967295^^^a.toBitVec= ~~~a.toBitVec;rw[show BitVec.ofNat 32 4294967295=BitVec.allOnes 32 by decide,BitVec.allOnes_xor]
 simp only[execOp,j,i.eval k,Op.unary,Op.intBits,U,Sem.run_bind,Sem.run_pure,Result.andThen_ok];exact congrArg (fun v=>Result.ok (Next.value (Value.int .u32 v)) w) (rl (~~~a))
theorem Y.ov{x y:Operand}{t u:TypeId}{a b:UInt32}(d:J.op= .binOp .and t x y u)(i:aF l x=some (.int .u32 a.toNat))(hy:aF l y=some (.int .u32 b.toNat)):Y P w0 n l H J (.int .u32 (a&&&b).toNat):=
 Y.bits .and _ d i hy (by simp) (fun w=>by
  simp only[Op.intBits,py];show(pure (Value.int .u32 (IntKind.u32.wrap ((a&&&b).toBitVec.toNat:Int))):Sem Value).run P w=_;rw[rl];rfl)
theorem Y.qR{x y:Operand}{t u:TypeId}{a b:UInt32}(d:J.op= .binOp .or t x y u)(i:aF l x=some (.int .u32 a.toNat))(hy:aF l y=some (.int .u32 b.toNat)):Y P w0 n l H J (.int .u32 (a|||b).toNat):=
 Y.bits .or _ d i hy (by simp) (fun w=>by
  simp only[Op.intBits,py];show(pure (Value.int .u32 (IntKind.u32.wrap ((a|||b).toBitVec.toNat:Int))):Sem Value).run P w=_;rw[rl];rfl)
theorem Y.kA{x y:Operand}{t u:TypeId}{a b:UInt32}(d:J.op= .binOp .xor t x y u)(i:aF l x=some (.int .u32 a.toNat))(hy:aF l y=some (.int .u32 b.toNat)):Y P w0 n l H J (.int .u32 (a^^^b).toNat):=
 Y.bits .xor _ d i hy (by simp) (fun w=>by
  simp only[Op.intBits,py];show(pure (Value.int .u32 (IntKind.u32.wrap ((a^^^b).toBitVec.toNat:Int))):Sem Value).run P w=_;rw[rl];rfl)
theorem Y.p7{x:Operand}{s d:TypeId}{k:IntKind}{a:Nat}{ds:TypeDesc}(i:J.op= .convert s d x)(al:∀w,(underlying s).run P w= .ok ds w)(an:∀w,(underlying d).run P w= .ok (.int .u32) w)(j:aF l x=some (.int k a)):Y P w0 n l H J (.int .u32 (UInt32.ofNat a).toNat):=by
 have h:=Y.conv (P:=P) (w0:=w0) (n:=n) (H:=H) i al an j
 rwa[zI]at h
theorem wrap_u64(n:Int):IntKind.u64.wrap n=n%18446744073709551616:=by
 have d:IntKind.u64.signed=false:=rfl;have U:(2^IntKind.u64.bits:Int)=18446744073709551616:=by decide
 simp only[IntKind.wrap,d,U,Bool.false_and,Bool.false_eq_true,if_false]
theorem HY(x y:UInt64):IntKind.u64.wrap ((x.toNat:Int)+y.toNat)=((x+y).toNat:Int):=by
 rw[wrap_u64,UInt64.toNat_add];omega
theorem Ih(x y:UInt64):IntKind.u64.wrap ((x.toNat:Int)-y.toNat)=((x-y).toNat:Int):=by
 have:=x.toNat_lt;have:=y.toNat_lt;rw[wrap_u64,UInt64.toNat_sub];omega
theorem H6(x y:UInt64):IntKind.u64.wrap ((x.toNat:Int)*y.toNat)=((x*y).toNat:Int):=by
 rw[wrap_u64,UInt64.toNat_mul];rfl
theorem zJ(a:Nat):IntKind.u64.wrap (a:Int)=((UInt64.ofNat a).toNat:Int):=by
 rw[wrap_u64,UInt64.toNat_ofNat'];omega
theorem zG(x:UInt64):BitVec.ofInt IntKind.u64.bits (x.toNat:Int)=x.toBitVec:=by
 apply BitVec.eq_of_toNat_eq;have:=x.toNat_lt;show(BitVec.ofInt 64 (x.toNat:Int)).toNat=x.toNat;rw[BitVec.toNat_ofInt];omega
theorem zF(x:UInt64):IntKind.u64.wrap (x.toBitVec.toNat:Int)=(x.toNat:Int):=by
 have:=x.toNat_lt;rw[wrap_u64];show((x.toNat:Nat):Int)%_=_;omega
theorem Y.Ae{x y:Operand}{t u:TypeId}{a b:UInt64}(d:J.op= .binOp .add t x y u)(i:aF l x=some (.int .u64 a.toNat))(hy:aF l y=some (.int .u64 b.toNat)):Y P w0 n l H J (.int .u64 (a+b).toNat):=Y.rN d i hy (HY a b)
theorem Y.Ht{x y:Operand}{t u:TypeId}{a b:UInt64}(d:J.op= .binOp .sub t x y u)(i:aF l x=some (.int .u64 a.toNat))(hy:aF l y=some (.int .u64 b.toNat)):Y P w0 n l H J (.int .u64 (a-b).toNat):=Y.Hu d i hy (Ih a b)
theorem Y.EV{x y:Operand}{t u:TypeId}{a b:UInt64}(d:J.op= .binOp .mul t x y u)(i:aF l x=some (.int .u64 a.toNat))(hy:aF l y=some (.int .u64 b.toNat)):Y P w0 n l H J (.int .u64 (a*b).toNat):=Y.EW d i hy (H6 a b)
def tC(x:UInt64)(j:Nat):UInt64:=UInt64.ofNat (x.toNat*2^j)
def iS(x:UInt64)(j:Nat):UInt64:=UInt64.ofNat (x.toNat/2^j)
theorem tD(x:UInt64)(j:Nat):(iS x j).toNat=x.toNat/2^j:=by
 have:=x.toNat_lt;rw[iS,UInt64.toNat_ofNat'];exact Nat.mod_eq_of_lt (Nat.lt_of_le_of_lt (Nat.div_le_self _ _) this)
theorem Y.Ix{x y:Operand}{t u:TypeId}{a8:IntKind}{a:UInt64}{aD:Int}(j:Nat)(k:J.op= .binOp .shl t x y u)(o:aF l x=some (.int .u64 a.toNat))(hy:aF l y=some (.int a8 aD))(d:aD=j)(i:j≤64):Y P w0 n l H J (.int .u64 (tC a j).toNat):=by
 have h:=Y.shl (P:=P) (w0:=w0) (n:=n) (H:=H) k o hy (by omega);rw[d,Int.toNat_natCast,show min j IntKind.u64.bits=j from Nat.min_eq_left i]at h;rw[show IntKind.u64.wrap ((a.toNat:Int)*2^j)=((tC a j).toNat:Int)by rw[tC,←zJ];congr 1]at h;exact h
theorem Y.pj{x y:Operand}{t u:TypeId}{a8:IntKind}{a:UInt64}{aD:Int}(j:Nat)(k:J.op= .binOp .shr t x y u)(o:aF l x=some (.int .u64 a.toNat))(hy:aF l y=some (.int a8 aD))(d:aD=j)(i:j≤64):Y P w0 n l H J (.int .u64 (iS a j).toNat):=by
 have h:=Y.shr (P:=P) (w0:=w0) (n:=n) (H:=H) k o hy (by omega);rw[d,Int.toNat_natCast,show min j IntKind.u64.bits=j from Nat.min_eq_left i]at h
 rw[show(a.toNat:Int).fdiv (2^j)=((iS a j).toNat:Int)by
  rw[tD,Int.fdiv_eq_ediv_of_nonneg _ (by exact Int.le_of_lt (Int.pow_pos (by decide)))];simp]at h
 exact h
theorem Y.Al{x y:Operand}{t u:TypeId}{a b:UInt64}(d:J.op= .binOp .and t x y u)(i:aF l x=some (.int .u64 a.toNat))(hy:aF l y=some (.int .u64 b.toNat)):Y P w0 n l H J (.int .u64 (a&&&b).toNat):=
 Y.bits .and _ d i hy (by simp) (fun w=>by
  simp only[Op.intBits,zG];show(pure (Value.int .u64 (IntKind.u64.wrap ((a&&&b).toBitVec.toNat:Int))):Sem Value).run P w=_;rw[zF];rfl)
theorem Y.FG{x y:Operand}{t u:TypeId}{a b:UInt64}(d:J.op= .binOp .or t x y u)(i:aF l x=some (.int .u64 a.toNat))(hy:aF l y=some (.int .u64 b.toNat)):Y P w0 n l H J (.int .u64 (a|||b).toNat):=
 Y.bits .or _ d i hy (by simp) (fun w=>by
  simp only[Op.intBits,zG];show(pure (Value.int .u64 (IntKind.u64.wrap ((a|||b).toBitVec.toNat:Int))):Sem Value).run P w=_;rw[zF];rfl)
theorem Y.hA{x:Operand}{s d:TypeId}{k:IntKind}{a:Nat}{ds:TypeDesc}(i:J.op= .convert s d x)(al:∀w,(underlying s).run P w= .ok ds w)(an:∀w,(underlying d).run P w= .ok (.int .u64) w)(j:aF l x=some (.int k a)):Y P w0 n l H J (.int .u64 (UInt64.ofNat a).toNat):=by
 have h:=Y.conv (P:=P) (w0:=w0) (n:=n) (H:=H) i al an j
 rwa[zJ]at h
theorem cg.at{ad:Addr}{cs:List Value}{c:Value}(h:cg H ad cs)(j:Nat)(av:cs[j]?=some c):cg H ⟨ad.block,ad.off+j,none⟩ [c]:=
 ⟨rfl,fun i d an=>by
  match i,an with
  |0,an=>simp only[List.getElem?_cons_zero,Option.some.injEq]at an;subst an;exact h.cells j _ av⟩
theorem Y.oz{x i:Operand}{t e:TypeId}{len:Nat}{k:IntKind}{aD:Int}{ad:Addr}{cs:List Value}(h:cg H ad cs)(j:Nat)(A:J.op= .indexAddr t x i)(B:∀w,(underlying t).run P w= .ok (.array len e) w)(al:∀w,(sizeOf e).run P w= .ok 1 w)
 (C:aF l x=some (.pointer (some ad))) (o:aF l i=some (.int k aD)) (q:aD=j) (r:j<len):Y P w0 n l H J (.pointer (some ⟨ad.block,ad.off+j,none⟩)):=by
 subst q;intro ac w d E;have:=add_eq h.spot j;simp[execOp,A,d.eval C,d.eval o,Instr.indexAt,asIntOf,Instr.sureAddr,B,al,r,this]
theorem eZ {x i : Operand} {t e : TypeId} {len : Nat} {k : IntKind} {aD : Int} {ad : Addr} {cs : List Value} (h : cg H ad cs) (j : Nat) (A : ∀w,(underlying t).run P w= .ok (.array len e) w) (al : ∀w,(sizeOf e).run P w= .ok 1 w) (r : J.op= .indexAddr t x i := by exact rfl) (B : aF l x=some (.pointer (some ad)) := by exact rfl) (d : aF l i=some (.int k aD) := by exact rfl) (o : aD=j := by first|rfl|omega) (q : j<len := by first|omega|(simp;omega)|(simp;done)) : Y P w0 n l H J (.pointer (some ⟨ad.block,ad.off+j,none⟩)) := Y.oz h j r A al B d o q
theorem Y.rR{x i:Operand}{t e:TypeId}{len:Nat}{k:IntKind}{aD:Int}{cs:Array Value}{c:Value}(j:Nat)(B:J.op= .index t x i)(C:∀w,(underlying t).run P w= .ok (.array len e) w)(al:∀w,(sizeOf e).run P w= .ok 1 w)(o:∀w,(isAgg e).run P w= .ok false w)
 (E:aF l x=some (.agg cs)) (q:aF l i=some (.int k aD)) (r:aD=j) (A:j<len) (av:cs[j]?=some c):Y P w0 n l H J c:=by
 subst r;intro ac w d F;simp[execOp,B,d.eval E,d.eval q,Instr.index,asIntOf,C,al,o,A,part,av]
theorem Y.yU{α:Type}{F:Nat→Prop}{f:α→List Value}{x:Operand}{A o:Option Operand}{t e:TypeId}{len:Nat}{ad:Addr}{cs:List Value}{xs:List α}(h:cg H ad cs)(M:F ad.block)(aw:ad.block<H.size)(ae:xs.length=len)(N:∀(i:Nat) (x:α),xs[i]?=some x→cs[i]?=(f x)[0]?∧(f x).length=1)(i j:Nat)
 (I:J.op= .slice t x A o none) (d:∀w,(underlying t).run P w= .ok (.array len e) w∨∃C,(underlying t).run P w= .ok (.pointer C) w∧(underlying C).run P w= .ok (.array len e) w) (al:∀w,(sizeOf e).run P w= .ok 1 w) (L:aF l x=some (.pointer (some ad)))
 (Q:A=none∧i=0∨∃p k aD,A=some p∧aF l p=some (.int k aD)∧aD=(i:Int)) (O:o=none∧j=len∨∃p k aD,o=some p∧aF l p=some (.int k aD)∧aD=(j:Int)) (X:i≤j) (Z:j≤len) (hm:len≤maxLen):
 (∀aa,Y P w0 n l aa J (.slice (some (if len=i then ad else⟨ad.block,ad.off+i,none⟩)) (j-i) (len-i)))∧Rd F H f 1 (.slice (some (if len=i then ad else⟨ad.block,ad.off+i,none⟩)) (j-i) (len-i)) ((xs.take j).drop i):=by
 constructor
 ·intro aa ac w B W
  have aK:∀w,(Instr.sliceBounds false len len (A.map ac.eval) (o.map ac.eval) none).run P w= .ok (i,j,len) w:=by
   intro w
   rcases Q with⟨rfl,rfl⟩|⟨p,k,aD,rfl,E,rfl⟩<;>rcases O with⟨rfl,rfl⟩|⟨ag,a8,af,rfl,V,rfl⟩<;>
    simp[Instr.sliceBounds,Instr.sliceBound,asIntOf,B.eval, *]
  have G:=add_eq h.spot i;rcases d w with d|⟨C,d,T⟩
  ·simp[execOp,I,B.eval L,Instr.sliceAt,Instr.sureAddr,d,al,aK,G]
  ·simp[execOp,I,B.eval L,Instr.sliceAt,Instr.slice,asAddr,d,T,al,aK,G]
 ·have hlen:((xs.take j).drop i).length=j-i:=by simp;omega
  refine⟨_,_,by rw[hlen],by rw[hlen];omega,by omega,fun R=>?_⟩
  have ab:i<j:=by
   apply Decidable.byContradiction;intro av;exact R (List.eq_nil_of_length_eq_zero (by rw[hlen];omega))
  rw[if_neg (by omega)];refine⟨_,rfl,rfl,M,aw,fun q y hy=>⟨rfl,fun r c K=>?_⟩⟩;rw[List.getElem?_drop,List.getElem?_take]at hy;split at hy
  ·obtain⟨E,U⟩:=N (i+q) y hy
   have S:r=0:=by have:=(List.getElem?_eq_some_iff.1 K).1;omega
   subst S;have:=h.cells (i+q) c (by rw[E];exact K)
   simpa[Nat.add_assoc]using this
  ·cases hy
theorem Y.pn{α:Type}{F:Nat→Prop}{f:α→List Value}{x:Operand}{o d:Option Operand}{t e:TypeId}{len:Nat}{ad:Addr}{cs:List Value}{xs:List α}(h:cg H ad cs)(A:F ad.block)(aw:ad.block<H.size)(N:xs.length=len)(B:∀(i:Nat) (x:α),xs[i]?=some x→cs[i]?=(f x)[0]?∧(f x).length=1)(i j:Nat)
 (K:J.op= .slice t x o d none) (L:∀w,(underlying t).run P w= .ok (.array len e) w∨∃q,(underlying t).run P w= .ok (.pointer q) w∧(underlying q).run P w= .ok (.array len e) w) (al:∀w,(sizeOf e).run P w= .ok 1 w) (M:aF l x=some (.pointer (some ad)))
 (I:o=none∧i=0∨∃p k aD,o=some p∧aF l p=some (.int k aD)∧aD=(i:Int)) (C:d=none∧j=len∨∃p k aD,d=some p∧aF l p=some (.int k aD)∧aD=(j:Int)) (E:i≤j) (G:j≤len) (hm:len≤maxLen):
 ∃r,(∀aa,Y P w0 n l aa J r)∧Rd F H f 1 r ((xs.take j).drop i):=
 ⟨_,Y.yU h A aw N B i j K L al M I C E G hm⟩
theorem GI{P:Program}(d:Nat){t e:TypeId}{len:Nat}{k:IntKind}{f:Nat→Int}{xs ys:List Int}(E:P.underlying t=some (.array len e))(he:P.underlying e=some (.int k))(al:∀w,(sizeOf e).run P w= .ok 1 w)(A:∀w,(isAgg e).run P w= .ok false w)(F:xs.length=len)(hy:ys.length=len)(w:World):
 (Op.equalIn (d+2) t (.agg (xs.map (Value.int k)).toArray) (.agg (ys.map (Value.int k)).toArray)).run P w= .ok (decide (xs=ys)) w:=by
 have key:∀(m i:Nat),i+m=len→xs.take i=ys.take i→∀body:Nat→Option Bool×Unit→Sem (ForInStep (Option Bool×Unit)),
  (∀j (o:j<xs.length) (U:j<ys.length) r,(body j r).run P w= .ok (if xs[j]=ys[j]then .yield (none,())else .done (some false,())) w)→
  (forIn (List.range' i m) (none,()) body).run P w= .ok (if xs=ys then(none,())else(some false,())) w:=by
  intro m
  induction m with
  |zero=>
   intro i B n body _;rw[List.take_of_length_le (by omega),List.take_of_length_le (by omega)]at n
   simp[n]
  |succ m ih=>
   intro i B n body aw;rw[List.range'_succ,List.forIn_cons,Sem.run_bind,aw i (by omega) (by omega)];by_cases h:xs[i]'(by omega)=ys[i]'(by omega)
   ·simp only[h,if_true,Result.andThen_ok]
    exact ih (i+1) (by omega) (by rw[List.take_succ_eq_append_getElem (show i<xs.length by omega),List.take_succ_eq_append_getElem (show i<ys.length by omega),n,h]) body aw
   ·have C:xs≠ys:=fun e=>h (by subst e;rfl)
    simp only[h,if_false,Result.andThen_ok,C];rfl
 unfold Op.equalIn;simp only[Sem.run_bind,run_underlying E,Result.andThen_ok,al];rw[Std.Legacy.Range.forIn_eq_forIn_range'];simp only[Std.Legacy.Range.size,Nat.sub_zero,Nat.add_sub_cancel,Nat.div_one];rw[key len 0 (by omega) rfl _ (fun j o U r=>?_)]
 ·by_cases h:xs=ys<;>simp[h,Result.andThen]
 ·have x:∀(zs:List Int) (h:j<zs.length),(part e (zs.map (Value.int k)).toArray (j*1)).run P w= .ok (.int k zs[j]) w:=fun zs h=>by simp[part,A,h]
  have q:(Op.equalIn (d+1) e (.int k xs[j]) (.int k ys[j])).run P w= .ok (xs[j]==ys[j]) w:=run_equalIn_int w d e k k _ _ he;simp only[Sem.run_bind,x xs o,x ys U,Result.andThen_ok,q];by_cases h:xs[j]=ys[j]<;>simp[h]
abbrev sC(l:List UInt8):Value:= .agg (l.map (fun b=>Value.int .u8 b.toNat)).toArray
theorem fV{P:Program}(d:Nat){t e:TypeId}{len:Nat}{xs ys:List UInt8}(n:P.underlying t=some (.array len e))(he:P.underlying e=some (.int .u8))(al:∀w,(sizeOf e).run P w= .ok 1 w)(i:∀w,(isAgg e).run P w= .ok false w)(o:xs.length=len)(hy:ys.length=len)(w:World):
 (Op.equalIn (d+2) t (sC xs) (sC ys)).run P w= .ok (decide (xs=ys)) w:=by
 have h:=GI (P:=P) d (k:= .u8) (f:=fun _=>0) (xs:=xs.map (fun b=>(b.toNat:Int))) (ys:=ys.map (fun b=>(b.toNat:Int))) n he al i (by simpa using o) (by simpa using hy) w;rw[List.map_map,List.map_map]at h
 have j:(xs.map (fun b=>(b.toNat:Int))=ys.map (fun b=>(b.toNat:Int)))↔xs=ys:=
  ⟨fun e=>(List.map_inj_right (fun a b h=>UInt8.toNat_inj.1 (by omega))).1 e,fun e=>by rw[e]⟩
 rw[decide_eq_decide.2 j]at h;exact h
end
section
variable {P : Program} {w0 : World} {n : Nat} {l : bZ} {H : Heap} {J : Oper}
theorem Z.copy{α:Type}{F:Nat→Prop}{f:α→List Value}{d x:Operand}{t t2 e A:TypeId}{b off o L:Nat}{u:Value}{cs:List Value}{ys:List α}(K:Var e H b cs)(G:Rd F H f 1 u ys)(C:∀x,(f x).length=1)(ab:∀x,∀u∈f x,u.oneCell'=true)(Y:J.op= .call {callee:= .builtin .copy,args:= #[d,x],argTypes:= #[t,t2]})
 (af:P.underlying t=some (.slice A)) (al:∀w,(sizeOf A).run P w= .ok 1 w) (an:aF l d=some (.slice (some ⟨b,off,none⟩) o L)) (ag:aF l x=some u) (ah:off+o≤cs.length) (k:Nat) (T:k=min ys.length o):
 Z P w0 n l H J (fun r aa=>r= .int .i64 k∧Var e aa b (ed cs off ((ys.take k).flatMap f))∧W (fun g=>g=b) H aa):=by
 intro a w B i;obtain⟨M,Q,R⟩:=id K.row;have hlen:((ys.take k).flatMap f).length=k:=by rw[length_flatMap C,Nat.mul_one,List.length_take];omega
 have N:∀c∈(ys.take k).flatMap f,c.oneCell'=true:=by
  intro c av;obtain⟨y,_,hy⟩:=List.mem_flatMap.1 av;exact ab y c hy
 obtain⟨ad,cap,rfl,_,_,O⟩:=id G.ex;have V:Nat.min ys.length o=k:=T.symm
 have S:(Builtin.firstCells 1 k (.slice ad ys.length cap)).run P w= .ok ((ys.take k).flatMap f).toArray w:=by
  cases ad with
  |none=>
   have q:ys=[]:=by
    apply Decidable.byContradiction;intro X;obtain⟨ad,aA,_⟩:=O X;cases aA
   subst q
   simp[Builtin.firstCells]
  |some ad=>
   have ae:=G.lA C rfl i
   exact run_firstCells_some (P:=P) w 1 k ad ys.length cap _ (by rw[hlen,Nat.mul_one]) (fun j v E=>ae j v (by
    have q:ys.flatMap f=(ys.take k).flatMap f++(ys.drop k).flatMap f:=by rw[←List.flatMap_append,List.take_append_drop]
    rw[q,List.getElem?_append_left (List.getElem?_eq_some_iff.1 E).1];exact E))
 have I:=m4 P b off e M ((ys.take k).flatMap f) 0 cs.toArray w (by rw[i.heap];exact Q) R (by rw[hlen];simp;omega) N;simp only[Nat.add_zero]at I;refine⟨_,_,w.setRow b (ed cs off ((ys.take k).flatMap f)).toArray,?_,i.row _ _,rfl,⟨q4 i K.row (by simp[ed,hlen];omega)⟩,ph i _ _⟩;simp[execOp,Y,B.eval an,B.eval ag,resolve,invoke,builtin,Builtin.copy_,run_underlying af,Builtin.lenOf,al,V,S,I,ed,goInt]
end
section
variable {P : Program} {w0 : World} {H : Heap} {n : Nat} {l : bZ}
theorem yG{ty:TypeId}{ad:Addr}{cs:List Value}{k:Nat}{w:World}(d:At w0 H w)(h:cg H ad cs)(n:∀w,(isAgg ty).run P w= .ok true w)(al:∀w,(sizeOf ty).run P w= .ok k w)(i:cs.length=k):(loadVar ty ad).run P w= .ok (.agg cs.toArray) w:=by
 have:=run_loadCellsFrom (P:=P) (w:=w) h.spot k 0 cs #[] i (fun j c e=>by rw[d.cell];simpa using h.cells j c e);simp[loadVar,n,al,loadCells,this]
theorem j6{fn:Func}{p:Nat}{ty:TypeId}{ad:Addr}{cs:List Value}{k:Nat}(h:fn.results= #[.cell p ty])(e:cL l p=some (.pointer (some ad)))(q:cg H ad cs)(r:∀w,(isAgg ty).run P w= .ok true w)(al:∀w,(sizeOf ty).run P w= .ok k w)(o:cs.length=k):
 ∀a w,Fr n l a→At w0 H w→(results fn a.tmps).run P w= .ok (.agg cs.toArray) w:=by
 intro a w j i;have d:=j.get p _ e;have U:=yG (P:=P) i q r al o;simp only[results,h];simp[d,asAddr,U]
theorem yt{fn:Func}{p u:Nat}{ty:TypeId}{ad:Addr}{cs:List Value}{k:Nat}{v:Value}(h:fn.results= #[.cell p ty,.tmp u])(e:cL l p=some (.pointer (some ad)))(t:cg H ad cs)(x:∀w,(isAgg ty).run P w= .ok true w)(al:∀w,(sizeOf ty).run P w= .ok k w)(r:cs.length=k)(i:cL l u=some v):
 ∀a w,Fr n l a→At w0 H w→(results fn a.tmps).run P w= .ok (.tuple #[.agg cs.toArray,v]) w:=by
 intro a w d q;have j:=d.get p _ e;have o:=d.get u _ i;have U:=yG (P:=P) q t x al r;simp only[results,h];simp[j,o,asAddr,U]
end
end E

namespace E
def ff(P:Program)(w0:World)(v:Value)(args:List Value)(H:Heap)(i:Value→Heap→Prop):Prop:=
 ∃f caps,v= .func (.func f) #[] caps∧(∀(d:Array Value) (w:World),(callFunc f d).run P w= .ok (.enter f d) w)∧aC P w0 f (args.toArray++caps) H i
section
variable {P : Program} {w0 : World} {Q : Exit → Act → World → Prop} {n : Nat} {l : bZ} {H : Heap} {ops : Array Oper} {rest : List Oper} {J : Oper}
theorem ff.of{f:FuncId}{caps:List Value}{args:List Value}{d:Value→Heap→Prop}(j:∀(i:Array Value) (w:World),(callFunc f i).run P w= .ok (.enter f i) w)(h:aC P w0 f (args++caps).toArray H d):ff P w0 (.func (.func f) #[] caps.toArray) args H d:=
 ⟨f,caps.toArray,rfl,j,by simpa using h⟩
theorem o.kk{k:Value→Heap→Prop}{d:Nat}{c:Operand}{dr:Value}{args:List Operand}{t:Array TypeId}{i:List Value}(G:J.op= .call {callee:= .value c,args:=args.toArray,argTypes:=t})
 (F:aF l c=some dr) (K:gI l args=some i) (hw:c5 ops l J) (an:J.dst=some d) (aA:Nat.blt d n=true) (av:ff P w0 dr i H k)
 (h:∀v aa,k v aa→o false P w0 ops Q n ((d,v)::l) rest aa):o false P w0 ops Q n l (J::rest) H:=by
 intro a w j A;simp only[jr];obtain⟨f,caps,rfl,C,E⟩:=av
 have I:(execOp a.eval J).run P w= .ok (.enter f (i.toArray++caps)) w:=by
  have U:=j.jR K;have M:(args.toArray.map a.eval)=i.toArray:=by rw[List.map_toArray,U]
  simp[execOp,G,resolve,Deferred.ofValue,j.eval F,invoke,C,U]
 unfold wpList;rw[if_pos (hw n a j)];refine .inl ?_;unfold Oper.wp;rw[I];show Calls P f (i.toArray++caps) w _;refine(E w A).mono ?_;rintro e L ⟨r,aa,rfl,B,x⟩;have q:=j.put aA r;rw[←an]at q;exact h r aa x _ L q B
theorem Y.makeFunc{f:FuncId}{caps:List Operand}{d:List Value}(j:J.op= .makeFunc (.func f) #[] caps.toArray)(k:gI l caps=some d):Y P w0 n l H J (.func (.func f) #[] d.toArray):=by
 intro a w i o;have U:=i.jR k;simp[execOp,j,Instr.makeFunc,U]
theorem Y.k2{x y:Operand}{t u:TypeId}{a8:IntKind}{a:Nat}{aD:Int}(j:Nat)(k:J.op= .binOp .shl t x y u)(o:aF l x=some (.int .i64 a))(hy:aF l y=some (.int a8 aD))(d:aD=j)(i:j≤64)(aw:a*2^j≤9223372036854775807):Y P w0 n l H J (.int .i64 ((a*2^j:Nat):Int)):=by
 have h:=Y.shl (P:=P) (w0:=w0) (n:=n) (H:=H) k o hy (by omega);rw[d,Int.toNat_natCast,show min j IntKind.i64.bits=j from Nat.min_eq_left i]at h;rw[show((a:Int)*2^j)=((a*2^j:Nat):Int)by simp,IntWalk.i64_in _ (by omega)]at h;exact h
theorem Y.p6{x:Operand}{s d:TypeId}{b:UInt8}{ds:TypeDesc}(i:J.op= .convert s d x)(al:∀w,(underlying s).run P w= .ok ds w)(an:∀w,(underlying d).run P w= .ok (.int .i64) w)(j:aF l x=some (.int .u8 b.toNat)):Y P w0 n l H J (.int .i64 (b.toNat:Nat)):=
 Y.vN i al an j (IntWalk.i64_in _ (by have:=b.toNat_lt;omega))
theorem xX{a:Nat}(h:a≤9223372036854775807):(BitVec.ofInt IntKind.i64.bits (a:Int)).toNat=a:=by
 show(BitVec.ofInt 64 (a:Int)).toNat=a;rw[BitVec.toNat_ofInt];omega
theorem Y.jy{x y:Operand}{t u:TypeId}{a b:Nat}(i:J.op= .binOp .or t x y u)(j:aF l x=some (.int .i64 a))(hy:aF l y=some (.int .i64 b))(d:a≤9223372036854775807)(U:b≤9223372036854775807):Y P w0 n l H J (.int .i64 ((a|||b:Nat):Int)):=by
 refine Y.bits .or _ i j hy (by simp) (fun w=>?_);have k:a|||b<2^63:=Nat.or_lt_two_pow (by omega) (by omega)
 have e:(BitVec.ofInt IntKind.i64.bits (a:Int)|||BitVec.ofInt IntKind.i64.bits (b:Int)).toNat=a|||b:=by
  rw[BitVec.toNat_or,xX d,xX U]
 show(pure (Value.int .i64 (IntKind.i64.wrap ((BitVec.ofInt IntKind.i64.bits (a:Int)|||BitVec.ofInt IntKind.i64.bits (b:Int)).toNat:Int))):Sem Value).run P w=_;rw[e,IntWalk.i64_in _ (by omega)];rfl
end
end E

namespace E
open Go.MapKept
abbrev cY:={l:List UInt8//l.length=32}
def b7(x:cY):List Value:=x.1.map (fun b=>Value.int .u8 b.toNat)
def bq(x:cY):Value:= .agg (b7 x).toArray
theorem bB:∀x,(b7 x).length=32:=fun x=>by simp[b7,x.2]
theorem jS:∀x,∀u∈b7 x,u.oneCell'=true:=fun x u hu=>by
 obtain⟨b,_,rfl⟩:=List.mem_map.1 hu;rfl
theorem rk(x:cY):bq x=sC x.1:=rfl
def bz:cY:=⟨List.replicate 32 0,by simp⟩
instance:Inhabited cY:=⟨bz⟩
theorem bytes_inj{xs ys:List UInt8}(h:xs.map (fun b=>Value.int .u8 (b.toNat:Int))=ys.map (fun b=>Value.int .u8 (b.toNat:Int))):xs=ys:=by
 refine(List.map_inj_right (fun a b h=>?_)).1 h;simp only[Value.int.injEq,true_and]at h;exact UInt8.toNat_inj.1 (by omega)
theorem HW{x y:cY}(h:bq x=bq y):x=y:=by
 unfold bq b7 at h;simp only[Value.agg.injEq]at h;exact Subtype.ext (bytes_inj (by simpa using congrArg Array.toList h))
theorem o7{α β:Type}{f:α→β}:∀{l:List α},(l.map f).Nodup→∀{x y:α},x∈l→y∈l→f x=f y→x=y
 |[],_,_,_,h,_,_=>by cases h
 |a::l,aA,x,y,j,hy,e=>by
  simp only[List.map_cons,List.nodup_cons]at aA;rcases List.mem_cons.1 j with rfl|d<;>rcases List.mem_cons.1 hy with rfl|i
  ·rfl
  ·exact(aA.1 (List.mem_map.2 ⟨y,i,e.symm⟩)).elim
  ·exact(aA.1 (List.mem_map.2 ⟨x,d,e⟩)).elim
  ·exact o7 aA.2 d i e
structure nf {κ:Type} [DecidableEq κ] (P:Program) (e6:TypeId) (a7:κ→Value):Prop where
 HU:∃len e,P.underlying e6=some (.array len e)
 check:∀em k w,(Instr.checkKey em 10000 e6 (a7 k)).run P w= .ok () w
 eq:∀a b w,(Op.equal e6 (a7 a) (a7 b)).run P w= .ok (decide (a=b)) w
 same:∀k,Instr.sameBits 10000 (a7 k) (a7 k)=true
 inj:∀a b,a7 a=a7 b→a=b
theorem yF{P:Program}{w:World}{α:Type}:∀(l:List α) (body:α→PUnit→Sem (ForInStep PUnit)),(∀a∈l,(body a ()).run P w= .ok (.yield ()) w)→(forIn l () body).run P w= .ok () w
 |[],body,h=>by simp
 |a::l,body,h=>by
  rw[List.forIn_cons,Sem.run_bind,h a (.head _)];simp only[Result.andThen_ok];exact yF l body (fun b aw=>h b (.tail _ aw))
theorem D0{P:Program}{t e:TypeId}(n:P.underlying t=some (.array 32 e))(he:P.underlying e=some (.int .u8))(al:∀w,(sizeOf e).run P w= .ok 1 w)(o:∀w,(isAgg e).run P w= .ok false w):nf P t bq:=by
 refine⟨⟨_,_,n⟩,fun em k w=>?_,fun a b w=>?_,fun k=>?_,fun a b h=>HW h⟩
 ·show(Instr.checkKey em (9999+1) t (bq k)).run P w=_
  unfold Instr.checkKey bq;simp only[Sem.run_bind,run_underlying n,Result.andThen_ok];rw[Std.Legacy.Range.forIn_eq_forIn_range'];refine(congrArg (fun r=>Result.andThen r _) (yF _ _ (fun i q=>?_))).trans rfl
  have d:i<32:=by
   simp[Std.Legacy.Range.size]at q;omega
  have j:=bB k;have A:(part e (b7 k).toArray (i*1)).run P w= .ok ((b7 k)[i]'(by rw[j];exact d)) w:=by simp[part,o,j,d]
  have B:∀b:UInt8,(Instr.checkKey em (9998+1) e (Value.int .u8 b.toNat)).run P w= .ok () w:=by
   intro b;unfold Instr.checkKey;simp[run_underlying he]
  have C:(b7 k)[i]'(by rw[j];exact d)=Value.int .u8 ((k.1[i]'(by rw[k.2];exact d)).toNat:Int):=by simp[b7]
  simp only[Sem.run_bind,al,A,C,Result.andThen_ok];rw[B];simp
 ·have h:=fV (P:=P) (Op.maxDepth-2) (xs:=a.1) (ys:=b.1) n he al o a.2 b.2 w
  rw[show decide (a=b)=decide (a.1=b.1)from decide_eq_decide.2 Subtype.ext_iff];exact h
 ·unfold bq
  show Instr.sameBits (9999+1) _ _=true;unfold Instr.sameBits;simp only[beq_self_eq_true,Bool.true_and,List.all_eq_true];intro p x;obtain⟨i,E,U⟩:=List.mem_iff_getElem.1 x;rw[List.getElem_zip]at U;subst U;simp[b7,Instr.sameBits]
section
variable {P : Program} {w0 : World} {n : Nat} {l : bZ} {H : Heap} {J : Oper}
variable {κ β : Type} [DecidableEq κ] {aR : Nat → Prop} {a7 : κ → Value} {fv : β → Value} {v : Value} {m : List (κ × β)} {e6 : TypeId} {b : Nat}
theorem wE{k:κ}{w:World}(r:nf P e6 a7):∀(es:List MapEntry) (m:List (κ×β)) (i:Nat),es.map (fun e=>(e.key,e.val))=m.map (fun p=>(a7 p.1,fv p.2))→
 (aM m k=none∧(Instr.findAsking e6 (a7 k) es i).run P w= .ok none w∧∀x∈es,x.key≠a7 k)∨∃j e b,aM m k=some b∧(Instr.findAsking e6 (a7 k) es i).run P w= .ok (some (i+j,fv b)) w∧es[j]?=some e∧e.key=a7 k∧e.val=fv b
 |[],m,i,h=>by
  have:m=[]:=by cases m<;>simp_all
  subst this
  exact .inl ⟨rfl,by simp[Instr.findAsking],by simp⟩
 |e::es,m,i,h=>by
  match m,h with
  |(a,c)::m,h=>
   simp only[List.map_cons,List.cons.injEq,Prod.mk.injEq]at h;obtain⟨⟨o,U⟩,G⟩:=h;have d:=r.eq k a w;rw[←o]at d;by_cases n:k=a
   ·subst n
    simp only[decide_true]at d;exact .inr ⟨0,e,c,by simp[aM],by simp[Instr.findAsking,d,U],rfl,o,U⟩
   ·simp only[n,decide_false]at d
    rcases wE (k:=k) (w:=w) r es m (i+1) G with⟨A,B,C⟩|⟨j,F,E,A,B,C,H,I⟩
    ·refine .inl ⟨?_,by simp[Instr.findAsking,d,B],?_⟩
     ·simp only[aM,n,if_false];exact A
     ·intro x t
      cases t with
      |head=>intro q;exact n (r.inj _ _ (by rw[←q,o]))
      |tail _ t=>exact C x t
    ·refine .inr ⟨j+1,F,E,?_,?_,by simpa using C,H,I⟩
     ·simp only[aM,n,if_false];exact A
     ·simp[Instr.findAsking,d,B];omega
theorem yE{k:κ}{w:World}(d:nf P e6 a7)(es:List MapEntry):(Instr.findKey e6 (a7 k) es).run P w=(Instr.findAsking e6 (a7 k) es 0).run P w:=by
 obtain⟨len,e,hu⟩:=d.HU
 cases es with
 |nil=>simp[Instr.findKey,run_underlying hu,Instr.findNow,Instr.findAsking]
 |cons x es=>
  have:Instr.findNow (.array len e) (a7 k) (x::es) 0=none:=by
   unfold Instr.findNow Instr.sameNow;rfl
  simp[Instr.findKey,run_underlying hu,this]
theorem GO{k:κ}{w:World}(d:nf P e6 a7):(Instr.keyThatStays (a7 k) (a7 k)).run P w= .ok (a7 k) w:=by
 simp[Instr.keyThatStays,d.same]
theorem kt{r:Nat}(i:Obj):W (fun c=>c=r) H (H.setIfInBounds r i):=⟨by simp,fun b aw d=>by simp[Ne.symm d]⟩
theorem xE{k:κ}{b:β}{key:Value}(r:∀a b,a7 a=a7 b→a=b)(t:key=a7 k):∀(es:List MapEntry) (m:List (κ×β)) (j:Nat) (e:MapEntry),es.map (fun e=>(e.key,e.val))=m.map (fun p=>(a7 p.1,fv p.2))→(es.map (·.key)).Nodup→es[j]?=some e→e.key=a7 k→
 (es.modify j (fun e=>{e with key:=key,val:=fv b})).map (fun e=>(e.key,e.val))=(m.map (fun p=>if p.1=k then(p.1,b)else p)).map (fun p=>(a7 p.1,fv p.2))
 |[],_,_,_,_,_,h,_=>by simp at h
 |x::es,m,j,e,h,aA,d,he=>by
  match m,h with
  |(a,c)::m,h=>
   simp only[List.map_cons,List.cons.injEq,Prod.mk.injEq]at h;obtain⟨⟨i,U⟩,n⟩:=h;simp only[List.map_cons,List.nodup_cons]at aA
   cases j with
   |zero=>
    simp only[List.getElem?_cons_zero,Option.some.injEq]at d;subst d;have o:a=k:=r _ _ (by rw[←i,he]);subst o;simp only[List.modify_zero_cons,List.map_cons,if_true,t];congr 1;rw[n,List.map_map];apply List.map_congr_left;intro p B
    have:p.1≠a:=by
     intro e;apply aA.1;have:(a7 p.1,fv p.2)∈es.map (fun e=>(e.key,e.val)):=by rw[n];exact List.mem_map.2 ⟨p,B,rfl⟩
     obtain⟨y,hy,A⟩:=List.mem_map.1 this;simp only[Prod.mk.injEq]at A;exact List.mem_map.2 ⟨y,hy,by rw[A.1,e,i]⟩
    simp[this]
   |succ j=>
    simp only[List.getElem?_cons_succ]at d
    have o:a≠k:=by
     intro q;subst q;apply aA.1;rw[i,←he];exact List.mem_map.2 ⟨e,List.mem_of_getElem? d,rfl⟩
    simp only[List.modify_succ_cons,List.map_cons,o,if_false,i,U];rw[xE r t es m j e n aA.2 d he]
theorem S.yh{t V:TypeId}{x i y:Operand}{k:κ}(z:β)(h:df H a7 fv b m)(d:nf P e6 a7)(R:J.op= .mapUpdate t x i y)(hm:∀w,(underlying t).run P w= .ok (.map e6 V) w)
 (T:aF l x=some (.map (some b))) (O:aF l i=some (a7 k)) (hy:aF l y=some (fv z)):S P w0 n l H J (fun aa=>df aa a7 fv b (fN m k z)∧W (fun c=>c=b) H aa):=by
 intro ac w o q;obtain⟨r,es,clock,ab,U,M,C,E⟩:=h.fo.ex;obtain rfl:=U;have A:w.heap[r]?=some (.map es clock):=by rw[q.heap];exact M
 have Y:=(Array.getElem?_eq_some_iff.1 M).1;have N:∀F,(H.setIfInBounds r F)[r]?=some F:=fun F=>by simp[Y]
 rcases wE (k:=k) (w:=w) d es.toList m 0 E with⟨G,I,B⟩|⟨j,L,Z,G,I,B,K,ae⟩
 ·refine⟨H.setIfInBounds r (.map (es.push {key:=a7 k,val:=fv z,born:=clock}) (clock+1)),{w with heap:=H.setIfInBounds r (.map (es.push {key:=a7 k,val:=fv z,born:=clock}) (clock+1))},?_,q.set,⟨⟨r,_,_,rfl,rfl,N _,stamped_push C B,?_⟩⟩,kt _⟩
  ·simp[execOp,R,o.eval T,o.eval O,o.eval hy,Instr.mapUpdate,hm,MapKept.run_getObj_map A,d.check,yE d,I,MapKept.run_setObj_map _ A,q.heap]
  ·simp[fN,G,E]
 ·have Q:es[j]?=some L:=by simpa using B
  have X:∀e,es[j]?=some e→({e with key:=a7 k,val:=fv z}:MapEntry).key=e.key:=fun e he=>by rw[Q]at he;cases he;exact K.symm
  refine⟨H.setIfInBounds r (.map (es.modify j fun e=>{e with key:=a7 k,val:=fv z}) clock),{w with heap:=H.setIfInBounds r (.map (es.modify j fun e=>{e with key:=a7 k,val:=fv z}) clock)},?_,q.set,⟨⟨r,_,_,rfl,rfl,N _,stamped_modify C _ _ (fun _ _=>rfl) (fun e _ he=>X e he),?_⟩⟩,kt _⟩
  ·simp[execOp,R,o.eval T,o.eval O,o.eval hy,Instr.mapUpdate,hm,MapKept.run_getObj_map A,d.check,yE d,I,Q,K,GO d,MapKept.run_setObj_map _ A,q.heap]
  ·have:=xE (fv:=fv) (b:=z) d.inj rfl es.toList m j L E C.2.2 B K
   rw[Array.toList_modify,this];simp[fN,G]
def ea(m:List (κ×β))(k:κ):List (κ×β):=m.filter (fun p=>decide (p.1≠k))
theorem jg(m:List (κ×β))(k q:κ):aM (ea m k) q=if q=k then none else aM m q:=by
 induction m with
 |nil=>simp[ea,aM]
 |cons p m ih=>
  unfold ea at ih⊢;by_cases i:p.1=k
  ·rw[List.filter_cons_of_neg (by simp[i]),ih]
   by_cases d:q=k
   ·simp[d]
   ·rw[if_neg d,if_neg d];simp only[aM];rw[if_neg (fun e=>d (e.trans i))]
  ·rw[List.filter_cons_of_pos (by simp[i])]
   simp only[aM];by_cases d:q=p.1
   ·rw[if_pos d,if_pos d,if_neg (fun e=>i (d.symm.trans e))]
   ·rw[if_neg d,if_neg d,ih]
theorem o2{m:List (κ×β)}{k:κ}{z:β}(h:aM m k=some z):(k,z)∈m:=by
 induction m with
 |nil=>cases h
 |cons p m ih=>
  simp only[aM]at h;split at h
  ·rename_i e;cases h;rw[e];exact .head _
  ·exact .tail _ (ih h)
theorem xu{m:List (κ×β)}{k:κ}(h:aM m k=none):∀p∈m,p.1≠k:=by
 induction m with
 |nil=>simp
 |cons p m ih=>
  simp only[aM]at h;split at h
  ·cases h
  ·rename_i i
   intro q d e
   cases d with
   |head=>exact i e.symm
   |tail _ d=>exact ih h q d e
theorem l5{m:List (κ×β)}(aA:(m.map (·.1)).Nodup){k:κ}{z:β}(h:(k,z)∈m):aM m k=some z:=by
 induction m with
 |nil=>cases h
 |cons p m ih=>
  simp only[List.map_cons,List.nodup_cons]at aA;simp only[aM]
  cases h with
  |head=>simp
  |tail _ h=>
   rw[if_neg ?_]
   ·exact ih aA.2 h
   ·intro e
    exact aA.1 (List.mem_map.2 ⟨(k,z),h,e⟩)
theorem gQ{m:List (κ×β)}{k:κ}:(aM m k).isSome=true↔k∈m.map (·.1):=by
 constructor
 ·intro h
  obtain⟨z,j⟩:=Option.isSome_iff_exists.1 h;exact List.mem_map.2 ⟨_,o2 j,rfl⟩
 ·intro h
  obtain⟨p,i,e⟩:=List.mem_map.1 h
  cases d:aM m k with
  |some z=>rfl
  |none=>exact absurd e (xu d p i)
theorem wo{k:κ}(r:∀a b,a7 a=a7 b→a=b):∀(es:List MapEntry) (m:List (κ×β)) (j:Nat) (e:MapEntry),es.map (fun e=>(e.key,e.val))=m.map (fun p=>(a7 p.1,fv p.2))→(es.map (·.key)).Nodup→es[j]?=some e→e.key=a7 k→
 (es.eraseIdx j).map (fun e=>(e.key,e.val))=(ea m k).map (fun p=>(a7 p.1,fv p.2))
 |[],_,_,_,_,_,h,_=>by simp at h
 |x::es,m,j,e,h,aA,d,he=>by
  match m,h with
  |(a,c)::m,h=>
   simp only[List.map_cons,List.cons.injEq,Prod.mk.injEq]at h;obtain⟨⟨i,U⟩,n⟩:=h;simp only[List.map_cons,List.nodup_cons]at aA
   cases j with
   |zero=>
    simp only[List.getElem?_cons_zero,Option.some.injEq]at d;subst d;have o:a=k:=r _ _ (by rw[←i,he]);subst o
    have hm:ea ((a,c)::m) a=m:=by
     unfold ea;rw[List.filter_cons_of_neg (by simp)];apply List.filter_eq_self.2;intro p A;simp only[decide_eq_true_eq];intro e;apply aA.1;have:(a7 p.1,fv p.2)∈es.map (fun e=>(e.key,e.val)):=by rw[n];exact List.mem_map.2 ⟨p,A,rfl⟩
     obtain⟨y,hy,t⟩:=List.mem_map.1 this;simp only[Prod.mk.injEq]at t;exact List.mem_map.2 ⟨y,hy,by rw[t.1,e,i]⟩
    rw[hm]
    simpa using n
   |succ j=>
    simp only[List.getElem?_cons_succ]at d
    have o:a≠k:=by
     intro q;subst q;apply aA.1;rw[i,←he];exact List.mem_map.2 ⟨e,List.mem_of_getElem? d,rfl⟩
    have hm:ea ((a,c)::m) k=(a,c)::ea m k:=by
     unfold ea;rw[List.filter_cons_of_pos (by simp[o])]
    rw[hm];simp only[List.eraseIdx_cons_succ,List.map_cons,i,U];rw[wo r es m j e n aA.2 d he]
theorem df.le(h:df H a7 fv b m):b+1≤H.size:=h.lt
structure hF (H:Heap) (a7:κ→Value) (fv:β→Value) (b:Nat) (m:List (κ×β)) (es:Array MapEntry) (clock:Nat):Prop where
 at_:H[b]?=some (.map es clock)
 st:Stamped es clock
 eq:es.toList.map (fun e=>(e.key,e.val))=m.map (fun p=>(a7 p.1,fv p.2))
theorem df.raw(h:df H a7 fv b m):∃es clock,hF H a7 fv b m es clock:=by
 obtain⟨r,es,clock,k,U,d,i,j⟩:=h.fo.ex;obtain rfl:=U;exact⟨es,clock,d,i,j⟩
section
variable {es : Array MapEntry} {clock : Nat} {aa : Heap}
theorem hF.mp(h:hF H a7 fv b m es clock):df H a7 fv b m:=⟨⟨b,es,clock,rfl,rfl,h.at_,h.st,h.eq⟩⟩
theorem hF.lt(h:hF H a7 fv b m es clock):b<H.size:=h.mp.lt
theorem hF.up{S:Nat→Prop}(h:hF H a7 fv b m es clock)(s:W S H aa)(d:¬S b):hF aa a7 fv b m es clock:=⟨by rw[s.same b h.lt d];exact h.at_,h.st,h.eq⟩
theorem hF.M(h:hF H a7 fv b m es clock)(s:aj H aa):hF aa a7 fv b m es clock:=h.up s (fun e=>e)
theorem hF.ab{ks:List Nat}(h:hF H a7 fv b m es clock)(s:W (aE ks) H aa)(d:ah (b+1) ks):hF aa a7 fv b m es clock:=h.up s (fun U=>d (b+1) U b rfl rfl)
theorem hF.fo(h:hF H a7 fv b m es clock):ht (fun x=>x=b) H a7 fv (.map (some b)) m:=h.mp.fo
end
structure hS (H:Heap) (b r:Nat) (a7:κ→Value) (es:Array MapEntry) (clock:Nat) (dn:List κ):Prop where
 ex:∃hr:List MapEntry,H[b]?=some (.mapIter (some r) clock (hr.map (·.born)).toArray clock)∧(∀e∈hr,e∈es.toList)∧hr.map (·.key)=dn.map a7
section
variable {es : Array MapEntry} {clock r : Nat} {aa : Heap} {dn : List κ}
theorem hS.lt(h:hS H b r a7 es clock dn):b<H.size:=by
 obtain⟨hr,d,_⟩:=h.ex;exact(Array.getElem?_eq_some_iff.1 d).1
theorem hS.up{S:Nat→Prop}(h:hS H b r a7 es clock dn)(s:W S H aa)(i:¬S b):hS aa b r a7 es clock dn:=by
 obtain⟨hr,d,U⟩:=h.ex;exact⟨hr,by rw[s.same b h.lt i];exact d,U⟩
theorem hS.M(h:hS H b r a7 es clock dn)(s:aj H aa):hS aa b r a7 es clock dn:=h.up s (fun e=>e)
theorem hS.ab{ks:List Nat}(h:hS H b r a7 es clock dn)(s:W (aE ks) H aa)(d:ah (b+1) ks):hS aa b r a7 es clock dn:=h.up s (fun U=>d (b+1) U b rfl rfl)
theorem Z.tn{t i:TypeId}{x:Operand}(h:hF H a7 fv b m es clock)(o:J.op= .range t x)(hm:∀w,(underlying t).run P w= .ok (.map e6 i) w)(q:aF l x=some (.map (some b))):
 Z P w0 n l H J (fun v aa=>v= .pointer (some ⟨H.size,0,none⟩)∧hS aa H.size b a7 es clock ([]:List κ)∧aj H aa∧∃r,aa=H.push r):=by
 intro ac w k d;have j:w.heap[b]?=some (.map es clock):=by rw[d.heap];exact h.at_
 refine⟨.pointer (some ⟨w.heap.size,0,none⟩),H.push (.mapIter (some b) clock #[] clock),w.alloc (.mapIter (some b) clock #[] clock),?_,d.alloc _,by rw[d.heap],⟨[],by simp,by simp,rfl⟩,aj.pu _ _,_,rfl⟩;simp[execOp,o,k.eval q,Instr.range,hm,MapKept.run_getObj_map j]
def mY(q:Bool)(a c:Value):Value:= .tuple (if q then #[.bool true,a,c]else #[.bool false])
theorem Y.sk{x:Operand}{q:Bool}{a c:Value}(i:J.op= .extract x 0)(j:aF l x=some (mY q a c)):Y P w0 n l H J (.bool q):=by
 intro ac w d k;cases q<;>simp[execOp,i,d.eval j,mY,Instr.extract]
theorem yQ(n:∀a b,a7 a=a7 b→a=b){m:List (κ×β)}{hr:List MapEntry}(al:Stamped es clock)(j:∀e∈hr,e∈es.toList)(an:hr.map (·.key)=dn.map a7){e:MapEntry}(he:e∈es.toList){a:κ}(i:e.key=a7 a):e.born∈hr.map (·.born)↔a∈dn:=by
 have q:∀x∈es.toList,∀y∈es.toList,x.born=y.born→x=y:=fun x d y hy aw=>o7 al.2.1 d hy aw;have r:∀x∈es.toList,∀y∈es.toList,x.key=y.key→x=y:=fun x d y hy aw=>o7 al.2.2 d hy aw;constructor
 ·intro h
  obtain⟨y,hy,aw⟩:=List.mem_map.1 h;have:=q y (j y hy) e he aw;subst this;have U:y.key∈dn.map a7:=by rw[←an];exact List.mem_map.2 ⟨y,hy,rfl⟩
  obtain⟨c,av,k⟩:=List.mem_map.1 U;rw[n _ _ (i.symm.trans k.symm)];exact av
 ·intro h
  have U:a7 a∈hr.map (·.key):=by rw[an];exact List.mem_map.2 ⟨a,h,rfl⟩
  obtain⟨y,hy,o⟩:=List.mem_map.1 U;have:=r y (j y hy) e he (o.trans i.symm);subst this;exact List.mem_map.2 ⟨y,hy,rfl⟩
theorem Z.s8{x:Operand}[Inhabited κ][Inhabited β](h:hS H b r a7 es clock dn)(d:hF H a7 fv r m es clock)(K:∀a b,a7 a=a7 b→a=b)(M:J.op= .next x false)(i:aF l x=some (.pointer (some ⟨b,0,none⟩))):
 Z P w0 n l H J (fun v aa=>∃(q:Bool) (a:κ) (c:β) (o:List κ),v=mY q (a7 a) (fv c)∧hS aa b r a7 es clock o∧(q=true→(a,c)∈m∧a∉dn∧o=dn++[a])∧(q=false→(∀p∈m,p.1∈dn)∧o=dn)∧W (fun g=>g=b) H aa):=by
 intro ac w I j;obtain⟨hr,N,U,t⟩:=h.ex;have O:w.heap[b]?=some (.mapIter (some r) clock (hr.map (·.born)).toArray clock):=by rw[j.heap];exact N
 have V:w.heap[r]?=some (.map es clock):=by rw[j.heap];exact d.at_
 have hold:∀x∈es.toList,x.born<clock:=d.st.1;have T:=h.lt
 have ae:∀e∈es.toList,∃a c,(a,c)∈m∧e.key=a7 a∧e.val=fv c:=by
  intro e he;have:(e.key,e.val)∈m.map (fun p=>(a7 p.1,fv p.2)):=by rw[←d.eq];exact List.mem_map.2 ⟨e,he,rfl⟩
  obtain⟨p,C,E⟩:=List.mem_map.1 this;simp only[Prod.mk.injEq]at E;exact⟨p.1,p.2,C,E.1.symm,E.2.symm⟩
 rcases run_next_at (P:=P) w J.type b r clock clock _ es clock O V hold (Nat.le_refl _)with⟨S,F⟩|⟨e,he,ao,Y,F⟩
 ·refine⟨.tuple #[.bool false],H,w,by simp[execOp,M,I.eval i,F],j,false,default,default,dn,rfl,h,by simp,fun _=>⟨fun p C=>?_,rfl⟩,W.refl _ _⟩
  have:(a7 p.1,fv p.2)∈es.toList.map (fun e=>(e.key,e.val)):=by rw[d.eq];exact List.mem_map.2 ⟨p,C,rfl⟩
  obtain⟨e,he,G⟩:=List.mem_map.1 this;simp only[Prod.mk.injEq]at G;have al:=all_seen es _ S e he;refine(yQ (m:=m) K d.st U t he G.1).1 ?_
  simpa using al
 ·obtain⟨A,L⟩:=mem_left he
  obtain⟨a,c,Q,B,X⟩:=ae e A
  have k:At w0 H ao:=by
   rcases Y with rfl|rfl
   ·exact j
   ·exact j.drew
  refine⟨.tuple #[.bool true,e.key,e.val],H.setIfInBounds b (.mapIter (some r) clock ((hr.map (·.born)).toArray.push e.born) clock),_,by simp[execOp,M,I.eval i,F];rfl,?_,true,a,c,dn++[a],by rw[B,X];rfl,⟨hr++[e],?_,?_,?_⟩,fun _=>⟨Q,?_,rfl⟩,by simp,kt _⟩
  ·exact⟨by simp[ChangeMaps.setBlock,k.heap],k.os,k.tape,k.output,k.fJ⟩
  ·simp[T]
  ·intro x i
   rcases List.mem_append.1 i with h|h
   ·exact U x h
   ·simp only[List.mem_singleton]at h;subst h;exact A
  ·simp[t,B]
  ·intro R
   have:=(yQ (m:=m) K d.st U t A B).2 R;simp at L;simp at this;obtain⟨x,i,ab⟩:=this;exact L x i ab
theorem Y.sj{x:Operand}{a:κ}{c:β}(h:hS H b r a7 es clock (dn++[a]))(i:hF H a7 fv r m es clock)(R:∀a b,a7 a=a7 b→a=b)(E:(a,c)∈m)(N:J.op= .entry x)(d:aF l x=some (.pointer (some ⟨b,0,none⟩))):Y P w0 n l H J (.tuple #[a7 a,fv c]):=by
 intro ac w I q;obtain⟨hr,B,U,o⟩:=h.ex;have C:w.heap[b]?=some (.mapIter (some r) clock (hr.map (·.born)).toArray clock):=by rw[q.heap];exact B
 have L:w.heap[r]?=some (.map es clock):=by rw[q.heap];exact i.at_
 have M:hr≠[]:=by intro e;subst e;simp at o
 obtain⟨e,he⟩:∃e,hr.getLast?=some e:=by
  rw[List.getLast?_eq_some_getLast M];exact⟨_,rfl⟩
 have G:e∈hr:=List.mem_of_getLast? he
 have t:e.key=a7 a:=by
  have:=congrArg List.getLast? o
  simpa[he]using this
 have j:=U e G;have F:(hr.map (·.born)).toArray.back?=some e.born:=by simp[he]
 have K:es.find? (fun x=>x.born==e.born)=some e:=by
  rw[←Array.find?_toList]
  obtain⟨x,d⟩:∃x,es.toList.find? (fun x=>x.born==e.born)=some x:=by
   rw[←Option.isSome_iff_exists,List.find?_isSome];exact⟨e,j,by simp⟩
  have Q:=List.mem_of_find?_eq_some d;have A:=List.find?_some d;simp only[beq_iff_eq]at A;rw[d,o7 i.st.2.1 Q j A]
 have O:e.val=fv c:=by
  have:(a7 a,fv c)∈es.toList.map (fun e=>(e.key,e.val)):=by rw[i.eq];exact List.mem_map.2 ⟨_,E,rfl⟩
  obtain⟨y,hy,k⟩:=List.mem_map.1 this;simp only[Prod.mk.injEq]at k;have:=o7 i.st.2.2 hy j (k.1.trans t.symm);rw[←this];exact k.2
 simp[execOp,N,I.eval d,Instr.entry,getObj,Sem.run,C,L,F,K,t,O]
end
end
section
variable {P : Program} {w0 : World} {n : Nat} {l : bZ} {H : Heap} {J : Oper}
end
section
variable {P : Program} {w0 : World} {Q : Exit → Act → World → Prop} {n : Nat} {l : bZ} {H : Heap} {ops : Array Oper} {rest : List Oper} {J : Oper}
end
section
variable {P : Program} {w0 : World} {Q : Exit → Act → World → Prop} {n k i : Nat} {dn : List Nat} {l : bZ} {H : Heap} {ops : Array Oper} {J : Oper} {bV : Heap → Prop} {X : List Nat}
theorem dq.kk{t:Value→Heap→Prop}{d:Nat}{c:Operand}{dr:Value}{args:List Operand}{B:Array TypeId}{j:List Value}(K:ops[i]?=some J)(L:J.op= .call {callee:= .value c,args:=args.toArray,argTypes:=B})
 (I:aF l c=some dr) (N:gI l args=some j) (hw:c5 ops l J) (an:J.dst=some d) (aA:Nat.blt d n=true) (av:ff P w0 dr j H t)
 (h:∀v aa,t v aa→(X.contains i=true∨bV aa)∧O P w0 ops Q bV X n k (i::dn) ((d,v)::l) aa):dq P w0 ops Q bV X n k i dn l H:=by
 intro a w o E;obtain⟨f,caps,rfl,F,G⟩:=av
 have M:(execOp a.eval J).run P w= .ok (.enter f (j.toArray++caps)) w:=by
  have U:=o.jR N;have S:(args.toArray.map a.eval)=j.toArray:=by rw[List.map_toArray,U]
  simp[execOp,L,resolve,Deferred.ofValue,o.eval I,invoke,F,U]
 unfold wpOp;simp only[K];rw[if_pos (hw n a o)];refine .inl ?_;unfold Oper.wp;rw[M];show Calls P f (j.toArray++caps) w _;refine(G w E).mono ?_;rintro e R ⟨r,aa,rfl,x,C⟩;obtain⟨q,U⟩:=h r aa C;have A:=o.put aA r;rw[←an]at A;exact⟨q.imp id (fun q=>⟨aa,x,q⟩),U _ R A x⟩
end
end E

namespace E
section
variable {P : Program} {w0 : World} {n : Nat} {l : bZ} {H : Heap} {J : Oper}
theorem yC{F:Nat→Prop}{v:Value}{xs:List UInt8}(h:Rd F H a1 1 v xs){w:World}(o:At w0 H w):(Extern.Bytes.bytesOf v).run P w= .ok ⟨xs.toArray⟩ w:=by
 obtain⟨ad,cap,rfl,_,_,n⟩:=id h.ex
 cases ad with
 |none=>
  have t:xs=[]:=by
   apply Decidable.byContradiction;intro q;obtain⟨ad,aA,_⟩:=n q;cases aA
  subst t
  rfl
 |some ad=>
  have r:=h.lA eE rfl o
  have i:=Lib.run_loadBytesX (P:=P) w (xs.map (fun b=>(b.toNat:Int))) ad .empty (fun j x d=>by
   apply r;rw[oO];rw[List.getElem?_map]at d⊢
   cases k:xs[j]? with
   |none=>simp[k]at d
   |some y=>simp[k]at d⊢;exact d)
  rw[AU,List.length_map]at i
  have he:(⟨ByteArray.empty.data++xs.toArray⟩:ByteArray)=⟨xs.toArray⟩:=by
   apply ByteArray.ext;show(#[]:Array UInt8)++xs.toArray=xs.toArray;simp
  rw[he]at i;exact i
theorem Y.compare{F aR:Nat→Prop}{f:FuncId}{fn:Func}{args:List Operand}{i:Array TypeId}{u v:Value}{xs ys:List UInt8}(h:Rd F H a1 1 u xs)(U:Rd aR H a1 1 v ys)(q:J.op= .call {callee:= .value (.func f),args:=args.toArray,argTypes:=i})(k:P.funcs[f]?=some fn)
 (o:(fn.name== "runtime.NumGoroutine")=false) (aw:fn.body.isNone=true) (aA:Extern.findNext fn=none) (he:Extern.find fn=some Extern.BytealgCompare.compare) (r:gI l args=some [u,v]):Y P w0 n l H J (.int .i64 (Lib.compareBytes xs ys)):=by
 refine Y.ext q k o aw aA he r (fun w d=>?_);have aK:=yC (P:=P) h d;have j:=yC (P:=P) U d;change Sem.run P (do pure (goInt (Extern.BytealgCompare.cmp (←Extern.Bytes.bytesOf u) (←Extern.Bytes.bytesOf v)))) w=_;simp only[Sem.run_bind,aK,j,Sem.run_pure,Result.andThen];rw[Lib.cmp_eq];rfl
end
end E

namespace E
section
variable {h k gk : Nat} {ks : List Nat} {aR F : Nat → Prop} {I H aa : Heap}
theorem T.z{a:Nat}(x:T 0 h k):T a h k:=by unfold T at*;omega
end
section
variable {κ β : Type} [DecidableEq κ] {a7 : κ → Value} {fv : β → Value} {b m r : Nat} {l : List (κ × β)} {es : Array MapEntry} {clock : Nat} {dn : List κ} {H aa : Heap}
end
section
variable {κ α : Type} {aR : Nat → Prop} {e : TypeId} {H aa : Heap} {f : α → List Value} {sz : Nat} {val : κ → Value} {dU : κ → List α} {ks : List Nat}
end
end E

namespace E
abbrev mn(ro:Option Nat):Fence:={Fence.wide with round:=ro}
structure hh (H:Heap) (b:Nat) (r:Loop):Prop where
 at_:H[b]?=some (.loop r)
structure iX (H:Heap) (b:Nat):Prop where
 at_:H[b]?=some (.deferred (some []))
section
variable {H aa : Heap} {b : Nat} {r : Loop} {ks : List Nat}
theorem hh.lt(h:hh H b r):b<H.size:=(Array.getElem?_eq_some_iff.1 h.at_).1
theorem hh.up{S:Nat→Prop}(h:hh H b r)(s:W S H aa)(d:¬S b):hh aa b r:=⟨by rw[s.same b h.lt d];exact h.at_⟩
theorem hh.M(h:hh H b r)(s:aj H aa):hh aa b r:=h.up s (fun e=>e)
theorem hh.ab(h:hh H b r)(s:W (aE ks) H aa)(d:ah (b+1) ks):hh aa b r:=h.up s (fun U=>d (b+1) U b rfl rfl)
theorem iX.lt(h:iX H b):b<H.size:=(Array.getElem?_eq_some_iff.1 h.at_).1
theorem iX.up{S:Nat→Prop}(h:iX H b)(s:W S H aa)(d:¬S b):iX aa b:=⟨by rw[s.same b h.lt d];exact h.at_⟩
theorem iX.M(h:iX H b)(s:aj H aa):iX aa b:=h.up s (fun e=>e)
theorem iX.ab(h:iX H b)(s:W (aE ks) H aa)(d:ah (b+1) ks):iX aa b:=h.up s (fun U=>d (b+1) U b rfl rfl)
end
theorem Var.le{e:TypeId}{H:Heap}{b:Nat}{cs:List Value}(h:Var e H b cs):b+1≤H.size:=h.lt
def e0(ro:Option Nat)(P:Program)(w0:World)(ops:Array Oper)(Q:Exit→Act→World→Prop)(n:Nat)(l:bZ)(rest:List Oper)(H:Heap):Prop:=
 ∀a w,Fr n l a→At w0 H w→wpListIn (mn ro) 0 P ops Q rest a w
def ot(P:Program)(w0:World)(bg:Nat)(args:List Value)(H:Heap)(d:Value→Heap→Prop):Prop:=
 ∀w,At w0 H w→YieldAt (mn none) 0 P bg args.toArray w (fun e i=>∃r aa,e= .returned r∧At w0 aa i∧d r aa)
section
variable {ro : Option Nat} {P : Program} {w0 : World} {Q : Exit → Act → World → Prop} {n : Nat} {l : bZ} {H : Heap} {ops : Array Oper} {rest : List Oper} {J : Oper}
theorem e0.nil(h:aP w0 Q n l H):e0 ro P w0 ops Q n l [] H:=fun a w i d=>h a w i d
theorem e0.v{v:Value}{d:Nat}(hy:Y P w0 n l H J v)(o:∀c,J.op≠ .defer c)(hw:c5 ops l J)(an:J.dst=some d)(aA:Nat.blt d n=true)(h:e0 ro P w0 ops Q n ((d,v)::l) rest H):e0 ro P w0 ops Q n l (J::rest) H:=by
 intro a w i j;have k:=i.put aA v;rw[←an]at k;unfold wpListIn;rw[if_pos (hw n a i)];refine⟨fun _ _=>trivial,?_⟩;rw[Oper.semAt_eq _ _ _ o,hy a w i j];exact h _ w k j
theorem e0.z{R:Value→Heap→Prop}{d:Nat}(x:Z P w0 n l H J R)(r:∀c,J.op≠ .defer c)(hw:c5 ops l J)(an:J.dst=some d)(aA:Nat.blt d n=true)(h:∀v aa,R v aa→e0 ro P w0 ops Q n ((d,v)::l) rest aa):e0 ro P w0 ops Q n l (J::rest) H:=by
 intro a w i o;obtain⟨v,aa,A,t,q,k⟩:=x a w i o;have j:=i.put aA v;rw[←an]at j;unfold wpListIn;rw[if_pos (hw n a i)];refine⟨fun _ _=>trivial,?_⟩;rw[Oper.semAt_eq _ _ _ r,t];exact h v aa k _ A j q
theorem e0.s{i:Heap→Prop}(x:S P w0 n l H J i)(r:∀c,J.op≠ .defer c)(hw:c5 ops l J)(an:J.dst=none)(h:∀aa,i aa→e0 ro P w0 ops Q n l rest aa):e0 ro P w0 ops Q n l (J::rest) H:=by
 intro a w d o;obtain⟨aa,j,t,q,k⟩:=x a w d o;unfold wpListIn;rw[if_pos (hw n a d)];refine⟨fun _ _=>trivial,?_⟩;rw[Oper.semAt_eq _ _ _ r,t];show wpListIn (mn ro) 0 P ops Q rest (a.put J.dst undef) j;rw[an];exact h aa k a j d q
theorem e0.round{k:Value→Heap→Prop}{d bg:Nat}{c:Operand}{args:List Operand}{x:Array TypeId}{j:List Value}(o:J.op= .call {callee:= .value c,args:=args.toArray,argTypes:=x})
 (E:aF l c=some (.func (.yield bg) #[] #[])) (G:gI l args=some j) (hw:c5 ops l J) (an:J.dst=some d) (aA:Nat.blt d n=true) (av:ot P w0 bg j H k)
 (h:∀v aa,k v aa→e0 none P w0 ops Q n ((d,v)::l) rest aa):e0 none P w0 ops Q n l (J::rest) H:=by
 intro a w i B;obtain⟨fn,tmps,assign,body,hy,F⟩:=av w B
 have he:(execOp a.eval J).run P w= .ok (.round bg fn tmps assign body) w:=by
  have U:=i.jR G;have K:(args.toArray.map a.eval)=j.toArray:=by rw[List.map_toArray,U]
  simp[execOp,o,resolve,Deferred.ofValue,i.eval E,invoke,U,hy]
 unfold wpListIn;rw[if_pos (hw n a i)];refine⟨fun _ _=>trivial,?_⟩;rw[Oper.semAt_eq _ _ _ (by intro c e;rw[o]at e;cases e),he,Oper.uponIn_round];refine⟨fun q=>(by cases q),?_⟩;refine F.mono ?_;rintro e I ⟨r,aa,rfl,C,A⟩;have t:=i.put aA r;rw[←an]at t;exact h r aa A _ I t C
theorem G.Gf{id:Nat}{d:List Oper}(h:e0 none P w0 d.toArray Q n l d H):G P w0 Q n l (.region id d.toArray false) H:=
 fun a w j i=>wpIn_wide.1 (wpIn_region_lit (h a w j i))
theorem e0.mono{i:Exit→Act→World→Prop}(o:∀e a w,Q e a w→i e a w){id:Nat}{d:List Oper}(h:e0 ro P w0 d.toArray Q n l d H){a:Act}{w:World}(k:Fr n l a)(j:At w0 H w):(Code.region id d.toArray false).wpIn (mn ro) 0 P i a w:=
 Code.wpIn_mono o (wpIn_region_lit (h a w k j))
theorem ot.of{r:Loop}{x:Value}{p bg Y Z aa:Nat}{t aY:List Oper}{B:Value→Heap→Prop}(Q:hh H bg r)(o:r.state= .ready)(E:r.pending=none)(G:r.params= #[p])(I:r.assign= .region Y t.toArray false)(K:r.body= .block Z (.region aa aY.toArray false))
 (N:Fr n l {tmps:=r.tmps.setIfInBounds p x,defers:=[]})
 (h:e0 (some bg) P w0 t.toArray (fun e b2 ao=>e= .normal∧∃q d,Fr n q b2∧At w0 d ao∧hh d bg r∧
  e0 (some bg) P w0 aY.toArray (fun e a3 A=>e= .normal∧∃i,At w0 i A∧hh i bg {r with state:= .busy}∧B (.bool true) (i.setIfInBounds bg (.loop r))) n q aY (d.setIfInBounds bg (.loop {r with state:= .busy}))) n l t H):
 ot P w0 bg [x] H B:=by
 intro w C;have T:w.heap[bg]?=some (.loop r):=by rw[C.heap];exact Q.at_
 refine⟨r.fn,r.tmps.setIfInBounds p x,r.assign,r.body,?_,?_⟩
 ·have:=run_yield (P:=P) (args:= #[x]) T (by rw[G];rfl)
  rw[G]at this
  simpa using this
 ·refine roundIn_of_wpIn (F:=mn none) trivial ?_
  rw[I,K];refine e0.mono (ro:=some bg) ?_ h N C;rintro e b2 ao ⟨rfl,q,d,O,j,R,aw⟩;have V:ao.heap[bg]?=some (.loop r):=by rw[j.heap];exact R.at_
  refine⟨_,run_beginRound (P:=P) V o,?_⟩
  have M:At w0 (d.setIfInBounds bg (.loop {r with state:= .busy})) (ao.putObj bg (.loop {r with state:= .busy})):=by
   unfold World.putObj;rw[j.heap];exact j.set
  refine wpIn_block ?_;refine e0.mono (ro:=some bg) ?_ aw O M;rintro e a3 A ⟨rfl,i,k,S,L⟩;have W:A.heap[bg]?=some (.loop {r with state:= .busy}):=by rw[k.heap];exact S.at_
  refine⟨_,_,run_endRound (P:=P) none W,.bool true,i.setIfInBounds bg (.loop r),rfl,?_,L⟩
  have X:({({r with state:= .busy}:Loop)with state:=if(none:Option Code).isNone then .ready else .done,pending:=none}:Loop)=r:=by
   cases r;simp only at o E;subst o E;rfl
  rw[X];unfold World.putObj;rw[k.heap];exact k.set
end
end E

namespace eM
open E Go.RowKit
theorem aC.still{P:Program}{w0:World}{f:FuncId}{args:Array Value}{H:Heap}{v:Value}(h:∀w,At w0 H w→Calls P f args w fun e i=>e= .returned v∧i=w):aC P w0 f args H (fun r j=>r=v∧aj H j):=
 fun w d=>(h w d).mono (fun e i ⟨he,hw⟩=>⟨v,H,he,by rw[hw];exact d,rfl,aj.refl _⟩)
abbrev dY(m:Int)(H:Heap):Prop:=kE (fun b=>b=0) H ⟨0,0,none⟩ [.int .i64 m]
theorem dY.cell{m:Int}{H:Heap}{w0 w:World}(h:dY m H)(d:At w0 H w):w.cell? ⟨0,0,none⟩=some (.int .i64 m):=by
 have:=h.N.cells 0 (.int .i64 m) rfl;rw[d.cell];exact this
theorem sa(s sub:List UInt8)(bk:Int)(w0:World)(I:Heap)(aL:dY bk I)(al:s.length<4294967281):aC Tryz.prog w0 166 #[aI s,aI sub] I (fun r d=>r= .bool (Lib.contains s sub)∧aj I d):=
 aC.still (fun w i=>by
  have h:Calls Tryz.prog 166 #[aI s,aI sub] w fun e j=>e= .returned (.bool (Lib.contains s sub))∧j=w:=Any.strings_Contains Tryz.lays144 ⟨s.toArray⟩ ⟨sub.toArray⟩ bk w (by simpa[ByteArray.size]using al) (aL.cell i);exact h)
def sp(cur:List UInt8):List UInt8→List (List UInt8)
 |[]=>[cur]
 |c::l=>if c=47 then cur::sp [] l else sp (cur++[c]) l
theorem tI:∀(s cur:List UInt8),∃p eW,Lib.splitK [47] 0 (s.count 47) s=p::eW∧sp cur s=(cur++p)::eW
 |[],cur=>⟨[],[],rfl,by simp[sp]⟩
 |c::l,cur=>by
  by_cases h:c=47
  ·subst h
   obtain⟨p,eW,d,U⟩:=tI l [];refine⟨[],p::eW,?_,by rw[sp,if_pos rfl,U];simp⟩;have q:Lib.index (47::l) [47]=0:=by simp[Lib.index]
   rw[List.count_cons_self,Lib.splitK,q]
   simpa using d
  ·obtain⟨p,eW,d,U⟩:=tI l (cur++[c])
   refine⟨c::p,eW,?_,by rw[sp,if_neg h,U];simp⟩;have av:(c::l).count 47=l.count 47:=by rw[List.count_cons];simp[h]
   rw[av];have A:((47:UInt8)==c)=false:=by simpa using fun e:(47:UInt8)=c=>h e.symm
   have x:([47]:List UInt8).isPrefixOf (c::l)=false:=by rw[List.isPrefixOf,A];rfl
   cases o:l.count 47 with
   |zero=>rw[o,Lib.splitK]at d;obtain⟨rfl,rfl⟩:=List.cons.inj d;rfl
   |succ k=>
    rw[o,Lib.splitK]at d;rw[Lib.splitK,Lib.index,x];by_cases hm:Lib.index l [47]= -1
    ·simp[hm]at d⊢;exact d
    ·obtain⟨j,i⟩:∃j:Nat,Lib.index l [47]=j:=by
      have:=Lib.index_ge l [47];exact⟨(Lib.index l [47]).toNat,by omega⟩
     have n:¬((j:Int)= -1):=by omega
     have r:¬((j:Int)+1= -1):=by omega
     have t:((j:Int)+1).toNat=j+1:=by omega
     simp[i,n]at d;simp[i,n,r,t,d]
theorem Hf(s:List UInt8):Lib.splitK [47] 0 (s.count 47) s=sp [] s:=by
 obtain⟨p,eW,d,U⟩:=tI s [];rw[d,U];simp
theorem wy:∀l:List ByteArray,l.map Value.string=(l.map (·.data.toList)).flatMap gg
 |[]=>rfl
 |x::l=>by
  have e:Value.string x=aI x.data.toList:=by cases x;simp[aI]
  simp[wy l,e]
set_option maxRecDepth 100000 in
theorem DR:(Tryz.prog.info? 9).map (fun i=>(i.zero,i.size,i.bytes))=some (some (.string ByteArray.empty),1,16):=by kernel_rfl
theorem He(s:List UInt8)(bk:Int)(w0:World)(I:Heap)(aL:dY bk I)(al:s.length<4294967281):aC Tryz.prog w0 127 #[aI s,aI [47]] I (fun r j=>∃o:Value,∃n:Nat,r=o∧(aV n 9 j gg 1 o (sp [] s))∧(T 0 I.size n)∧aj I j):=by
 intro w i;have h:Calls Tryz.prog 127 #[aI s,aI [47]] w fun e q=>e= .returned (.slice (some ⟨w.heap.size,0,none⟩) (Lib.countB ⟨s.toArray⟩ ⟨#[47]⟩+1) (Lib.countB ⟨s.toArray⟩ ⟨#[47]⟩+1))∧q=w.alloc (.cells ((Lib.splitB ⟨#[47]⟩ 0 (Lib.countB ⟨s.toArray⟩ ⟨#[47]⟩) ⟨s.toArray⟩).map Value.string).toArray 9):=Any.strings_Split Tryz.lays146 DR ⟨s.toArray⟩ ⟨#[47]⟩ bk w (by simpa[ByteArray.size]using al) (aL.cell i) (by decide);refine h.mono ?_;rintro e q ⟨rfl,rfl⟩;have k:Lib.countB ⟨s.toArray⟩ ⟨#[47]⟩=s.count 47:=by show Lib.count s [47]=_;exact Lib.count_one 47 s
 have d:(Lib.splitB ⟨#[47]⟩ 0 (Lib.countB ⟨s.toArray⟩ ⟨#[47]⟩) ⟨s.toArray⟩).map (·.data.toList)=sp [] s:=by
  rw[Lib.splitB_data,k];exact Hf s
 have hlen:(sp [] s).length=Lib.countB ⟨s.toArray⟩ ⟨#[47]⟩+1:=by
  rw[←d,List.length_map];exact Lib.splitB_all ⟨#[47]⟩ (by decide) 0 _ ⟨s.toArray⟩ rfl
 have bE:=i.heap;have hle:s.count 47≤s.length:=List.count_le_length;refine⟨_,_,rfl,i.alloc _,_,I.size+1,rfl,?_,by unfold T;omega,aj.pu _ _⟩;refine⟨⟨mM,nD,.inr ⟨w.heap.size,Lib.countB ⟨s.toArray⟩ ⟨#[47]⟩+1,((Lib.splitB ⟨#[47]⟩ 0 (Lib.countB ⟨s.toArray⟩ ⟨#[47]⟩) ⟨s.toArray⟩).map Value.string).toArray,by rw[hlen],by rw[bE],.of (by rw[bE];simp),by rw[hlen];exact Nat.le_refl _,by rw[k];unfold maxLen;omega,?_,?_⟩⟩,by simp⟩
 ·rw[List.size_toArray,List.length_map,Nat.mul_one];have:=congrArg List.length d;rw[List.length_map]at this;omega
 ·have:(sp [] s).length*1=((Lib.splitB ⟨#[47]⟩ 0 (Lib.countB ⟨s.toArray⟩ ⟨#[47]⟩) ⟨s.toArray⟩).map Value.string).length:=by
   rw[List.length_map,Nat.mul_one,←d,List.length_map]
  show(List.map Value.string _).take _=_;rw[this,List.take_length,wy,d]
end eM

namespace eP
open E Go.RowKit eM
theorem jv(s:List UInt8)(c:UInt8)(w0:World)(I:Heap):aC Tryz.prog w0 167 #[aI s,.int .u8 c.toNat] I (fun r d=>r= .int .i64 (Lib.indexByte s c)∧aj I d):=
 aC.still (fun w j=>by
  have h:Calls Tryz.prog 167 #[aI s,.int .u8 c.toNat] w fun e i=>e= .returned (.int .i64 (Lib.indexByte s ((c.toNat:Int)).toNat.toUInt8))∧i=w:=Any.strings_IndexByte Tryz.lays137 ⟨s.toArray⟩ c.toNat w;have e:((c.toNat:Int)).toNat.toUInt8=c:=by simp
  rw[e]at h;exact h)
theorem wU(s p:List UInt8)(w0:World)(I:Heap):aC Tryz.prog w0 195 #[aI s,aI p] I (fun r d=>r= .bool (p.isPrefixOf s)∧aj I d):=
 aC.still (fun w j=>by
  have h:Calls Tryz.prog 195 #[aI s,aI p] w fun e i=>e= .returned (.bool (Lib.hasPrefix s p))∧i=w:=Any.strings_HasPrefix Tryz.lays99 ⟨s.toArray⟩ ⟨p.toArray⟩ w;exact h)
theorem ow{α:Type}{l:List α}{p:α→Bool}{j:Nat}(h:(l.take j).any p=false)(d:j<l.length)(U:p l[j]=false):(l.take (j+1)).any p=false:=by
 rw[List.take_succ_eq_append_getElem d,List.any_append,h];simpa using U
theorem mE{α:Type}{l:List α}{p:α→Bool}{j:Nat}(d:j<l.length)(h:p l[j]=true):l.any p=true:=List.any_eq_true.2 ⟨l[j],List.getElem_mem d,h⟩
def cv(c:UInt8):Bool:=decide ((97≤c.toNat∧c.toNat≤122)∨(65≤c.toNat∧c.toNat≤90)∨(48≤c.toNat∧c.toNat≤57)∨c.toNat=46∨c.toNat=95∨c.toNat=45∨c.toNat=47)
theorem dh{c:UInt8}(h:(97≤c.toNat∧c.toNat≤122)∨(65≤c.toNat∧c.toNat≤90)∨(48≤c.toNat∧c.toNat≤57)∨c.toNat=46∨c.toNat=95∨c.toNat=45∨c.toNat=47):Value.bool true= .bool (cv c):=by rw[cv,decide_eq_true h]
theorem ew{c:UInt8}(h:¬((97≤c.toNat∧c.toNat≤122)∨(65≤c.toNat∧c.toNat≤90)∨(48≤c.toNat∧c.toNat≤57)∨c.toNat=46∨c.toNat=95∨c.toNat=45∨c.toNat=47)):Value.bool false= .bool (cv c):=by rw[cv,decide_eq_false h]
theorem lZ(c:UInt8):0≤Lib.indexByte [46,95,45,47] c↔(c.toNat=46∨c.toNat=95∨c.toNat=45∨c.toNat=47):=by
 have h:∀n:Fin 256,(decide (0≤Lib.indexByte [46,95,45,47] (UInt8.ofNat n.val))=decide (n.val=46∨n.val=95∨n.val=45∨n.val=47)):=by decide+kernel
 have:=h ⟨c.toNat,c.toNat_lt⟩;simp only[UInt8.ofNat_toNat]at this;exact decide_eq_decide.1 this
def kx(s:List UInt8):Bool:=decide (s≠[]∧(s.getD 0 0).toNat≠46∧(s.getD 0 0).toNat≠45∧(s.getD (s.length-1) 0).toNat≠46)&& !Lib.contains s [46,46]
theorem iB{l:List UInt8}{i:Nat}(h:i<l.length):l.getD i 0=l[i]:=by simp[List.getD,h]
theorem FR{s:List UInt8}(h:s≠[]∧(s.getD 0 0).toNat≠46∧(s.getD 0 0).toNat≠45∧(s.getD (s.length-1) 0).toNat≠46):Value.bool (!Lib.contains s [46,46])= .bool (kx s):=by rw[kx,decide_eq_true h,Bool.true_and]
theorem qU{s:List UInt8}(h:¬(s≠[]∧(s.getD 0 0).toNat≠46∧(s.getD 0 0).toNat≠45∧(s.getD (s.length-1) 0).toNat≠46)):Value.bool false= .bool (kx s):=by rw[kx,decide_eq_false h,Bool.false_and]
def c6(s:List UInt8):Int:=if s.length>60∨(s.any (fun c=> !cv c))=true then 7 else if(sp [] s).any (fun p=> !kx p)=true then 7 else 0
theorem tG:∀{s cur x:List UInt8},x∈sp cur s→x.length≤cur.length+s.length
 |[],cur,x,h=>by simp[sp]at h;subst h;simp
 |c::l,cur,x,h=>by
  rw[sp]at h;split at h
  ·rcases List.mem_cons.1 h with h|h
   ·subst h;omega
   ·have:=tG h;simp only[List.length_nil,List.length_cons]at*;omega
  ·have:=tG h;simp only[List.length_append,List.length_cons,List.length_nil]at*;omega
theorem G2(c:UInt8)(w0:World)(I:Heap)
 :
 aC Tryz.prog w0 125 #[.int .u8 c.toNat] I (fun r ae=>r= .bool (cv c)∧aj I ae):=by
 refine aC.aK [.int .u8 c.toNat] Tryz.func125 ?_;intro aO q;have i:aj I I:=W.refl _ _;refine G.L (fun af=>?_);refine o.ak ?_;refine af (G.t2 (fun t E=>G.aB (fun _ x F=>G.t2 (fun au A=>G.aB (fun N M B=>G.aB (fun ag a5 ad=>G.aB (fun _ a9 ac=>G.t2 (fun C am=>G.t2 (fun Q aN=>G.L (fun V=>?_))))))))));refine o.V ?_;refine o.v1 dJ ?_;refine o.V ?_;refine o.bj (d:=6) rfl (fun g6=>?_) (fun g6=>?_)
 ·
  refine o.bU ?_;refine o.ao eK ?_;refine o.aQ 2 ?_;refine V ?_;refine aU (fun dE=>?_) (fun dE=>?_)
  ·
   refine G.exit (aN (am (a9 ?_)));refine ag (N (au (G.t2 (fun _ ah=>G.L (fun ai=>?_)))));refine o.ak ?_;refine ai ?_;refine G.ret (ah (F (E (q ?_))));exact⟨by first|exact dh (by omega)|(rw[cv];exact c1 (by rw[k];omega)),i⟩
  ·
   refine G.skip (Q (G.t2 (fun X ak=>G.L (fun Y=>?_))));refine o.V ?_;refine o.v1 dJ ?_;refine o.V ?_;refine o.bj (d:=13) rfl (fun O=>?_) (fun O=>?_)
   ·
    refine o.bU ?_;refine o.ao eK ?_;refine o.aQ 2 ?_;refine Y ?_;refine aU (fun P=>?_) (fun P=>?_)
    ·
     refine G.exit (ak (am (ac (a5 ?_))));refine N (au (G.t2 (fun _ al=>G.L (fun aq=>?_))));refine o.ak ?_;refine aq ?_;refine G.ret (al (F (E (q ?_))));exact⟨by first|exact dh (by omega)|(rw[cv];exact c1 (by rw[k];omega)),i⟩
    ·
     refine G.skip (X (G.L (fun Z=>?_)));refine o.V ?_;refine o.v1 dJ ?_;refine o.V ?_;refine o.bj (d:=20) rfl (fun H=>?_) (fun H=>?_)
     ·
      refine o.bU ?_;refine o.ao eK ?_;refine o.aQ 2 ?_;refine Z ?_;refine aU (fun ap=>?_) (fun ap=>?_)
      ·
       refine G.exit (am (ac (ad (M ?_))));refine au (G.t2 (fun _ ar=>G.L (fun ay=>?_)));refine o.ak ?_;refine ay ?_;refine G.ret (ar (F (E (q ?_))));exact⟨by first|exact dh (by omega)|(rw[cv];exact c1 (by rw[k];omega)),i⟩
      ·
       refine G.skip (C ?_);refine G.exit (ac (ad (B (A (x ?_)))));refine t (G.L (fun az=>?_));refine o.V ?_;refine aW jO (jv [46,95,45,47] c w0 _) (fun K L n=>?_);obtain⟨rfl,j⟩:=n;replace i:=i.L j;have aP:=j.size;have k:=lZ c;refine o.v1 dJ ?_;refine o.ak ?_;refine az ?_;refine G.ret (q ?_);exact⟨by first|exact dh (by omega)|(rw[cv];exact c1 (by rw[k];omega)),i⟩
     ·
      refine o.aQ 4 ?_;refine Z ?_;refine dw ?_;refine G.skip (C ?_);refine G.exit (ac (ad (B (A (x ?_)))));refine t (G.L (fun aA=>?_));refine o.V ?_;refine aW jO (jv [46,95,45,47] c w0 _) (fun K L n=>?_);obtain⟨rfl,j⟩:=n;replace i:=i.L j;have aQ:=j.size;have k:=lZ c;refine o.v1 dJ ?_;refine o.ak ?_;refine aA ?_;refine G.ret (q ?_);exact⟨by first|exact dh (by omega)|(rw[cv];exact c1 (by rw[k];omega)),i⟩
   ·
    refine o.aQ 4 ?_;refine Y ?_;refine dw ?_;refine G.skip (X (G.L (fun aa=>?_)));refine o.V ?_;refine o.v1 dJ ?_;refine o.V ?_;refine o.bj (d:=20) rfl (fun H=>?_) (fun H=>?_)
    ·
     refine o.bU ?_;refine o.ao eK ?_;refine o.aQ 2 ?_;refine aa ?_;refine aU (fun ap=>?_) (fun ap=>?_)
     ·
      refine G.exit (am (ac (ad (M ?_))));refine au (G.t2 (fun _ aB=>G.L (fun aD=>?_)));refine o.ak ?_;refine aD ?_;refine G.ret (aB (F (E (q ?_))));exact⟨by first|exact dh (by omega)|(rw[cv];exact c1 (by rw[k];omega)),i⟩
     ·
      refine G.skip (C ?_);refine G.exit (ac (ad (B (A (x ?_)))));refine t (G.L (fun aE=>?_));refine o.V ?_;refine aW jO (jv [46,95,45,47] c w0 _) (fun K L n=>?_);obtain⟨rfl,j⟩:=n;replace i:=i.L j;have aR:=j.size;have k:=lZ c;refine o.v1 dJ ?_;refine o.ak ?_;refine aE ?_;refine G.ret (q ?_);exact⟨by first|exact dh (by omega)|(rw[cv];exact c1 (by rw[k];omega)),i⟩
    ·
     refine o.aQ 4 ?_;refine aa ?_;refine dw ?_;refine G.skip (C ?_);refine G.exit (ac (ad (B (A (x ?_)))));refine t (G.L (fun aF=>?_));refine o.V ?_;refine aW jO (jv [46,95,45,47] c w0 _) (fun K L n=>?_);obtain⟨rfl,j⟩:=n;replace i:=i.L j;have bT:=j.size;have k:=lZ c;refine o.v1 dJ ?_;refine o.ak ?_;refine aF ?_;refine G.ret (q ?_);exact⟨by first|exact dh (by omega)|(rw[cv];exact c1 (by rw[k];omega)),i⟩
 ·
  refine o.aQ 4 ?_;refine V ?_;refine dw ?_;refine G.skip (Q (G.t2 (fun ab aH=>G.L (fun R=>?_))));refine o.V ?_;refine o.v1 dJ ?_;refine o.V ?_;refine o.bj (d:=13) rfl (fun O=>?_) (fun O=>?_)
  ·
   refine o.bU ?_;refine o.ao eK ?_;refine o.aQ 2 ?_;refine R ?_;refine aU (fun P=>?_) (fun P=>?_)
   ·
    refine G.exit (aH (am (ac (a5 ?_))));refine N (au (G.t2 (fun _ aI=>G.L (fun aJ=>?_))));refine o.ak ?_;refine aJ ?_;refine G.ret (aI (F (E (q ?_))));exact⟨by first|exact dh (by omega)|(rw[cv];exact c1 (by rw[k];omega)),i⟩
   ·
    refine G.skip (ab (G.L (fun S=>?_)));refine o.V ?_;refine o.v1 dJ ?_;refine o.V ?_;refine o.bj (d:=20) rfl (fun H=>?_) (fun H=>?_)
    ·
     refine o.bU ?_;refine o.ao eK ?_;refine o.aQ 2 ?_;refine S ?_;refine aU (fun ap=>?_) (fun ap=>?_)
     ·
      refine G.exit (am (ac (ad (M ?_))));refine au (G.t2 (fun _ aK=>G.L (fun aL=>?_)));refine o.ak ?_;refine aL ?_;refine G.ret (aK (F (E (q ?_))));exact⟨by first|exact dh (by omega)|(rw[cv];exact c1 (by rw[k];omega)),i⟩
     ·
      refine G.skip (C ?_);refine G.exit (ac (ad (B (A (x ?_)))));refine t (G.L (fun aM=>?_));refine o.V ?_;refine aW jO (jv [46,95,45,47] c w0 _) (fun K L n=>?_);obtain⟨rfl,j⟩:=n;replace i:=i.L j;have be:=j.size;have k:=lZ c;refine o.v1 dJ ?_;refine o.ak ?_;refine aM ?_;refine G.ret (q ?_);exact⟨by first|exact dh (by omega)|(rw[cv];exact c1 (by rw[k];omega)),i⟩
    ·
     refine o.aQ 4 ?_;refine S ?_;refine dw ?_;refine G.skip (C ?_);refine G.exit (ac (ad (B (A (x ?_)))));refine t (G.L (fun a0=>?_));refine o.V ?_;refine aW jO (jv [46,95,45,47] c w0 _) (fun K L n=>?_);obtain⟨rfl,j⟩:=n;replace i:=i.L j;have bY:=j.size;have k:=lZ c;refine o.v1 dJ ?_;refine o.ak ?_;refine a0 ?_;refine G.ret (q ?_);exact⟨by first|exact dh (by omega)|(rw[cv];exact c1 (by rw[k];omega)),i⟩
  ·
   refine o.aQ 4 ?_;refine R ?_;refine dw ?_;refine G.skip (ab (G.L (fun T=>?_)));refine o.V ?_;refine o.v1 dJ ?_;refine o.V ?_;refine o.bj (d:=20) rfl (fun H=>?_) (fun H=>?_)
   ·
    refine o.bU ?_;refine o.ao eK ?_;refine o.aQ 2 ?_;refine T ?_;refine aU (fun ap=>?_) (fun ap=>?_)
    ·
     refine G.exit (am (ac (ad (M ?_))));refine au (G.t2 (fun _ b2=>G.L (fun a2=>?_)));refine o.ak ?_;refine a2 ?_;refine G.ret (b2 (F (E (q ?_))));exact⟨by first|exact dh (by omega)|(rw[cv];exact c1 (by rw[k];omega)),i⟩
    ·
     refine G.skip (C ?_);refine G.exit (ac (ad (B (A (x ?_)))));refine t (G.L (fun a3=>?_));refine o.V ?_;refine aW jO (jv [46,95,45,47] c w0 _) (fun K L n=>?_);obtain⟨rfl,j⟩:=n;replace i:=i.L j;have aS:=j.size;have k:=lZ c;refine o.v1 dJ ?_;refine o.ak ?_;refine a3 ?_;refine G.ret (q ?_);exact⟨by first|exact dh (by omega)|(rw[cv];exact c1 (by rw[k];omega)),i⟩
   ·
    refine o.aQ 4 ?_;refine T ?_;refine dw ?_;refine G.skip (C ?_);refine G.exit (ac (ad (B (A (x ?_)))));refine t (G.L (fun a4=>?_));refine o.V ?_;refine aW jO (jv [46,95,45,47] c w0 _) (fun K L n=>?_);obtain⟨rfl,j⟩:=n;replace i:=i.L j;have aT:=j.size;have k:=lZ c;refine o.v1 dJ ?_;refine o.ak ?_;refine a4 ?_;refine G.ret (q ?_);exact⟨by first|exact dh (by omega)|(rw[cv];exact c1 (by rw[k];omega)),i⟩
theorem Cp(c:UInt8)(w0:World)(I:Heap)
 :
 aC Tryz.prog w0 124 #[.int .u8 c.toNat] I (fun r i=>r= .bool (!cv c)∧aj I i):=by
 refine aC.aK [.int .u8 c.toNat] Tryz.func124 ?_;intro t n;have d:aj I I:=W.refl _ _;refine G.L (fun j=>?_);refine o.ak ?_;refine j (G.L (fun k=>?_));refine o.V ?_;refine aW A9 (G2 c w0 _) ?_;rintro v4 q ⟨rfl,ac⟩;replace d:=d.L ac;refine o.v1 eL ?_;refine o.ak ?_;refine k ?_;refine G.ret (n ?_);exact⟨rfl,d⟩
theorem DM(v cJ:Value)(l:List UInt8)(p:UInt8→Bool)(w0:World)(I:Heap)
 (d:bx I a1 1 v l) (ah:∀(x:UInt8) (aa:Heap),aj I aa→x∈l→ff Tryz.prog w0 cJ [.int .u8 x.toNat] aa (fun r q=>r= .bool (p x)∧aj aa q)):
 aC Tryz.prog w0 190 #[v,cJ] I (fun r q=>∃n:Int,r= .int .i64 n∧((0≤n↔l.any p=true)∧ -1≤n∧n≤9223372036854775807)∧aj I q):=by
 refine aC.aK [v,cJ] Tryz.func190 ?_;intro ak E;have i:aj I I:=W.refl _ _;replace d:=d.bw;have aF:=d.len;refine G.L (fun Q=>?_);refine o.ak ?_;refine Q (G.t2 (fun au am=>G.L (fun R=>?_)));refine o.V ?_;refine o.v1 (bb d dc) ?_;refine o.V (o.nil (R ?_));refine G.aB (fun _ ap S=>?_)
 refine G.bg (fun(j:(Nat))=>[(0,v),(1,cJ),(7,.int .i64 l.length),(8,.int .i64 j)])
  (fun(j:(Nat)) (H:Heap)=>(j≤l.length)∧((l.take j).any p=false)∧aj I H)
  (fun(j:(Nat))=>l.length-j) 0 ⟨rfl,rfl,rfl,rfl,trivial⟩ ?_ ?_
 ·
  exact⟨(by omega),rfl,W.refl _ _⟩
 intro j aq T ai V C;obtain⟨aE,B,k⟩:=T;replace d:=d.M k;replace i:=i.L k;have ay:=k.size;refine G.L (fun X=>?_);refine o.v1 bJ (o.nil (X ?_));refine G.t2 (fun Z ab=>?_);refine aU (fun ag=>?_) (fun ag=>?_)
 ·
  refine G.skip (Z (G.t2 (fun ae af=>G.aB (fun F _ K=>G.L (fun ac=>?_)))));refine o.aQ 2 ?_;refine ac (G.L (fun M=>?_));refine o.ax 3 ?_;refine o.bR (Y.bL d (j) rfl dc cN rfl rfl) fun al N=>?_;refine o.v1 (ar N.N dS) ?_;refine o.kk rfl rfl rfl cQ rfl rfl (ah l[j] _ i (List.getElem_mem (by omega))) (fun az aA L=>?_);obtain⟨rfl,t⟩:=L;replace i:=i.L t;replace k:=k.L t;have aB:=t.size;refine o.nil (M ?_);refine cK (fun A=>?_) (fun A=>?_)
  ·
   refine G.L (fun O=>?_);refine o.aQ 2 ?_;refine O ?_;refine G.ret (K (af (C (S (am (E ?_))))));exact⟨j,rfl,⟨⟨fun _=>mE (j:=j) (by omega) (by simpa using A),fun _=>by omega⟩,by omega,by omega⟩,i⟩
  ·
   refine G.skip (F (ae (G.region ?_)));refine o.v1 bD ?_;refine o.V (o.nil ?_);refine aP.sub (V (j+1) _ ?_ ?_) ⟨rfl,rfl,(aD (by omega)),(aD (by omega)),trivial⟩
   ·exact⟨(by omega),ow B (by omega) (by simpa using A),k⟩
   ·first|omega|(simp only;omega)|(simp;omega)
 ·
  refine G.exit (ab (C (ap ?_)));refine au (G.L (fun P=>?_));refine o.ak ?_;refine P ?_;refine G.ret (E ?_);exact⟨-1,rfl,⟨⟨fun h=>by omega,fun h=>by rw[List.take_of_length_le (by omega),h]at B;cases B⟩,by omega,by omega⟩,i⟩
theorem CE(v cJ:Value)(l:List UInt8)(p:UInt8→Bool)(w0:World)(I:Heap)
 (d:bx I a1 1 v l) (A:∀(x:UInt8) (aa:Heap),aj I aa→x∈l→ff Tryz.prog w0 cJ [.int .u8 x.toNat] aa (fun r i=>r= .bool (p x)∧aj aa i)):
 aC Tryz.prog w0 123 #[v,cJ] I (fun r i=>r= .bool (l.any p)∧aj I i):=by
 refine aC.aK [v,cJ] Tryz.func123 ?_;intro E B;have j:aj I I:=W.refl _ _;replace d:=d.bw;have F:=d.len;refine G.L (fun q=>?_);refine o.ak ?_;refine q (G.L (fun t=>?_));refine o.ax 2 ?_;refine aW Bx (DM _ cJ l p w0 _ d.any A) ?_;rintro H C ⟨n7,rfl,n,ac⟩;replace j:=j.L ac;refine o.v1 dJ ?_;refine o.ak ?_;refine t ?_;refine G.ret (B ?_);exact⟨by cases k:l.any p with|true=>(rw[decide_eq_true (n.1.2 k)])|false=>(rw[decide_eq_false (fun h=>by rw[n.1.1 h]at k;cases k)]),j⟩
theorem DO(v cJ:Value)(l:List (List UInt8))(p:List UInt8→Bool)(w0:World)(I:Heap)
 (d:bx I gg 1 v l) (ah:∀(x:List UInt8) (aa:Heap),aj I aa→x∈l→ff Tryz.prog w0 cJ [aI x] aa (fun r q=>r= .bool (p x)∧aj aa q)):
 aC Tryz.prog w0 191 #[v,cJ] I (fun r q=>∃n:Int,r= .int .i64 n∧((0≤n↔l.any p=true)∧ -1≤n∧n≤9223372036854775807)∧aj I q):=by
 refine aC.aK [v,cJ] Tryz.func191 ?_;intro ak E;have i:aj I I:=W.refl _ _;replace d:=d.bw;have aF:=d.len;refine G.L (fun Q=>?_);refine o.ak ?_;refine Q (G.t2 (fun au am=>G.L (fun R=>?_)));refine o.V ?_;refine o.v1 (bb d jE) ?_;refine o.V (o.nil (R ?_));refine G.aB (fun _ ap S=>?_)
 refine G.bg (fun(j:(Nat))=>[(0,v),(1,cJ),(7,.int .i64 l.length),(8,.int .i64 j)])
  (fun(j:(Nat)) (H:Heap)=>(j≤l.length)∧((l.take j).any p=false)∧aj I H)
  (fun(j:(Nat))=>l.length-j) 0 ⟨rfl,rfl,rfl,rfl,trivial⟩ ?_ ?_
 ·
  exact⟨(by omega),rfl,W.refl _ _⟩
 intro j aq T ai V C;obtain⟨aE,B,k⟩:=T;replace d:=d.M k;replace i:=i.L k;have ay:=k.size;refine G.L (fun X=>?_);refine o.v1 bJ (o.nil (X ?_));refine G.t2 (fun Z ab=>?_);refine aU (fun ag=>?_) (fun ag=>?_)
 ·
  refine G.skip (Z (G.t2 (fun ae af=>G.aB (fun F _ K=>G.L (fun ac=>?_)))));refine o.aQ 2 ?_;refine ac (G.L (fun M=>?_));refine o.ax 3 ?_;refine o.bR (Y.bL d (j) rfl jE bP rfl rfl) fun al N=>?_;refine o.v1 (ar N.N bN) ?_;refine o.kk rfl rfl rfl cQ rfl rfl (ah l[j] _ i (List.getElem_mem (by omega))) (fun az aA L=>?_);obtain⟨rfl,t⟩:=L;replace i:=i.L t;replace k:=k.L t;have aB:=t.size;refine o.nil (M ?_);refine cK (fun A=>?_) (fun A=>?_)
  ·
   refine G.L (fun O=>?_);refine o.aQ 2 ?_;refine O ?_;refine G.ret (K (af (C (S (am (E ?_))))));exact⟨j,rfl,⟨⟨fun _=>mE (j:=j) (by omega) (by simpa using A),fun _=>by omega⟩,by omega,by omega⟩,i⟩
  ·
   refine G.skip (F (ae (G.region ?_)));refine o.v1 bD ?_;refine o.V (o.nil ?_);refine aP.sub (V (j+1) _ ?_ ?_) ⟨rfl,rfl,(aD (by omega)),(aD (by omega)),trivial⟩
   ·exact⟨(by omega),ow B (by omega) (by simpa using A),k⟩
   ·first|omega|(simp only;omega)|(simp;omega)
 ·
  refine G.exit (ab (C (ap ?_)));refine au (G.L (fun P=>?_));refine o.ak ?_;refine P ?_;refine G.ret (E ?_);exact⟨-1,rfl,⟨⟨fun h=>by omega,fun h=>by rw[List.take_of_length_le (by omega),h]at B;cases B⟩,by omega,by omega⟩,i⟩
theorem CG(v cJ:Value)(l:List (List UInt8))(p:List UInt8→Bool)(w0:World)(I:Heap)
 (d:bx I gg 1 v l) (A:∀(x:List UInt8) (aa:Heap),aj I aa→x∈l→ff Tryz.prog w0 cJ [aI x] aa (fun r i=>r= .bool (p x)∧aj aa i)):
 aC Tryz.prog w0 126 #[v,cJ] I (fun r i=>r= .bool (l.any p)∧aj I i):=by
 refine aC.aK [v,cJ] Tryz.func126 ?_;intro E B;have j:aj I I:=W.refl _ _;replace d:=d.bw;have F:=d.len;refine G.L (fun q=>?_);refine o.ak ?_;refine q (G.L (fun t=>?_));refine o.ax 2 ?_;refine aW By (DO _ cJ l p w0 _ d.any A) ?_;rintro H C ⟨n7,rfl,n,ac⟩;replace j:=j.L ac;refine o.v1 dJ ?_;refine o.ak ?_;refine t ?_;refine G.ret (B ?_);exact⟨by cases k:l.any p with|true=>(rw[decide_eq_true (n.1.2 k)])|false=>(rw[decide_eq_false (fun h=>by rw[n.1.1 h]at k;cases k)]),j⟩
theorem FT(s:List UInt8)(bk:Int)(w0:World)(I:Heap)
 (aL:dY bk I) (M:bh (fun b=>b=0) I.size) (al:s.length≤1000):
 aC Tryz.prog w0 129 #[aI s] I (fun r x=>r= .bool (kx s)∧aj I x):=by
 refine aC.aK [aI s] Tryz.func129 ?_;intro F n;have j:aj I I:=W.refl _ _;refine G.L (fun ac=>?_);refine o.ak ?_;refine ac (G.L (fun k=>?_));refine o.V ?_;refine o.v1 (Y.iT rfl rfl rfl) ?_;refine o.V ?_;refine o.bj (d:=5) rfl (fun g5=>?_) (fun g5=>?_)
 ·
  have E:0<s.length:=List.length_pos_iff.2 g5;have q:=iB (l:=s) (i:=0) E;have aK:=iB (l:=s) (i:=s.length-1) (by omega);refine o.bU ?_;refine o.ao (jo (0) dP) ?_;refine o.ao cU ?_;refine o.ax 2 ?_;refine o.bj (d:=10) rfl (fun ad=>?_) (fun ad=>?_)
  ·
   refine o.bU ?_;refine o.ao (jo (0) dP) ?_;refine o.ao cU ?_;refine o.ax 2 ?_;refine o.bj (d:=15) rfl (fun A=>?_) (fun A=>?_)
   ·
    refine o.ax 2 ?_;refine o.ao (fB dP) ?_;refine o.ao (Y.cast (v2:= .int .i64 ((s.length-1:Nat):Int)) fH (fM (by omega))) ?_;refine o.ao (jo (s.length-1) dP) ?_;refine o.ao cU ?_;refine o.ax 2 ?_;refine o.bj (d:=23) rfl (fun B=>?_) (fun B=>?_)
    ·
     refine o.bU ?_;refine o.call rfl ve rfl bd rfl rfl (sa s [46,46] bk w0 _ aL (by omega)) (fun H K C=>?_);obtain⟨rfl,t⟩:=C;replace j:=j.L t;have L:=t.size;refine o.ao eL ?_;refine o.aQ 2 ?_;refine k ?_;refine G.ret (n ?_);exact⟨FR ⟨g5,by rw[q];omega,by rw[q];omega,by rw[aK];omega⟩,j⟩
    ·
     refine o.aQ 5 ?_;refine k ?_;refine G.ret (n ?_);exact⟨qU (fun h=>by have U:=h.2.2.2;rw[aK]at U;omega),j⟩
   ·
    refine o.aQ 13 ?_;refine k ?_;refine G.ret (n ?_);exact⟨qU (fun h=>by have U:=h.2.2.1;rw[q]at U;omega),j⟩
  ·
   refine o.aQ 18 ?_;refine k ?_;refine G.ret (n ?_);exact⟨qU (fun h=>by have U:=h.2.1;rw[q]at U;omega),j⟩
 ·
  refine o.aQ 23 ?_;refine k ?_;refine G.ret (n ?_);exact⟨qU (fun h=>g5 h.1),j⟩
theorem Cq(s:List UInt8)(bk:Int)(w0:World)(I:Heap)
 (aL:dY bk I) (n:bh (fun b=>b=0) I.size) (al:s.length≤1000):
 aC Tryz.prog w0 128 #[aI s] I (fun r i=>r= .bool (!kx s)∧aj I i):=by
 refine aC.aK [aI s] Tryz.func128 ?_;intro x q;have d:aj I I:=W.refl _ _;refine G.L (fun j=>?_);refine o.ak ?_;refine j (G.L (fun k=>?_));refine o.V ?_;refine aW Bc (FT s bk w0 _ aL (n.mono (by omega)) al) ?_;rintro v4 t ⟨rfl,ac⟩;replace d:=d.L ac;refine o.v1 eL ?_;refine o.ak ?_;refine k ?_;refine G.ret (q ?_);exact⟨rfl,d⟩
theorem p4(s:List UInt8)(bk:Int)(w0:World)(I:Heap)
 (aL:dY bk I) (T:bh (fun b=>b=0) I.size) (al:s.length≤9223372036854775807):
 aC Tryz.prog w0 48 #[aI s] I (fun r j=>r= .int .i64 (c6 s)∧aj I j):=by
 refine aC.aK [aI s] Tryz.func48 ?_;intro aa k;have i:aj I I:=W.refl _ _;refine G.L (fun F=>?_);refine o.ak ?_;refine F (G.t2 (fun H B=>G.L (fun C=>?_)));refine o.V ?_;refine o.v1 (fB dP) ?_;refine o.v1 eY ?_;refine o.V ?_;refine o.bj (d:=6) rfl (fun g6=>?_) (fun g6=>?_)
 ·
  refine o.ax 4 ?_;refine o.nil (C ?_);refine G.iz rfl ?_;refine G.L (fun K=>?_);refine o.ak ?_;refine K ?_;refine G.ret (B (k ?_));exact⟨by first|(rw[c6,if_pos (.inl (by omega))])|(rw[c6,if_pos (.inr (by assumption))])|(rw[c6,if_neg (by rintro(h|h);omega;simp_all),if_pos (by assumption)])|(rw[c6,if_neg (by rintro(h|h);omega;simp_all),if_neg (by simp_all)]),i⟩
 ·
  refine o.bU ?_;refine o.z (Z.y_ rfl Tryz.underlying9 Tryz.underlying57 Tryz.underlying5 rfl (by omega)) bd rfl rfl ?_;rintro az X ⟨au,q,am⟩;replace aL:=aL.M q;replace i:=i.L q;have ab:=q.size;refine o.call rfl A7 rfl bd rfl rfl (CE _ (.func (.func 124) #[] #[]) s (fun c=> !cv c) w0 _ au.rd.any (fun x j _ _=>ff.of (caps:=[]) A8 (Cp x w0 j))) ?_;rintro v9 Y ⟨rfl,t⟩;replace aL:=aL.M t;replace i:=i.L t;have ae:=t.size;refine o.dF ?_;refine o.nil (C ?_);refine cK (fun L=>?_) (fun L=>?_)
  ·
   refine G.L (fun ap=>?_);refine o.ak ?_;refine ap ?_;refine G.ret (B (k ?_));exact⟨by first|(rw[c6,if_pos (.inl (by omega))])|(rw[c6,if_pos (.inr (by assumption))])|(rw[c6,if_neg (by rintro(h|h);omega;simp_all),if_pos (by assumption)])|(rw[c6,if_neg (by rintro(h|h);omega;simp_all),if_neg (by simp_all)]),i⟩
  ·
   refine G.skip (H (G.t2 (fun M N=>G.L (fun O=>?_))));refine o.V ?_;refine aW Ba (He s bk w0 _ aL (by omega)) (fun af ag P=>?_);obtain⟨aB,ay,rfl,A,ar,n⟩:=P;replace aL:=aL.M n;replace i:=i.L n;have ah:=n.size;have ac:=A.le;refine aW A_ (CG _ (.func (.func 128) #[] #[]) (sp [] s) (fun p=> !kx p) w0 _ A.rd.any (fun x j aA V=>ff.of (caps:=[]) Bb (Cq x bk w0 j (aL.M aA) (T.mono (by have:=aA.size;omega)) (by have:=tG V;simp only[List.length_nil]at this;omega)))) (fun ai ak Q=>?_);obtain⟨rfl,ad⟩:=Q;replace i:=i.L ad;have aq:=ad.size;refine o.nil (O ?_);refine cK (fun R=>?_) (fun R=>?_)
   ·
    refine G.L (fun S=>?_);refine o.ak ?_;refine S ?_;refine G.ret (N (k ?_));exact⟨by first|(rw[c6,if_pos (.inl (by omega))])|(rw[c6,if_pos (.inr (by assumption))])|(rw[c6,if_neg (by rintro(h|h);omega;simp_all),if_pos (by assumption)])|(rw[c6,if_neg (by rintro(h|h);omega;simp_all),if_neg (by simp_all)]),i⟩
   ·
    refine G.skip (M (G.L (fun E=>?_)));refine o.ak ?_;refine E ?_;refine G.ret (k ?_);exact⟨by first|(rw[c6,if_pos (.inl (by omega))])|(rw[c6,if_pos (.inr (by assumption))])|(rw[c6,if_neg (by rintro(h|h);omega;simp_all),if_pos (by assumption)])|(rw[c6,if_neg (by rintro(h|h);omega;simp_all),if_neg (by simp_all)]),i⟩
end eP

namespace e1
open E Go.RowKit eM eP
def oP(s:List UInt8)(i:Nat):Prop:=i=0∨(s.getD (i-1) 0).toNat=47
def qB(s:List UInt8)(i:Nat):Prop:=i+1=s.length∨(s.getD (i+1) 0).toNat=47
def nW(s:List UInt8)(i:Nat):Prop:=cv (s.getD i 0)=true∧¬((s.getD i 0).toNat=47∧(oP s i∨i+1=s.length))∧¬(oP s i∧((s.getD i 0).toNat=46∨(s.getD i 0).toNat=45))∧¬(qB s i∧(s.getD i 0).toNat=46)∧¬((s.getD i 0).toNat=46∧0<i∧(s.getD (i-1) 0).toNat=46)
def scan(p:Nat):List UInt8→Prop
 |[]=>p≠47∧p≠46
 |c::l=>cv c=true∧(c.toNat=47→p≠47∧p≠46)∧(p=47→c.toNat≠46∧c.toNat≠45)∧¬(c.toNat=46∧p=46)∧scan c.toNat l
def qP(p:Nat)(c:UInt8)(l:List UInt8):Prop:=cv c=true∧¬(c.toNat=47∧(p=47∨l.length=0))∧¬(p=47∧(c.toNat=46∨c.toNat=45))∧¬((l.length=0∨(l.getD 0 0).toNat=47)∧c.toNat=46)∧¬(c.toNat=46∧p=46)
def m0(p:Nat):List UInt8→Prop
 |[]=>True
 |c::l=>qP p c l∧m0 c.toNat l
theorem tx:∀(l:List UInt8) (p:Nat),scan p l↔m0 p l∧(l.length=0→p≠47∧p≠46)∧(l.length≠0→(l.getD 0 0).toNat=47→p≠46)
 |[],p=>by simp[scan,m0]
 |c::l,p=>by
  have ih:=tx l c.toNat;simp only[scan,m0,qP,List.length_cons,List.getD_cons_zero];rw[ih];constructor
  ·rintro⟨k,U,d,j,n,i,q⟩
   refine⟨⟨⟨k,?_,?_,?_,j⟩,n⟩,fun h=>by omega,fun _ h=>(U h).2⟩
   ·rintro⟨a,b|b⟩
    ·exact(U a).1 b
    ·exact(i b).1 a
   ·rintro⟨a,b|b⟩
    ·exact(d a).1 b
    ·exact(d a).2 b
   ·rintro⟨a|a,b⟩
    ·exact(i a).2 b
    ·by_cases o:l.length=0
     ·exact(i o).2 b
     ·exact q o a b
  ·rintro⟨⟨⟨k,U,d,j,n⟩,i⟩,_,r⟩
   refine⟨k,fun a=>⟨fun b=>U ⟨a,.inl b⟩,r (by omega) a⟩,fun a=>⟨fun b=>d ⟨a,.inl b⟩,fun b=>d ⟨a,.inr b⟩⟩,n,i,fun a=>⟨fun b=>U ⟨b,.inr a⟩,fun b=>j ⟨.inl a,b⟩⟩,fun _ a b=>j ⟨.inr a,b⟩⟩
def mZ(p:Nat)(s:List UInt8)(i:Nat):Prop:=qP (if i=0 then p else(s.getD (i-1) 0).toNat) (s.getD i 0) (s.drop (i+1))
theorem tb:∀(s:List UInt8) (p:Nat),m0 p s↔∀i,i<s.length→mZ p s i
 |[],p=>by simp[m0]
 |c::l,p=>by
  have ih:=tb l c.toNat;rw[m0,ih];constructor
  ·rintro⟨j,U⟩ i d
   cases i with
   |zero=>simpa[mZ]using j
   |succ i=>
    have:=U i (by simpa using d);unfold mZ at this⊢
    cases i with
    |zero=>simpa using this
    |succ i=>simpa using this
  ·intro h
   refine⟨by simpa[mZ]using h 0 (by simp),fun i d=>?_⟩;have:=h (i+1) (by simpa using d);unfold mZ at this⊢
   cases i with
   |zero=>simpa using this
   |succ i=>simpa using this
theorem xY{s:List UInt8}{i:Nat}(t:i<s.length):mZ 47 s i↔nW s i:=by
 have q:(s.drop (i+1)).length=0↔i+1=s.length:=by rw[List.length_drop];omega
 have o:(s.drop (i+1)).getD 0 0=s.getD (i+1) 0:=by simp[List.getD]
 unfold mZ nW qP oP qB;rw[q,o];by_cases d:i=0
 ·rw[if_pos d]
  simp only[d,true_or,true_and,and_true];constructor
  ·rintro⟨j,U,k,n,_⟩;exact⟨j,U,k,n,fun h=>by omega⟩
  ·rintro⟨j,U,k,n,_⟩;exact⟨j,U,k,n,fun h=>by omega⟩
 ·rw[if_neg d]
  have r:0<i:=by omega
  simp only[d,false_or,r,true_and]
def dD(cur:List UInt8):Nat:=match cur.getLast? with|none=>47|some c=>c.toNat
theorem EC(cur:List UInt8)(c:UInt8):dD (cur++[c])=c.toNat:=by simp[dD]
def dd:List UInt8→Bool
 |[]=>false
 |c::l=>(decide (c.toNat=46)&&(match l.head? with|none=>false|some d=>decide (d.toNat=46)))||dd l
theorem s0{c:UInt8}:(46==c)=decide (c.toNat=46):=by
 have:(46=c)↔(c.toNat=46):=⟨fun h=>by rw[←h];rfl,fun h=>by apply UInt8.toNat.inj;rw[h];rfl⟩;by_cases h:46=c
 ·rw[decide_eq_true (this.1 h)];simpa using h
 ·rw[decide_eq_false (fun e=>h (this.2 e))];simpa using h
theorem vP:∀l:List UInt8,Lib.contains l [46,46]=dd l
 |[]=>by decide
 |c::l=>by
  have ih:=vP l;unfold Lib.contains at ih⊢;have j:=Lib.index_ge l [46,46]
  have i:([46,46]:List UInt8).isPrefixOf (c::l)=(decide (c.toNat=46)&&(match l.head? with|none=>false|some d=>decide (d.toNat=46))):=by
   cases l with
   |nil=>rw[List.isPrefixOf,s0];simp
   |cons d l=>rw[List.isPrefixOf,List.isPrefixOf,s0,s0];simp
  rw[Lib.index,i,dd]
  cases h:(decide (c.toNat=46)&&(match l.head? with|none=>false|some d=>decide (d.toNat=46)))with
  |true=>simp
  |false=>
   rw[if_neg (by simp),Bool.false_or,←ih];by_cases hm:Lib.index l [46,46]= -1
   ·rw[if_pos (by rw[hm];rfl),hm]
   ·rw[if_neg (by simpa using hm)];exact decide_eq_decide.2 (by omega)
theorem vR:∀(l:List UInt8) (c:UInt8),dd (l++[c])=(dd l||(decide (dD l=46)&&decide (c.toNat=46)))
 |[],c=>by simp[dd,dD]
 |[d],c=>by
  have i:dD [d]=d.toNat:=rfl;have U:dd [d]=false:=by simp[dd]
  have j:dd ([d]++[c])=(decide (d.toNat=46)&&decide (c.toNat=46)||dd [c]):=rfl;have k:dd [c]=false:=by simp[dd]
  rw[i,U,j,k,Bool.or_false,Bool.false_or]
 |d::e::l,c=>by
  have ih:=vR (e::l) c;have i:dD (d::e::l)=dD (e::l):=by simp[dD]
  have U:dd (d::e::l)=(decide (d.toNat=46)&&decide (e.toNat=46)||dd (e::l)):=rfl;have j:dd (d::e::l++[c])=(decide (d.toNat=46)&&decide (e.toNat=46)||dd (e::l++[c])):=rfl;rw[i,U,j,ih,Bool.or_assoc]
def l9(cur:List UInt8):Prop:=(cur≠[]→(cur.getD 0 0).toNat≠46∧(cur.getD 0 0).toNat≠45)∧dd cur=false
theorem xl{s:List UInt8}(h:s≠[]):dD s=(s.getD (s.length-1) 0).toNat:=by
 have:s.getLast?=some (s.getD (s.length-1) 0):=by
  rw[List.getLast?_eq_getElem?,List.getD_eq_getElem?_getD];have:=List.length_pos_iff.2 h;rw[List.getElem?_eq_getElem (by omega)];rfl
 unfold dD;rw[this]
theorem yb{cur:List UInt8}(j:∀c∈cur,c.toNat≠47):kx cur=true↔l9 cur∧dD cur≠47∧dD cur≠46:=by
 unfold kx l9;rw[vP,Bool.and_eq_true,decide_eq_true_eq];by_cases i:cur=[]
 ·subst i;simp[dD]
 ·rw[xl i]
  have hm:cur.getD (cur.length-1) 0∈cur:=by
   have:=List.length_pos_iff.2 i;rw[iB (by omega)];exact List.getElem_mem _
  have:=j _ hm;simp only[i,ne_eq,not_false_eq_true,true_and,forall_const,Bool.not_eq_true'];constructor
  ·rintro⟨⟨a,b,c⟩,d⟩;exact⟨⟨⟨a,b⟩,d⟩,this,c⟩
  ·rintro⟨⟨⟨a,b⟩,d⟩,_,c⟩;exact⟨⟨a,b,c⟩,d⟩
theorem FX{cur:List UInt8}{c:UInt8}(i:∀c∈cur,c.toNat≠47):l9 (cur++[c])↔l9 cur∧(dD cur=47→c.toNat≠46∧c.toNat≠45)∧¬(c.toNat=46∧dD cur=46):=by
 unfold l9;rw[vR]
 cases cur with
 |nil=>simp[dd,dD]
 |cons d l=>
  have hm:dD (d::l)≠47:=by
   rw[xl (by simp)];refine i _ ?_;rw[iB (by simp)];exact List.getElem_mem _
  simp only[List.cons_append,ne_eq,reduceCtorEq,not_false_eq_true,List.getD_cons_zero,forall_const,Bool.or_eq_false_iff,Bool.and_eq_false_iff,decide_eq_false_iff_not,hm,false_implies,true_and];constructor
  ·rintro⟨a,b,c⟩;exact⟨⟨a,b⟩,fun h=>by rcases c with c|c;exact c h.2;exact c h.1⟩
  ·rintro⟨⟨a,b⟩,c⟩
   refine⟨a,b,?_⟩;by_cases h:dD (d::l)=46
   ·exact .inr (fun e=>c ⟨e,h⟩)
   ·exact .inl h
theorem E_{c:UInt8}:c=47↔c.toNat=47:=⟨fun h=>by rw[h];rfl,fun h=>by apply UInt8.toNat.inj;rw[h];rfl⟩
theorem Du:cv 47=true:=by decide
theorem tH:∀(s cur:List UInt8),(∀c∈cur,c.toNat≠47)→(((∀p∈sp cur s,kx p=true)∧(∀c∈s,cv c=true))↔(l9 cur∧scan (dD cur) s))
 |[],cur,h=>by
  simp only[sp,List.mem_singleton,forall_eq,List.not_mem_nil,false_implies,implies_true,and_true,scan]
  exact yb h
 |c::l,cur,h=>by
  by_cases av:c=47
  ·subst av
   have ih:=tH l [] (fun c h=>by cases h);have o:dD []=47:=rfl;have q:l9 []:=⟨fun h=>absurd rfl h,rfl⟩;rw[o]at ih;have t47:(47:UInt8).toNat=47:=rfl;simp only[sp,if_true,List.mem_cons,forall_eq_or_imp,scan,Du,t47,true_and,ne_eq,forall_const];have:=yb h;constructor
   ·rintro⟨⟨a,b⟩,d⟩
    obtain⟨j,i,k⟩:=this.1 a;exact⟨j,⟨i,k⟩,fun _=>⟨by decide,by decide⟩,fun e=>by omega,(ih.1 ⟨b,d⟩).2⟩
   ·rintro⟨a,⟨b,d⟩,_,_,e⟩
    obtain⟨j,i⟩:=ih.2 ⟨q,e⟩;exact⟨⟨this.2 ⟨a,b,d⟩,j⟩,i⟩
  ·have aA:c.toNat≠47:=fun e=>av (E_.2 e)
   have U:∀d∈cur++[c],d.toNat≠47:=by
    intro d an;rcases List.mem_append.1 an with an|an
    ·exact h d an
    ·rw[List.mem_singleton]at an;rw[an];exact aA
   have ih:=tH l (cur++[c]) U;rw[EC,FX h]at ih;simp only[sp,if_neg av,List.mem_cons,forall_eq_or_imp,scan];constructor
   ·rintro⟨a,b,d⟩
    obtain⟨⟨j,i,k⟩,n⟩:=ih.1 ⟨a,d⟩;exact⟨j,b,fun e=>absurd e aA,i,k,n⟩
   ·rintro⟨a,b,_,i,k,n⟩
    obtain⟨r,t⟩:=ih.2 ⟨⟨a,i,k⟩,n⟩;exact⟨r,b,t⟩
theorem mK(s:List UInt8):c6 s=0↔s.length≤60∧scan 47 s:=by
 have h:=tH s [] (fun c h=>by cases h);have o:l9 []:=⟨fun h=>absurd rfl h,rfl⟩;rw[show dD []=47 from rfl]at h;unfold c6;constructor
 ·intro d
  split at d
  ·cases d
  ·rename_i k
   split at d
   ·cases d
   ·rename_i U
    refine⟨by omega,(h.1 ⟨fun p j=>?_,fun c av=>?_⟩).2⟩
    ·simp only[List.any_eq_true,not_exists,not_and,Bool.not_eq_true',Bool.not_eq_false]at U
     exact U p j
    ·have i:¬(s.any (fun c=> !cv c))=true:=fun e=>k (.inr e)
     simp only[List.any_eq_true,not_exists,not_and,Bool.not_eq_true',Bool.not_eq_false]at i;exact i c av
 ·rintro⟨k,U⟩
  obtain⟨i,n⟩:=h.2 ⟨o,U⟩;rw[if_neg,if_neg]
  ·intro e
   obtain⟨p,j,e⟩:=List.any_eq_true.1 e;rw[i p j]at e;cases e
  ·rintro(e|e)
   ·omega
   ·obtain⟨c,av,e⟩:=List.any_eq_true.1 e
    rw[n c av]at e;cases e
theorem p5(s:List UInt8):c6 s=0∨c6 s=7:=by
 unfold c6;split
 ·exact .inr rfl
 ·split
  ·exact .inr rfl
  ·exact .inl rfl
theorem F3{s:List UInt8}(j:¬s.length<1)(U:¬s.length>60)(h:∀i,i<s.length→nW s i):c6 s=0:=by
 refine(mK s).2 ⟨by omega,(tx s 47).2 ⟨(tb s 47).2 (fun i d=>(xY d).2 (h i d)),fun e=>by omega,fun _ _=>by decide⟩⟩
theorem pc{s:List UInt8}{i:Nat}(j:i<s.length)(h:¬nW s i):c6 s=7:=by
 rcases p5 s with d|d
 ·obtain⟨_,U⟩:=(mK s).1 d
  exact absurd ((xY j).1 ((tb s 47).1 ((tx s 47).1 U).1 i j)) h
 ·exact d
theorem Cx{s:List UInt8}(h:s.length<1):c6 s=7:=by
 have:s=[]:=List.length_eq_zero_iff.1 (by omega);subst this;decide+kernel
theorem Cw{s:List UInt8}(h:s.length>60):c6 s=7:=by unfold c6;rw[if_pos (.inl h)]
theorem Fx{s:List UInt8}{i:Nat}{fb aY n o q r:Bool}(E:cv (s.getD i 0)=true)(C:fb=true↔oP s i)(F:aY=true↔qB s i)(d:n=true↔((s.getD i 0).toNat=47∧(fb=true∨i+1=s.length)))(j:o=true↔(fb=true∧((s.getD i 0).toNat=46∨(s.getD i 0).toNat=45)))
 (k:q=true↔(aY=true∧(s.getD i 0).toNat=46)) (t:r=true↔((s.getD i 0).toNat=46∧0<i∧(s.getD (i-1) 0).toNat=46)) (x:n=false) (A:o=false) (dE:q=false) (B:r=false):nW s i:=by
 subst x A dE B;simp only[Bool.false_eq_true,false_iff]at d j k t;rw[C]at d j;rw[F]at k;exact⟨E,d,j,k,t⟩
end e1
end Go.Proofs.YtfjmpninmdjcaaaGreatDoor
