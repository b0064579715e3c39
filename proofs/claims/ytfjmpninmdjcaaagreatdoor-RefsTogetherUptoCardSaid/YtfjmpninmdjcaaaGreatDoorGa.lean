/-
  Contracts of functions of the program, and plain laws: put together of several texts.
-/
import Derived.WalkKit
import Derived.StillTail
import Derived.OrdersHeld
import Derived.Deep.RegionHeld3
import Derived.MapKept
import Derived.Lib.ConvBytes
import Derived.Lib.AppendStr
import Derived.Laws.Pointers
import Derived.Laws.Cover3
import Derived.Test.YtfjmpninmdjcaaaGreatDoorRows
import Derived.Lib.BytesEntry
import Derived.Maps.RangeRun
import Derived.Lib.Bytealg
import Derived.RangeFuncLeaves
import Derived.RangeFuncRecord
import Derived.RangeFuncSeq
import Derived.TacticsIn
import Derived.Lib.SplitLaws
import Derived.Test.YtfjmpninmdjcaaaGreatDoorShelf
set_option linter.unusedVariables false
set_option linter.unusedSimpArgs false
set_option linter.unusedSectionVars false
set_option linter.defProp false
set_option maxHeartbeats 8000000
set_option maxRecDepth 20000
namespace Go.Proofs.YtfjmpninmdjcaaaGreatDoor

namespace E
abbrev Heap:=Array Obj
abbrev bO:=List (Nat×Value)
def cG:bO→Nat→Option Value
 |[],_=>none
 |(s,v)::l,t=>match Nat.beq s t with
  |true=>some v
  |false=>cG l t
structure Fr (n:Nat) (l:bO) (a:Act):Prop where
 defers:a.defers=[]
 size:a.tmps.size=n
 get:∀t v,cG l t=some v→a.tmps[t]?=some v
def aH(l:bO):Operand→Option Value
 | .tmp t=>cG l t
 | .const v=>some v
 | .global g=>some (.pointer (some ⟨g,0,none⟩))
 | .func f=>some (.func (.func f) #[] #[])
def gH(l:bO):List Operand→Option (List Value)
 |[]=>some []
 |x::r=>match aH l x,gH l r with
  |some v,some d=>some (v::d)
  |_,_=>none
theorem Fr.eval{n:Nat}{l:bO}{a:Act}(h:Fr n l a){x:Operand}{v:Value}(e:aH l x=some v):a.eval x=v:=by
 cases x with
 |tmp t=>have:=h.get t v e;simp[Act.eval,Array.getD_eq_getD_getElem?,this]
 |const c=>simpa[aH,Act.eval]using e
 |global g=>simpa[aH,Act.eval]using e
 |func f=>simpa[aH,Act.eval]using e
theorem Fr.jH{n:Nat}{l:bO}{a:Act}(h:Fr n l a):∀{xs:List Operand} {i:List Value},gH l xs=some i→xs.map a.eval=i
 |[],i,e=>by simpa[gH]using e
 |x::r,i,e=>by
  simp only[gH]at e
  cases d:aH l x with
  |none=>simp[d]at e
  |some v=>
   cases j:gH l r with
   |none=>simp[d,j]at e
   |some k=>
    simp only[d,j,Option.some.injEq]at e;subst e;simp[h.eval d,h.jH j]
theorem Fr.put{n:Nat}{l:bO}{a:Act}(h:Fr n l a){d:Nat}(ak:Nat.blt d n=true)(v:Value):Fr n ((d,v)::l) (a.put (some d) v):=by
 have j:d<n:=by simpa[Nat.blt_eq]using ak
 refine⟨h.defers,by simp[Act.put,h.size],fun t u e=>?_⟩;simp only[Act.put,Array.getElem?_setIfInBounds];simp only[cG]at e;by_cases i:d=t
 ·subst i
  have:Nat.beq d d=true:=by simp
  simp only[this]at e;simp[h.size,j,←Option.some.inj e]
 ·have:Nat.beq d t=false:=by
   cases aA:Nat.beq d t with
   |true=>exact absurd (Nat.eq_of_beq_eq_true aA) i
   |false=>rfl
  simp only[this]at e;simp[i,h.get t u e]
def Sub:bO→bO→Prop
 |[],_=>True
 |(t,v)::r,l=>cG l t=some v∧Sub r l
theorem Sub.cG{l:bO}:∀{l':bO},Sub l' l→∀t v,cG l' t=some v→cG l t=some v
 |[],_,t,v,e=>by simp[E.cG]at e
 |(s,u)::r,⟨d,V⟩,t,v,e=>by
  simp only[E.cG]at e
  cases aA:Nat.beq s t with
  |true=>
   simp only[aA,Option.some.injEq]at e;have:=Nat.eq_of_beq_eq_true aA
   subst this;subst e;exact d
  |false=>simp only[aA]at e;exact Sub.cG V t v e
theorem Fr.sub{n:Nat}{l l':bO}{a:Act}(h:Fr n l a)(aj:Sub l' l):Fr n l' a:=
 ⟨h.defers,h.size,fun t v e=>h.get t v (aj.cG t v e)⟩
structure At (w0:World) (H:Heap) (w:World):Prop where
 heap:w.heap=H
 os:w.os=w0.os
 tape:w.tape=w0.tape
 output:w.output=w0.output
 e_:w0.drawn≤w.drawn
theorem At.drew{w0 w:World}{H:Heap}(h:At w0 H w):At w0 H {w with drawn:=w.drawn+1}:=⟨h.heap,h.os,h.tape,h.output,Nat.le_succ_of_le h.e_⟩
theorem At.set{w0 w:World}{H ab:Heap}(h:At w0 H w):At w0 ab {w with heap:=ab}:=⟨rfl,h.os,h.tape,h.output,h.e_⟩
def Y(P:Program)(w0:World)(n:Nat)(l:bO)(H:Heap)(I:Oper)(v:Value):Prop:=
 ∀a w,Fr n l a→At w0 H w→(execOp a.eval I).run P w= .ok (.value v) w
def jf(m:Bool)(P:Program)(ops:Array Oper)(Q:Exit→Act→World→Prop)(rest:List Oper)(a:Act)(w:World):Prop:=match m with
 |true=>wpStill P ops w (fun d=>Q .normal d w) rest a
 |false=>wpList P ops Q rest a w
def o(m:Bool)(P:Program)(w0:World)(ops:Array Oper)(Q:Exit→Act→World→Prop)(n:Nat)(l:bO)(rest:List Oper)(H:Heap):Prop:=
 ∀a w,Fr n l a→At w0 H w→jf m P ops Q rest a w
def aR(w0:World)(Q:Exit→Act→World→Prop)(n:Nat)(l:bO)(H:Heap):Prop:=∀a w,Fr n l a→At w0 H w→Q .normal a w
def fH(w0:World)(Q:Exit→Act→World→Prop)(e:Exit)(n:Nat)(l:bO)(H:Heap):Prop:=∀a w,Fr n l a→At w0 H w→Q e a w
def G(P:Program)(w0:World)(Q:Exit→Act→World→Prop)(n:Nat)(l:bO)(c:Code)(H:Heap):Prop:=
 ∀a w,Fr n l a→At w0 H w→c.wp P Q a w
section
variable {P : Program} {w0 : World} {Q : Exit → Act → World → Prop} {n : Nat} {l : bO} {H : Heap} {ops : Array Oper} {rest : List Oper} {I : Oper} {m : Bool}
theorem o.nil(h:aR w0 Q n l H):o m P w0 ops Q n l [] H:=by
 intro a w i d;cases m
 ·exact h a w i d
 ·exact h a w i d
theorem GV{a:Act}{w:World}{v:Value}(q:Fr n l a)(k:At w0 H w)(hw:Region.wanted I (yielded ops a.tmps)=true)(j:(execOp a.eval I).run P w= .ok (.value v) w)
 {d:Nat} (ak:I.dst=some d) (aC:Nat.blt d n=true) (h:o m P w0 ops Q n ((d,v)::l) rest H):jf m P ops Q (I::rest) a w:=by
 have i:=q.put aC v;rw[←ak]at i;have bz:=h _ w i k;cases m
 ·simp only[jf]at bz⊢
  unfold wpList;rw[if_pos hw];exact .inl (by unfold Oper.wp;rw[j];exact bz)
 ·simp only[jf]at bz⊢
  unfold wpStill;rw[if_pos hw];unfold Oper.still;rw[j];exact⟨rfl,bz⟩
def cT(ops:Array Oper)(l:bO)(I:Oper):Prop:=∀n a,Fr n l a→Region.wanted I (yielded ops a.tmps)=true
theorem tZ{a:Act}(k:Fr n l a){j d:Nat}{b:Bool}(o:(ops[j]?).bind (·.dst)=some d)(av:cG l d=some (.bool b)):yielded ops a.tmps j=some b:=by
 have i:=k.get d _ av;have:(ops[j]?).bind (fun I=>I.dst)=some d:=o;unfold yielded;rw[this];simp[i]
theorem cT.u(d:I.guard=none):cT ops l I:=fun _ _ _=>by simp[Region.wanted,d]
theorem cM (d : I.guard=none := by exact rfl) : cT ops l I := cT.u d
theorem cT.g{j e:Nat}{b:Bool}(i:I.guard=some (j,b))(k:(ops[j]?).bind (·.dst)=some e)(av:cG l e=some (.bool b)):cT ops l I:=
 fun _ _ d=>by simp[Region.wanted,i,tZ d k av]
theorem bo {j e : Nat} {b : Bool} (d : I.guard=some (j,b) := by exact rfl) (i : (ops[j]?).bind (·.dst)=some e := by exact rfl) (av : cG l e=some (.bool b) := by exact rfl) : cT ops l I := cT.g d i av
theorem o.v{v:Value}{d:Nat}(hy:Y P w0 n l H I v)(hw:cT ops l I)(ak:I.dst=some d)(aC:Nat.blt d n=true)(h:o m P w0 ops Q n ((d,v)::l) rest H):o m P w0 ops Q n l (I::rest) H:=
 fun a w i j=>GV i j (hw n a i) (hy a w i j) ak aC h
theorem o.e{α:Type}{g:α→Value}{φ:α→Prop}{d:Nat}(hy:∃x,(∀ab,Y P w0 n l ab I (g x))∧φ x)(hw:cT ops l I)(ak:I.dst=some d)(aC:Nat.blt d n=true)(h:∀x,φ x→o m P w0 ops Q n ((d,g x)::l) rest H):o m P w0 ops Q n l (I::rest) H:=
 let⟨x,i,V⟩:=hy
 o.v (i H) hw ak aC (h x V)
theorem o.gs{d j e:Nat}{b c:Bool}(r:I.guard=some (j,b))(x:(ops[j]?).bind (·.dst)=some e)(av:cG l e=some (.bool c))(A:(c==b)=false)
 (ak:I.dst=some d) (aC:Nat.blt d n=true) (h:o m P w0 ops Q n ((d,undef)::l) rest H):o m P w0 ops Q n l (I::rest) H:=by
 intro a w i q
 have hw:Region.wanted I (yielded ops a.tmps)=false:=by
  have B:c≠b:=by intro e;subst e;simp at A
  simp[Region.wanted,r,tZ i x av,B]
 have k:=i.put aC undef;rw[←ak]at k;have bz:=h _ w k q;cases m
 ·simp only[jf]at bz⊢
  unfold wpList;rw[if_neg (by simp[hw])];exact bz
 ·simp only[jf]at bz⊢
  unfold wpStill;rw[if_neg (by simp[hw])];exact bz
theorem Fr.same{a:Act}(i:Fr n l a){d:Nat}{v:Value}(av:cG l d=some v):Fr n ((d,v)::l) a:=by
 refine⟨i.defers,i.size,fun t u e=>?_⟩;simp only[cG]at e
 cases aA:Nat.beq d t with
 |true=>
  have:=Nat.eq_of_beq_eq_true aA;subst this;simp only[aA]at e
  exact i.get d u (by rw[av];exact e)
 |false=>simp only[aA]at e;exact i.get t u e
theorem o.bp{d:Nat}{p:Prop}[Decidable p](av:cG l d=some (.bool (decide p)))(q:p→o m P w0 ops Q n ((d,.bool true)::l) rest H)(he:¬p→o m P w0 ops Q n ((d,.bool false)::l) rest H):o m P w0 ops Q n l rest H:=by
 intro a w k j;by_cases i:p
 ·rw[decide_eq_true i]at av;exact q i a w (k.same av) j
 ·rw[decide_eq_false i]at av;exact he i a w (k.same av) j
theorem o.split{d:Nat}{b:Bool}(av:cG l d=some (.bool b))(k:b=true→o m P w0 ops Q n ((d,.bool true)::l) rest H)(he:b=false→o m P w0 ops Q n ((d,.bool false)::l) rest H):o m P w0 ops Q n l rest H:=by
 intro a w j i;cases b
 ·exact he rfl a w (j.same av) i
 ·exact k rfl a w (j.same av) i
theorem aR.sub{l':bO}(h:aR w0 Q n l' H)(aj:Sub l' l):aR w0 Q n l H:=fun a w i d=>h a w (i.sub aj) d
theorem G.region{id:Nat}{d:List Oper}(h:o false P w0 d.toArray Q n l d H):G P w0 Q n l (.region id d.toArray false) H:=
 fun a w j i=>wp_region_lit (h a w j i)
theorem G.FK{id:Nat}{d:List Oper}(hm:P.follows .mixedOrders=true)(i:Region.lexB .any d.toArray=true)(h:o true P w0 d.toArray Q n l d H):G P w0 Q n l (.region id d.toArray true) H:=
 fun a w k j=>wp_region_still_lit hm i (h a _ k j.drew)
theorem ik {id : Nat} {d : List Oper} (h : o true P w0 d.toArray Q n l d H) (hm : P.follows .mixedOrders=true := by exact rfl) (i : Region.lexB .any d.toArray=true := by kernel_rfl) : G P w0 Q n l (.region id d.toArray true) H := G.FK hm i h
theorem G.jq{id:Nat}{d:List Oper}(k:Nat)(hm:P.follows .mixedOrders=true)(q:Region.lexTailB .any d.toArray k=true)
 (h:∀K:Exit→Act→World→Prop,(∀l',o false P w0 d.toArray Q n l' (d.drop k) H→aR w0 K n l' H)→o true P w0 d.toArray K n l (d.take k) H):G P w0 Q n l (.region id d.toArray true) H:=
 fun a w A r=>wp_region_still_tail k hm q (h (fun _ i j=>wpList P d.toArray Q (d.drop k) i j) (fun l' C i j B x=>C i j B x) a _ A r.drew)
theorem G.seq{x y:Code}(h:∀K:Exit→Act→World→Prop,(∀l' ab,G P w0 Q n l' y ab→aR w0 K n l' ab)→(∀e,e≠ .normal→∀l' ab,fH w0 Q e n l' ab→fH w0 K e n l' ab)→G P w0 K n l x H):G P w0 Q n l (.seq x y) H:=by
 intro a w r q;refine wp_seq (h (Exit.then (y.wp P Q) Q) (fun l' ab hy d o j i=>hy d o j i) ?_ a w r q);intro e he l' ab k d o j i;have k:=k d o j i;cases e<;>first|exact absurd rfl he|exact k
theorem G.skip(h:aR w0 Q n l H):G P w0 Q n l .skip H:=fun a w i d=>wp_skip (h a w i d)
theorem G.label{k:Nat}(h:aR w0 Q n l H):G P w0 Q n l (.label k) H:=fun a w i d=>wp_label (h a w i d)
theorem G.exit{id:Nat}(h:fH w0 Q (.exit id) n l H):G P w0 Q n l (.exit id) H:=fun a w i d=>wp_exit (h a w i d)
theorem G.ret(h:fH w0 Q .ret n l H):G P w0 Q n l .ret H:=fun a w i d=>wp_ret (h a w i d)
theorem G.cond{c:Operand}{x y:Code}{b:Bool}(av:aH l c=some (.bool b))(j:b=true→G P w0 Q n l x H)(he:b=false→G P w0 Q n l y H):G P w0 Q n l (.cond c x y) H:=
 fun a w d i=>wp_cond_split (d.eval av) (fun h=>j h a w d i) (fun h=>he h a w d i)
theorem cL {c : Operand} {x y : Code} {b : Bool} (d : b=true→G P w0 Q n l x H) (he : b=false→G P w0 Q n l y H) (av : aH l c=some (.bool b) := by exact rfl) : G P w0 Q n l (.cond c x y) H := G.cond av d he
theorem G.Cb{c:Operand}{x y:Code}{p:Prop}[Decidable p](av:aH l c=some (.bool (decide p)))(d:p→G P w0 Q n l x H)(he:¬p→G P w0 Q n l y H):G P w0 Q n l (.cond c x y) H:=
 G.cond av (fun h=>d (of_decide_eq_true h)) (fun h=>he (of_decide_eq_false h))
theorem aW {c : Operand} {x y : Code} {p : Prop} [Decidable p] (d : p→G P w0 Q n l x H) (he : ¬p→G P w0 Q n l y H) (av : aH l c=some (.bool (decide p)) := by exact rfl) : G P w0 Q n l (.cond c x y) H := G.Cb av d he
theorem G.h9{c:Operand}{x y:Code}(av:aH l c=some (.bool true))(d:G P w0 Q n l x H):G P w0 Q n l (.cond c x y) H:=
 G.cond av (fun _=>d) (fun h=>by cases h)
theorem G.Ca{c:Operand}{x y:Code}(av:aH l c=some (.bool false))(he:G P w0 Q n l y H):G P w0 Q n l (.cond c x y) H:=
 G.cond av (fun h=>by cases h) (fun _=>he)
theorem dK {c : Operand} {x y : Code} (he : G P w0 Q n l y H) (av : aH l c=some (.bool false) := by exact rfl) : G P w0 Q n l (.cond c x y) H := G.Ca av he
theorem G.block{id:Nat}{c:Code}(h:∀K:Exit→Act→World→Prop,(∀l' ab,aR w0 Q n l' ab→aR w0 K n l' ab)→(∀l' ab,aR w0 Q n l' ab→fH w0 K (.exit id) n l' ab)→(∀e,e≠ .normal→e≠ .exit id→∀l' ab,fH w0 Q e n l' ab→fH w0 K e n l' ab)→G P w0 K n l c H):G P w0 Q n l (.block id c) H:=by
 intro a w x r;refine wp_block (h (Exit.inBlock id Q) (fun l' ab hy d i o j=>hy d i o j) (fun l' ab hy d i o j=>?_) ?_ a w x r)
 ·show(if id=id then Q .normal d i else Q (.exit id) d i);rw[if_pos rfl];exact hy d i o j
 ·intro e he A l' ab q d i o j
  cases e with
  |normal=>exact absurd rfl he
  |exit k=>
   show(if k=id then Q .normal d i else Q (.exit k) d i)
   rw[if_neg (fun e=>A (by rw[e]))];exact q d i o j
  |goto k=>exact q d i o j
  |ret=>exact q d i o j
  |panic k=>exact q d i o j
  |outgrown=>exact q d i o j
theorem G.scope{c:Code}(h:∀K:Exit→Act→World→Prop,(∀l' ab,aR w0 Q n l' ab→aR w0 K n l' ab)→(∀e,e≠ .normal→(∀k,e≠ .goto k)→∀l' ab,fH w0 Q e n l' ab→fH w0 K e n l' ab)→G P w0 K n l c H):G P w0 Q n l (.scope c) H:=by
 intro a w x r;refine wp_scope_straight (h (Exit.noGoto Q) (fun l' ab hy d q j i=>hy d q j i) ?_ a w x r);intro e he A l' ab o d q j i;have o:=o d q j i;cases e<;>first|exact absurd rfl he|exact absurd rfl (A _)|exact o
theorem G.loop{σ:Type}{c:Code}(ff:σ→bO)(r:σ→Heap→Prop)(μ:σ→Nat)(F:σ)(T:Sub (ff F) l)(J:r F H)
 (round:∀s H,r s H→∀K:Exit→Act→World→Prop,(∀i ab,r i ab→μ i<μ s→aR w0 K n (ff i) ab)→(∀e,e≠ .normal→∀l' ab,fH w0 Q e n l' ab→fH w0 K e n l' ab)→G P w0 K n (ff s) c H):G P w0 Q n l (.loop c) H:=by
 intro a w R N b k cs
 have key:∀bW s H a w,μ s=bW→r s H→Fr n (ff s) a→At w0 H w→
  ∃e j o,Q e j o∧Arrives P (lone (b.at a (.code c:: .inLoop c::k)) cs w) b k cs e j o:=by
  intro bW
  induction bW using Nat.strongRecOn with
  |_ bW ih=>
   intro s H a w M L S O
   have U:=round s H L (Exit.then (fun j o=>∃i ab,Fr n (ff i) j∧At w0 ab o∧r i ab∧μ i<μ s) Q)
    (fun i ab C E j o B A=>⟨i,ab,B,A,C,E⟩) (fun e he l' ab d j o B A=>by have d:=d j o B A;cases e<;>first|exact absurd rfl he|exact d) a w S O
   obtain⟨e,a₁,w₁,d,q⟩:=U b (.inLoop c::k) cs
   cases e with
   |normal=>
    obtain⟨i,ab,B,A,C,E⟩:=d;obtain⟨e₂,a₂,w₂,hq₂,harr₂⟩:=ih (μ i) (M▸E) i ab a₁ w₁ rfl C B A
    exact⟨e₂,a₂,w₂,hq₂,.of_steps (Steps.trans q (.one step_inLoop)) harr₂⟩
   |exit id=>exact⟨_,a₁,w₁,d,.pass (x:= .inLoop c) rfl (fun _ _=> .inl (by simp)) q⟩
   |goto l=>exact⟨_,a₁,w₁,d,.pass (x:= .inLoop c) rfl (fun _ _=> .inl (by simp)) q⟩
   |ret=>exact⟨_,a₁,w₁,d,.pass (x:= .inLoop c) rfl (fun _ _=> .inl (by simp)) q⟩
   |panic dR=>exact⟨_,a₁,w₁,d,.pass (x:= .inLoop c) rfl (fun _ _=> .inl (by simp)) q⟩
   |outgrown=>exact⟨_,a₁,w₁,d,.pass (x:= .inLoop c) rfl (fun _ _=> .inl (by simp)) q⟩
 obtain⟨e,j,o,d,q⟩:=key _ F H a w rfl J (R.sub T) N;exact⟨e,j,o,d,.of_steps (.one step_loop) q⟩
theorem G.cut{σ:Type}{x y:Code}(ff:σ→bO)(q:σ→Heap→Prop)
 (h:∀K:Exit→Act→World→Prop,(∀s ab,q s ab→aR w0 K n (ff s) ab)→(∀e,e≠ .normal→∀l' ab,fH w0 Q e n l' ab→fH w0 K e n l' ab)→G P w0 K n l x H)
 (hy:∀s ab,q s ab→G P w0 Q n (ff s) y ab):G P w0 Q n l (.seq x y) H:=by
 intro a w B A;refine wp_seq (h (Exit.then (y.wp P Q) Q) (fun s ab r d o j i=>hy s ab r d o j i) ?_ a w B A);intro e he l' ab k d o j i;have k:=k d o j i;cases e<;>first|exact absurd rfl he|exact k
end
def aG(P:Program)(w0:World)(f:FuncId)(args:Array Value)(H:Heap)(d:Value→Heap→Prop):Prop:=
 ∀w,At w0 H w→Calls P f args w (fun e i=>∃r ab,e= .returned r∧At w0 ab i∧d r ab)
def zz(w0:World)(d:Value→Heap→Prop):Ending→World→Prop:=fun e i=>∃r ab,e= .returned r∧At w0 ab i∧d r ab
def lN(args:List Value)(k:Nat):bO:=match args with
 |[]=>[]
 |v::r=>(k,v)::lN r (k+1)
theorem rN:∀(args:List Value) (k t:Nat) (v:Value),cG (lN args k) t=some v→k≤t∧args[t-k]?=some v
 |[],_,_,_,e=>by simp[lN,cG]at e
 |x::r,k,t,v,e=>by
  simp only[lN,cG]at e
  cases aA:Nat.beq k t with
  |true=>
   have:=Nat.eq_of_beq_eq_true aA;subst this;simp only[aA,Option.some.injEq]at e
   simp[e]
  |false=>
   simp only[aA]at e;obtain⟨d,V⟩:=rN r (k+1) t v e;refine⟨by omega,?_⟩;have:t-k=(t-(k+1))+1:=by omega
   rw[this];simpa using V
theorem aG.enter{P:Program}{w0:World}{f:FuncId}{fn:Func}{c:Code}{args:List Value}{H:Heap}{d:Value→Heap→Prop}{n:Nat}
 (q:P.funcs[f]?=some fn) (aA:fn.body=some c) (aC:fn.ntmps=n) (r:Nat.ble args.length n=true)
 (h:∀Q:Exit→Act→World→Prop,(∀e,(e= .normal∨e= .ret)→∀l ab v,(∀a w,Fr n l a→At w0 ab w→(results fn a.tmps).run P w= .ok v w)→d v ab→fH w0 Q e n l ab)→G P w0 Q n (lN args 0) c H):
 aG P w0 f args.toArray H d:=by
 intro w o;have C:args.length≤n:=Nat.le_of_ble_eq_true r;refine calls_of_wp q aA (h (bodyPost P fn (zz w0 d)) ?_ _ w ⟨rfl,?_,?_⟩ o)
 ·intro e he l ab v A k a B j i
  rcases he with rfl|rfl<;>exact⟨j.defers,v,A a B j i,v,ab,rfl,i,k⟩
 ·simp[aC];omega
 ·intro t v e
  obtain⟨_,V⟩:=rN args 0 t v e;simp only[Nat.sub_zero]at V;simp only;have x:=(List.getElem?_eq_some_iff.1 V).1;rw[Array.getElem?_append_left (by simpa using x)]
  simpa using V
theorem x6{P:Program}{w0:World}{H:Heap}{fn:Func}{n t:Nat}{l:bO}{v:Value}(h:fn.results= #[.tmp t])(e:cG l t=some v):∀a w,Fr n l a→At w0 H w→(results fn a.tmps).run P w= .ok v w:=by
 intro a w d _;rw[results_tmp h];simp[Array.getD_eq_getD_getElem?,d.get t v e]
theorem FR{P:Program}{w0:World}{H:Heap}{fn:Func}{n t u:Nat}{l:bO}{v x:Value}(h:fn.results= #[.tmp t,.tmp u])(e:cG l t=some v)(i:cG l u=some x):∀a w,Fr n l a→At w0 H w→(results fn a.tmps).run P w= .ok (.tuple #[v,x]) w:=by
 intro a w d _;rw[results_tmp2 h];simp[Array.getD_eq_getD_getElem?,d.get t v e,d.get u x i]
theorem FT{P:Program}{w0:World}{H:Heap}{fn:Func}{n t u s:Nat}{l:bO}{v x y:Value}(h:fn.results= #[.tmp t,.tmp u,.tmp s])(e:cG l t=some v)(i:cG l u=some x)(j:cG l s=some y):∀a w,Fr n l a→At w0 H w→(results fn a.tmps).run P w= .ok (.tuple #[v,x,y]) w:=by
 intro a w d _;rw[results_tmp3 h];simp[Array.getD_eq_getD_getElem?,d.get t v e,d.get u x i,d.get s y j]
theorem iG{P:Program}{w0:World}{H:Heap}{fn:Func}{n:Nat}{l:bO}(h:fn.results= #[]):∀a w,Fr n l a→At w0 H w→(results fn a.tmps).run P w= .ok (.tuple #[]) w:=by
 intro a w _ _;exact results_none h _ _ _
section
variable {P : Program} {w0 : World} {Q : Exit → Act → World → Prop} {n : Nat} {l : bO} {H : Heap} {ops : Array Oper} {rest : List Oper} {I : Oper} {m : Bool}
def Z(P:Program)(w0:World)(n:Nat)(l:bO)(H:Heap)(I:Oper)(i:Value→Heap→Prop):Prop:=
 ∀a w,Fr n l a→At w0 H w→∃v ab d,(execOp a.eval I).run P w= .ok (.value v) d∧At w0 ab d∧i v ab
theorem o.z{R:Value→Heap→Prop}{d:Nat}(A:Z P w0 n l H I R)(hw:cT ops l I)(ak:I.dst=some d)(aC:Nat.blt d n=true)
 (h:∀v ab,R v ab→o false P w0 ops Q n ((d,v)::l) rest ab):o false P w0 ops Q n l (I::rest) H:=by
 intro a w i q;obtain⟨v,ab,B,x,r,k⟩:=A a w i q;have j:=i.put aC v;rw[←ak]at j;have bz:=h v ab k _ B j r;simp only[jf]at bz⊢;unfold wpList;rw[if_pos (hw n a i)];exact .inl (by unfold Oper.wp;rw[x];exact bz)
def S(P:Program)(w0:World)(n:Nat)(l:bO)(H:Heap)(I:Oper)(i:Heap→Prop):Prop:=
 ∀a w,Fr n l a→At w0 H w→∃ab d,(execOp a.eval I).run P w= .ok .skip d∧At w0 ab d∧i ab
theorem o.s{i:Heap→Prop}(A:S P w0 n l H I i)(hw:cT ops l I)(ak:I.dst=none)
 (h:∀ab,i ab→o false P w0 ops Q n l rest ab):o false P w0 ops Q n l (I::rest) H:=by
 intro a w d q;obtain⟨ab,j,x,r,k⟩:=A a w d q;have bz:=h ab k a j d r;simp only[jf]at bz⊢;unfold wpList;rw[if_pos (hw n a d)];refine .inl ?_;unfold Oper.wp;rw[x];show wpList P ops Q rest (a.put I.dst undef) j;rw[ak];exact bz
theorem yf{ρ:Operand→Value}{f:FuncId}{args:Array Operand}{i:Array TypeId}{w:World}(k:I.op= .call {callee:= .value (.func f),args:=args,argTypes:=i})(hρ:ρ (.func f)= .func (.func f) #[] #[])
 (j:∀(d:Array Value) (w:World),(callFunc f d).run P w= .ok (.enter f d) w):(execOp ρ I).run P w= .ok (.enter f (args.map ρ)) w:=by
 simp[execOp,k,resolve,Deferred.ofValue,hρ,invoke,j]
theorem o.call{k:Value→Heap→Prop}{f d:Nat}{args:List Operand}{A:Array TypeId}{i:List Value}(G:I.op= .call {callee:= .value (.func f),args:=args.toArray,argTypes:=A})
 (F:∀(i:Array Value) (w:World),(callFunc f i).run P w= .ok (.enter f i) w) (J:gH l args=some i) (hw:cT ops l I) (ak:I.dst=some d) (aC:Nat.blt d n=true) (av:aG P w0 f i.toArray H k)
 (h:∀v ab,k v ab→o false P w0 ops Q n ((d,v)::l) rest ab):o false P w0 ops Q n l (I::rest) H:=by
 intro a w j C;simp only[jf];have x:=yf (P:=P) (ρ:=a.eval) (w:=w) G rfl F;rw[List.map_toArray,j.jH J]at x;unfold wpList;rw[if_pos (hw n a j)];refine .inl ?_;unfold Oper.wp;rw[x];show Calls P f i.toArray w _;refine(av w C).mono ?_;rintro e K ⟨r,ab,rfl,E,B⟩;have q:=j.put aC r;rw[←ak]at q;exact h r ab B _ K q E
theorem aV {j : Value→Heap→Prop} {f d : Nat} {args : List Operand} {k : Array TypeId} {i : List Value} (q : ∀(i:Array Value) (w:World),(callFunc f i).run P w= .ok (.enter f i) w) (av : aG P w0 f i.toArray H j) (h : ∀v ab,j v ab→o false P w0 ops Q n ((d,v)::l) rest ab) (r : I.op= .call {callee:= .value (.func f),args:=args.toArray,argTypes:=k} := by exact rfl) (x : gH l args=some i := by exact rfl) (hw : cT ops l I := by exact cT.u rfl) (ak : I.dst=some d := by exact rfl) (aC : Nat.blt d n=true := by exact rfl) : o false P w0 ops Q n l (I::rest) H := o.call r q x hw ak aC av h
end
theorem aG.mono{P:Program}{w0:World}{f:FuncId}{args:Array Value}{H:Heap}{d i:Value→Heap→Prop}(h:aG P w0 f args H d)(o:∀v ab,d v ab→i v ab):aG P w0 f args H i:=
 fun w k=>(h w k).mono fun _ _ ⟨r,ab,he,n,j⟩=>⟨r,ab,he,n,o r ab j⟩
end E

namespace E
def aK(l:List UInt8):Value:= .string ⟨l.toArray⟩
def cell(H:Heap)(a:Addr):Option Value:=match H[a.block]? with
 |some (.cells c _ _)=>if a.spot.isSome then none else c[a.off]?
 |_=>none
theorem At.cell{w0 w:World}{H:Heap}(h:At w0 H w)(a:Addr):w.cell? a=E.cell H a:=by
 unfold World.cell? E.cell;rw[h.heap];rfl
structure b8 (H:Heap) (ad:Addr) (cs:List Value):Prop where
 spot:ad.spot=none
 cells:∀j c,cs[j]?=some c→cell H ⟨ad.block,ad.off+j,none⟩=some c
theorem add_eq{ad:Addr}(h:ad.spot=none)(j:Nat):ad.add j=⟨ad.block,ad.off+j,none⟩:=by
 obtain⟨b,I,s⟩:=ad;simp only at h;subst h;unfold Addr.add;split
 ·subst_vars;rfl
 ·rfl
theorem b8.drop{H:Heap}{ad:Addr}{cs:List Value}(h:b8 H ad cs)(k:Nat):b8 H (ad.add k) (cs.drop k):=by
 rw[add_eq h.spot];refine⟨rfl,fun j c e=>?_⟩;rw[List.getElem?_drop]at e;have:=h.cells (k+j) c e
 simpa[Nat.add_assoc]using this
theorem b8.take{H:Heap}{ad:Addr}{cs:List Value}(h:b8 H ad cs)(k:Nat):b8 H ad (cs.take k):=by
 refine⟨h.spot,fun j c e=>h.cells j c ?_⟩;rw[List.getElem?_take]at e;split at e
 ·exact e
 ·cases e
structure Rd {α:Type} (F:Nat→Prop) (H:Heap) (f:α→List Value) (sz:Nat) (v:Value) (l:List α):Prop where
 ex:∃a cap,v= .slice a l.length cap∧l.length≤cap∧cap≤maxLen∧(l≠[]→∃ad:Addr,a=some ad∧ad.spot=none∧F ad.block∧ad.block<H.size∧∀i x,l[i]?=some x→b8 H ⟨ad.block,ad.off+i*sz,none⟩ (f x))
structure W (S:Nat→Prop) (H ab:Heap):Prop where
 size:H.size≤ab.size
 same:∀b,b<H.size→¬S b→ab[b]?=H[b]?
theorem W.refl(S:Nat→Prop)(H:Heap):W S H H:=⟨Nat.le_refl _,fun _ _ _=>rfl⟩
theorem W.trans{S i fT:Nat→Prop}{H H1 d:Heap}(h:W S H H1)(k:W i H1 d)(aj:∀b,b<H.size→S b→fT b)(j:∀b,b<H.size→i b→fT b):W fT H d:=
 ⟨Nat.le_trans h.size k.size,fun b aA hu=>(k.same b (Nat.lt_of_lt_of_le aA h.size) (fun e=>hu (j b aA e))).trans (h.same b aA (fun e=>hu (aj b aA e)))⟩
theorem W.weaken{S fT:Nat→Prop}{H H1:Heap}(h:W S H H1)(aj:∀b,b<H.size→S b→fT b):W fT H H1:=⟨h.size,fun b aA hu=>h.same b aA (fun e=>hu (aj b aA e))⟩
theorem W.push(S:Nat→Prop)(H:Heap)(I:Obj):W S H (H.push I):=⟨by simp,fun b aA _=>by rw[Array.getElem?_push,if_neg (by omega)]⟩
abbrev aq(H ab:Heap):Prop:=W (fun _=>False) H ab
theorem aq.refl(H:Heap):aq H H:=W.refl _ H
theorem aq.L{H H1 d:Heap}(h:aq H H1)(k:aq H1 d):aq H d:=W.trans h k (fun _ _ e=>e) (fun _ _ e=>e)
theorem aq.pu(H:Heap)(I:Obj):aq H (H.push I):=W.push _ H I
theorem BX{H ab:Heap}{a:Addr}(h:ab[a.block]?=H[a.block]?):cell ab a=cell H a:=by unfold cell;rw[h]
theorem BW{H:Heap}{a:Addr}{v:Value}(h:cell H a=some v):a.block<H.size:=by
 unfold cell at h
 cases aA:H[a.block]? with
 |none=>simp[aA]at h
 |some I=>exact(Array.getElem?_eq_some_iff.1 aA).1
theorem b8.up{S:Nat→Prop}{H ab:Heap}{ad:Addr}{cs:List Value}(h:b8 H ad cs)(s:W S H ab)(d:¬S ad.block):b8 ab ad cs:=
 ⟨h.spot,fun j c e=>by
  have av:=h.cells j c e;have i:ad.block<H.size:=BW (a:=⟨ad.block,ad.off+j,none⟩) av;exact(BX (a:=⟨ad.block,ad.off+j,none⟩) (s.same ad.block i d)).trans av⟩
theorem b8.N{H ab:Heap}{ad:Addr}{cs:List Value}(h:b8 H ad cs)(s:aq H ab):b8 ab ad cs:=h.up s (fun e=>e)
section
variable {α : Type} {F : Nat → Prop} {H ab : Heap} {f : α → List Value} {sz : Nat} {v : Value} {l : List α}
theorem Rd.up{S:Nat→Prop}(h:Rd F H f sz v l)(s:W S H ab)(r:∀b,b<H.size→F b→¬S b):Rd F ab f sz v l:=by
 obtain⟨a,cap,B,o,V,q⟩:=h.ex;refine⟨a,cap,B,o,V,fun A=>?_⟩;obtain⟨ad,aN,k,d,j,n⟩:=q A;exact⟨ad,aN,k,d,Nat.lt_of_lt_of_le j s.size,fun i x C=>(n i x C).up s (r _ j d)⟩
theorem Rd.N(h:Rd F H f sz v l)(s:aq H ab):Rd F ab f sz v l:=h.up s (fun _ _ _ e=>e)
theorem Rd.imp{d:Nat→Prop}(h:Rd F H f sz v l)(r:∀b,b<H.size→F b→d b):Rd d H f sz v l:=by
 obtain⟨a,cap,A,o,V,q⟩:=h.ex;refine⟨a,cap,A,o,V,fun x=>?_⟩;obtain⟨ad,aN,j,k,i,n⟩:=q x;exact⟨ad,aN,j,r _ i k,i,n⟩
theorem Rd.len(h:Rd F H f sz v l):l.length≤9223372036854775807:=by
 obtain⟨a,cap,j,d,V,i⟩:=h.ex;unfold maxLen at V;omega
theorem Rd.nil(F:Nat→Prop)(H:Heap)(f:α→List Value)(sz:Nat):Rd F H f sz (.slice none 0 0) []:=⟨none,0,rfl,Nat.le_refl _,Nat.zero_le _,fun h=>absurd rfl h⟩
end
section
variable {P : Program} {w0 : World} {n : Nat} {l : bO} {H : Heap} {I : Oper}
theorem Y.move{x:Operand}{v:Value}(i:I.op= .move x)(j:aH l x=some v):Y P w0 n l H I v:=by
 intro a w d k;simp[execOp,i,d.eval j]
theorem fl {x : Operand} {v : Value} (d : I.op= .move x := by exact rfl) (i : aH l x=some v := by exact rfl) : Y P w0 n l H I v := Y.move d i
theorem Y.assign{x:Operand}{v:Value}(i:I.op= .assign x)(j:aH l x=some v):Y P w0 n l H I v:=by
 intro a w d k;simp[execOp,i,d.eval j]
theorem e5 {x : Operand} {v : Value} (d : I.op= .assign x := by exact rfl) (i : aH l x=some v := by exact rfl) : Y P w0 n l H I v := Y.assign d i
theorem Y.tf{c x y:Operand}{v:Value}(i:I.op= .pick c x y)(av:aH l c=some (.bool true))(j:aH l x=some v):Y P w0 n l H I v:=by
 intro a w d k;simp[execOp,i,d.eval j,d.eval av,asBool]
theorem eS {c x y : Operand} {v : Value} (d : I.op= .pick c x y := by exact rfl) (av : aH l c=some (.bool true) := by exact rfl) (i : aH l x=some v := by exact rfl) : Y P w0 n l H I v := Y.tf d av i
theorem Y.te{c x y:Operand}{v:Value}(i:I.op= .pick c x y)(av:aH l c=some (.bool false))(j:aH l y=some v):Y P w0 n l H I v:=by
 intro a w d k;simp[execOp,i,d.eval j,d.eval av,asBool]
theorem er {c x y : Operand} {v : Value} (d : I.op= .pick c x y := by exact rfl) (av : aH l c=some (.bool false) := by exact rfl) (i : aH l y=some v := by exact rfl) : Y P w0 n l H I v := Y.te d av i
theorem Y.extract{x:Operand}{k:Nat}{d:Array Value}{v:Value}(j:I.op= .extract x k)(q:aH l x=some (.tuple d))(o:d[k]?=some v):Y P w0 n l H I v:=by
 intro a w i r;simp[execOp,j,i.eval q,Instr.extract,o]
theorem cF {x : Operand} {k : Nat} {d : Array Value} {v : Value} (i : I.op= .extract x k := by exact rfl) (o : aH l x=some (.tuple d) := by exact rfl) (j : d[k]?=some v := by exact rfl) : Y P w0 n l H I v := Y.extract i o j
theorem Y.nilCheck{x:Operand}{ad:Addr}(i:I.op= .nilCheck x)(j:aH l x=some (.pointer (some ad))):Y P w0 n l H I (.pointer (some ad)):=by
 intro a w d k;simp[execOp,i,d.eval j]
theorem Y.gD{p:Prop}[Decidable p](h:Y P w0 n l H I (.bool (decide p)))(d:p):Y P w0 n l H I (.bool true):=by rwa[decide_eq_true d]at h
theorem Y.fC{p:Prop}[Decidable p](h:Y P w0 n l H I (.bool (decide p)))(d:¬p):Y P w0 n l H I (.bool false):=by rwa[decide_eq_false d]at h
theorem Y.add{x y:Operand}{t u:TypeId}{k:IntKind}{a b:Int}(i:I.op= .binOp .add t x y u)(j:aH l x=some (.int k a))(hy:aH l y=some (.int k b)):Y P w0 n l H I (.int k (k.wrap (a+b))):=by
 intro a w d o;simp[execOp,i,d.eval j,d.eval hy,binOp,Op.intArith,eqGuard]
theorem Y.sub{x y:Operand}{t u:TypeId}{k:IntKind}{a b:Int}(i:I.op= .binOp .sub t x y u)(j:aH l x=some (.int k a))(hy:aH l y=some (.int k b)):Y P w0 n l H I (.int k (k.wrap (a-b))):=by
 intro a w d o;simp[execOp,i,d.eval j,d.eval hy,binOp,Op.intArith,eqGuard]
theorem Y.mul{x y:Operand}{t u:TypeId}{k:IntKind}{a b:Int}(i:I.op= .binOp .mul t x y u)(j:aH l x=some (.int k a))(hy:aH l y=some (.int k b)):Y P w0 n l H I (.int k (k.wrap (a*b))):=by
 intro a w d o;simp[execOp,i,d.eval j,d.eval hy,binOp,Op.intArith,eqGuard]
theorem Y.rK{x y:Operand}{t u:TypeId}{k:IntKind}{a b c:Int}(d:I.op= .binOp .add t x y u)(i:aH l x=some (.int k a))(hy:aH l y=some (.int k b))(av:k.wrap (a+b)=c):Y P w0 n l H I (.int k c):=by
 subst av;exact Y.add d i hy
theorem Y.G0{x y:Operand}{t u:TypeId}{k:IntKind}{a b c:Int}(d:I.op= .binOp .sub t x y u)(i:aH l x=some (.int k a))(hy:aH l y=some (.int k b))(av:k.wrap (a-b)=c):Y P w0 n l H I (.int k c):=by
 subst av;exact Y.sub d i hy
theorem Y.Eo{x y:Operand}{t u:TypeId}{k:IntKind}{a b c:Int}(d:I.op= .binOp .mul t x y u)(i:aH l x=some (.int k a))(hy:aH l y=some (.int k b))(av:k.wrap (a*b)=c):Y P w0 n l H I (.int k c):=by
 subst av;exact Y.mul d i hy
theorem Y.uy{x y:Operand}{t u:TypeId}{a b:Int}(d:I.op= .binOp .add t x y u)(i:aH l x=some (.int .i64 a))(hy:aH l y=some (.int .i64 b))(aA: -9223372036854775808≤a+b∧a+b≤9223372036854775807):Y P w0 n l H I (.int .i64 (a+b)):=by
 have h:=Y.add (P:=P) (w0:=w0) (n:=n) (H:=H) d i hy;rwa[IntWalk.i64_in _ aA]at h
theorem bD {x y : Operand} {t u : TypeId} {a b : Int} (d : I.op= .binOp .add t x y u := by exact rfl) (i : aH l x=some (.int .i64 a) := by exact rfl) (hy : aH l y=some (.int .i64 b) := by exact rfl) (aA : -9223372036854775808≤a+b∧a+b≤9223372036854775807 := by omega) : Y P w0 n l H I (.int .i64 (a+b)) := Y.uy d i hy aA
theorem Y.ra{x y:Operand}{t u:TypeId}{a b:Int}(d:I.op= .binOp .sub t x y u)(i:aH l x=some (.int .i64 a))(hy:aH l y=some (.int .i64 b))(aA: -9223372036854775808≤a-b∧a-b≤9223372036854775807):Y P w0 n l H I (.int .i64 (a-b)):=by
 have h:=Y.sub (P:=P) (w0:=w0) (n:=n) (H:=H) d i hy;rwa[IntWalk.i64_in _ aA]at h
theorem fG {x y : Operand} {t u : TypeId} {a b : Int} (d : I.op= .binOp .sub t x y u := by exact rfl) (i : aH l x=some (.int .i64 a) := by exact rfl) (hy : aH l y=some (.int .i64 b) := by exact rfl) (aA : -9223372036854775808≤a-b∧a-b≤9223372036854775807 := by omega) : Y P w0 n l H I (.int .i64 (a-b)) := Y.ra d i hy aA
theorem Y.jo{x y:Operand}{t u:TypeId}{a b:Int}(d:I.op= .binOp .mul t x y u)(i:aH l x=some (.int .i64 a))(hy:aH l y=some (.int .i64 b))(aA: -9223372036854775808≤a*b∧a*b≤9223372036854775807):Y P w0 n l H I (.int .i64 (a*b)):=by
 have h:=Y.mul (P:=P) (w0:=w0) (n:=n) (H:=H) d i hy;rwa[IntWalk.i64_in _ aA]at h
theorem Y.rem{x y:Operand}{t u:TypeId}{k:IntKind}{a b:Int}(i:I.op= .binOp .rem t x y u)(j:aH l x=some (.int k a))(hy:aH l y=some (.int k b))(aA:b≠0):Y P w0 n l H I (.int k (a.tmod b)):=by
 intro a w d o;simp[execOp,i,d.eval j,d.eval hy,binOp,Op.intDiv,eqGuard,aA]
theorem Y.FN{x y:Operand}{t u:TypeId}{k:IntKind}{a b:Int}(d:I.op= .binOp .rem t x y u)(i:aH l x=some (.int k a))(hy:aH l y=some (.int k b))(aA:0≤a∧1≤b):Y P w0 n l H I (.int k (a%b)):=by
 have h:=Y.rem (P:=P) (w0:=w0) (n:=n) (H:=H) d i hy (by omega);rwa[Int.tmod_eq_emod_of_nonneg aA.1]at h
theorem Y.bits{x y:Operand}{t u:TypeId}{k:IntKind}{a b:Int}(op:BinOp)(r:Int)(i:I.op= .binOp op t x y u)(q:aH l x=some (.int k a))(hy:aH l y=some (.int k b))(j:op= .and∨op= .or∨op= .xor∨op= .andNot)
 (o:∀w,(Op.intBits op k a b).run P w= .ok (.int k r) w):Y P w0 n l H I (.int k r):=by
 intro a w d A;rcases j with rfl|rfl|rfl|rfl<;>simp[execOp,i,d.eval q,d.eval hy,binOp,o,eqGuard]
theorem Y.shl{x y:Operand}{t u:TypeId}{k a7:IntKind}{a b:Int}(i:I.op= .binOp .shl t x y u)(j:aH l x=some (.int k a))(hy:aH l y=some (.int a7 b))(aA:0≤b):Y P w0 n l H I (.int k (k.wrap (a*2^min b.toNat k.bits))):=by
 intro a w d o;simp[execOp,i,d.eval j,d.eval hy,binOp,Op.shift,eqGuard,show ¬b<0 by omega]
theorem Y.shr{x y:Operand}{t u:TypeId}{k a7:IntKind}{a b:Int}(i:I.op= .binOp .shr t x y u)(j:aH l x=some (.int k a))(hy:aH l y=some (.int a7 b))(aA:0≤b):Y P w0 n l H I (.int k (a.fdiv (2^min b.toNat k.bits))):=by
 intro a w d o;simp[execOp,i,d.eval j,d.eval hy,binOp,Op.shift,eqGuard,show ¬b<0 by omega]
theorem Y.lss{x y:Operand}{t u:TypeId}{k:IntKind}{a b:Int}(i:I.op= .binOp .lss t x y u)(j:aH l x=some (.int k a))(hy:aH l y=some (.int k b)):Y P w0 n l H I (.bool (decide (a<b))):=by
 intro a w d o;simp[execOp,i,d.eval j,d.eval hy,binOp,Op.intCmp,eqGuard]
theorem bH {x y : Operand} {t u : TypeId} {k : IntKind} {a b : Int} (d : I.op= .binOp .lss t x y u := by exact rfl) (i : aH l x=some (.int k a) := by exact rfl) (hy : aH l y=some (.int k b) := by exact rfl) : Y P w0 n l H I (.bool (decide (a<b))) := Y.lss d i hy
theorem Y.leq{x y:Operand}{t u:TypeId}{k:IntKind}{a b:Int}(i:I.op= .binOp .leq t x y u)(j:aH l x=some (.int k a))(hy:aH l y=some (.int k b)):Y P w0 n l H I (.bool (decide (a≤b))):=by
 intro a w d o;simp[execOp,i,d.eval j,d.eval hy,binOp,Op.intCmp,eqGuard]
theorem eF {x y : Operand} {t u : TypeId} {k : IntKind} {a b : Int} (d : I.op= .binOp .leq t x y u := by exact rfl) (i : aH l x=some (.int k a) := by exact rfl) (hy : aH l y=some (.int k b) := by exact rfl) : Y P w0 n l H I (.bool (decide (a≤b))) := Y.leq d i hy
theorem Y.gtr{x y:Operand}{t u:TypeId}{k:IntKind}{a b:Int}(i:I.op= .binOp .gtr t x y u)(j:aH l x=some (.int k a))(hy:aH l y=some (.int k b)):Y P w0 n l H I (.bool (decide (b<a))):=by
 intro a w d o;simp[execOp,i,d.eval j,d.eval hy,binOp,Op.intCmp,eqGuard]
theorem eX {x y : Operand} {t u : TypeId} {k : IntKind} {a b : Int} (d : I.op= .binOp .gtr t x y u := by exact rfl) (i : aH l x=some (.int k a) := by exact rfl) (hy : aH l y=some (.int k b) := by exact rfl) : Y P w0 n l H I (.bool (decide (b<a))) := Y.gtr d i hy
theorem Y.geq{x y:Operand}{t u:TypeId}{k:IntKind}{a b:Int}(i:I.op= .binOp .geq t x y u)(j:aH l x=some (.int k a))(hy:aH l y=some (.int k b)):Y P w0 n l H I (.bool (decide (b≤a))):=by
 intro a w d o;simp[execOp,i,d.eval j,d.eval hy,binOp,Op.intCmp,eqGuard]
theorem dq {x y : Operand} {t u : TypeId} {k : IntKind} {a b : Int} (d : I.op= .binOp .geq t x y u := by exact rfl) (i : aH l x=some (.int k a) := by exact rfl) (hy : aH l y=some (.int k b) := by exact rfl) : Y P w0 n l H I (.bool (decide (b≤a))) := Y.geq d i hy
theorem Ah(a b:Int):(a==b)=decide (a=b):=by by_cases h:a=b<;>simp[h]
theorem Ap(a b:Int):(a !=b)=decide (a≠b):=by by_cases h:a=b<;>simp[h]
theorem Y.eql{x y:Operand}{t u:TypeId}{k:IntKind}{a b:Int}(i:I.op= .binOp .eql t x y u)(j:aH l x=some (.int k a))(hy:aH l y=some (.int k b)):Y P w0 n l H I (.bool (decide (a=b))):=by
 intro ac w d o;rw[←Ah];simp[execOp,i,d.eval j,d.eval hy,binOp,Op.intCmp,eqGuard]
theorem cb {x y : Operand} {t u : TypeId} {k : IntKind} {a b : Int} (d : I.op= .binOp .eql t x y u := by exact rfl) (i : aH l x=some (.int k a) := by exact rfl) (hy : aH l y=some (.int k b) := by exact rfl) : Y P w0 n l H I (.bool (decide (a=b))) := Y.eql d i hy
theorem Y.neq{x y:Operand}{t u:TypeId}{k:IntKind}{a b:Int}(i:I.op= .binOp .neq t x y u)(j:aH l x=some (.int k a))(hy:aH l y=some (.int k b)):Y P w0 n l H I (.bool (decide (a≠b))):=by
 intro ac w d o;rw[←Ap];simp[execOp,i,d.eval j,d.eval hy,binOp,Op.intCmp,eqGuard]
theorem da {x y : Operand} {t u : TypeId} {k : IntKind} {a b : Int} (d : I.op= .binOp .neq t x y u := by exact rfl) (i : aH l x=some (.int k a) := by exact rfl) (hy : aH l y=some (.int k b) := by exact rfl) : Y P w0 n l H I (.bool (decide (a≠b))) := Y.neq d i hy
theorem Y.not{x:Operand}{t:TypeId}{b:Bool}(i:I.op= .unOp .not t x)(j:aH l x=some (.bool b)):Y P w0 n l H I (.bool (!b)):=by
 intro ac w d k;simp[execOp,i,d.eval j,Op.unary]
theorem eG {x : Operand} {t : TypeId} {b : Bool} (d : I.op= .unOp .not t x := by exact rfl) (i : aH l x=some (.bool b) := by exact rfl) : Y P w0 n l H I (.bool (!b)) := Y.not d i
theorem Y.iE{x:Operand}{t:TypeId}{p:Prop}[Decidable p](i:I.op= .unOp .not t x)(j:aH l x=some (.bool (decide p))):Y P w0 n l H I (.bool (decide (¬p))):=by
 intro ac w d k;simp[execOp,i,d.eval j,Op.unary]
theorem Y.conv{x:Operand}{s d:TypeId}{k i:IntKind}{a:Int}{ds:TypeDesc}(o:I.op= .convert s d x)(aj:∀w,(underlying s).run P w= .ok ds w)(ak:∀w,(underlying d).run P w= .ok (.int i) w)(q:aH l x=some (.int k a)):Y P w0 n l H I (.int i (i.wrap a)):=by
 intro ac w j r;simp[execOp,o,j.eval q,convert,aj,ak,Conv.intToInt]
theorem Y.vz{x:Operand}{s d:TypeId}{k i:IntKind}{a:Int}{ds:TypeDesc}(j:I.op= .convert s d x)(aj:∀w,(underlying s).run P w= .ok ds w)(ak:∀w,(underlying d).run P w= .ok (.int i) w)(o:aH l x=some (.int k a))(hw:i.wrap a=a):Y P w0 n l H I (.int i a):=by
 have h:=Y.conv (P:=P) (w0:=w0) (n:=n) (H:=H) j aj ak o
 rwa[hw]at h
theorem Y.sF{x y:Operand}{o:Array TypeId}{k:IntKind}{a b:Int}(i:I.op= .call {callee:= .builtin .max,args:= #[x,y],argTypes:=o})(j:aH l x=some (.int k a))(hy:aH l y=some (.int k b)):Y P w0 n l H I (.int k (Max.max a b)):=by
 intro ac w d q
 have:(if b>a then b else a)=Max.max a b:=by
  by_cases h:b>a
  ·rw[if_pos h];omega
  ·rw[if_neg h];omega
 simp[execOp,i,d.eval j,d.eval hy,resolve,invoke,builtin,Builtin.max_,Builtin.max2,←this]
theorem Y.Ej{x y:Operand}{o:Array TypeId}{k:IntKind}{a b:Int}(i:I.op= .call {callee:= .builtin .min,args:= #[x,y],argTypes:=o})(j:aH l x=some (.int k a))(hy:aH l y=some (.int k b)):Y P w0 n l H I (.int k (Min.min a b)):=by
 intro ac w d q
 have:(if b<a then b else a)=Min.min a b:=by
  by_cases h:b<a
  ·rw[if_pos h];omega
  ·rw[if_neg h];omega
 simp[execOp,i,d.eval j,d.eval hy,resolve,invoke,builtin,Builtin.min_,Builtin.min2,←this]
theorem aF{k:IntKind}{a b:Int}(h:a=b):some (Value.int k a)=some (.int k b):=by rw[h]
theorem fh{k:IntKind}{a b:Int}(h:a=b):Value.int k a= .int k b:=by rw[h]
theorem cQ{p q:Prop}[Decidable p][Decidable q](h:p↔q):Value.bool (decide p)=Value.bool (decide q):=by
 congr 1;exact decide_eq_decide.2 h
theorem Y.neg{x:Operand}{t:TypeId}{k:IntKind}{a:Int}(i:I.op= .unOp .neg t x)(j:aH l x=some (.int k a)):Y P w0 n l H I (.int k (k.wrap (0-a))):=by
 intro ac w d o;simp[execOp,i,d.eval j,Op.unary,Op.intArith]
theorem Y.ka{x y:Operand}{t u:TypeId}{xs ys:Array Value}{p:Prop}[Decidable p](j:I.op= .binOp .eql t x y u)(hm:P.eqGuardType P.depth t=false)(i:∀w,(Op.equalIn 10000 t (.agg xs) (.agg ys)).run P w= .ok (decide p) w)
 (k:aH l x=some (.agg xs)) (hy:aH l y=some (.agg ys)):Y P w0 n l H I (.bool (decide p)):=by
 intro ac w d o;simp[execOp,j,d.eval k,d.eval hy,run_eqGuard_agg _ _ _ _ _ _ _ hm,run_eql_struct,i]
theorem Y.kt{x y:Operand}{t u:TypeId}{xs ys:Array Value}{p:Prop}[Decidable p](j:I.op= .binOp .neq t x y u)(hm:P.eqGuardType P.depth t=false)(i:∀w,(Op.equalIn 10000 t (.agg xs) (.agg ys)).run P w= .ok (decide p) w)
 (k:aH l x=some (.agg xs)) (hy:aH l y=some (.agg ys)):Y P w0 n l H I (.bool (decide (¬p))):=by
 intro ac w d o;simp[execOp,j,d.eval k,d.eval hy,run_eqGuard_agg _ _ _ _ _ _ _ hm,run_neq_struct,i]
theorem Y.lr{x y:Operand}{t u:TypeId}{a b:List UInt8}(i:I.op= .binOp .eql t x y u)(j:aH l x=some (aK a))(hy:aH l y=some (aK b)):Y P w0 n l H I (.bool (decide (a=b))):=by
 intro ac w d k;have h:(a==b)=decide (a=b):=by by_cases h:a=b<;>simp[h]
 simp[execOp,i,d.eval j,d.eval hy,binOp,Op.stringOp,eqGuard,aK,h]
theorem Y.iZ{x y:Operand}{t u:TypeId}{a b:List UInt8}(i:I.op= .binOp .neq t x y u)(j:aH l x=some (aK a))(hy:aH l y=some (aK b)):Y P w0 n l H I (.bool (decide (a≠b))):=by
 intro ac w d k;have h:(a==b)=decide (a=b):=by by_cases h:a=b<;>simp[h]
 simp[execOp,i,d.eval j,d.eval hy,binOp,Op.stringOp,eqGuard,aK,h]
theorem mX(a:List UInt8):(ByteArray.mk a.toArray).size=a.length:=by simp[ByteArray.size]
theorem Y.q5{x y:Operand}{t u:TypeId}{a b:List UInt8}(j:I.op= .binOp .add t x y u)(k:aH l x=some (aK a))(hy:aH l y=some (aK b))(aA:a.length+b.length≤9223372036854775807):Y P w0 n l H I (aK (a++b)):=by
 intro ac w d o;have i:IntKind.i64.max=9223372036854775807:=by decide
 have:¬(((ByteArray.mk a.toArray).size+(ByteArray.mk b.toArray).size:Nat):Int)>IntKind.i64.max:=by
  rw[mX,mX,i];omega
 have e:(ByteArray.mk a.toArray)++(ByteArray.mk b.toArray)=ByteArray.mk (a++b).toArray:=by
  apply ByteArray.ext;simp[ByteArray.data_append]
 simp only[execOp,j,d.eval k,d.eval hy,binOp,Op.stringOp,eqGuard,aK];rw[if_neg this,e];rfl
theorem Y.kQ{x:Operand}{t:TypeId}{s:List UInt8}(i:I.op= .call {callee:= .builtin .len,args:= #[x],argTypes:= #[t]})(k:∀w,(underlying t).run P w= .ok .string w)(o:aH l x=some (aK s)):Y P w0 n l H I (.int .i64 s.length):=by
 have j:=mX s;intro ac w d q;simp[execOp,i,d.eval o,resolve,invoke,builtin,Builtin.len_,k,goInt,aK,j]
theorem fu {x : Operand} {t : TypeId} {s : List UInt8} (i : ∀w,(underlying t).run P w= .ok .string w) (d : I.op= .call {callee:= .builtin .len,args:= #[x],argTypes:= #[t]} := by exact rfl) (j : aH l x=some (aK s) := by exact rfl) : Y P w0 n l H I (.int .i64 s.length) := Y.kQ d i j
theorem Y.Gv{x i:Operand}{t:TypeId}{s:List UInt8}{k:IntKind}{aF:Int}(j:Nat)(A:I.op= .index t x i)(B:∀w,(underlying t).run P w= .ok .string w)(C:aH l x=some (aK s))(q:aH l i=some (.int k aF))(r:aF=j)(d:j<s.length):Y P w0 n l H I (.int .u8 (s[j]'d).toNat):=by
 intro ac w o E;subst r
 have aj:(ByteArray.mk s.toArray)[j]?=some (s[j]'d):=by
  have bz:j<(ByteArray.mk s.toArray).size:=by rw[mX];exact d
  rw[getElem?_pos _ j bz];simp[ByteArray.getElem_eq_getElem_data]
 simp[execOp,A,o.eval C,o.eval q,Instr.index,asIntOf,B,aj,aK]
theorem jc {x i : Operand} {t : TypeId} {s : List UInt8} {k : IntKind} {aF : Int} (j : Nat) (A : ∀w,(underlying t).run P w= .ok .string w) (r : I.op= .index t x i := by exact rfl) (B : aH l x=some (aK s) := by exact rfl) (o : aH l i=some (.int k aF) := by exact rfl) (q : aF=j := by first|rfl|omega) (d : j<s.length := by omega) : Y P w0 n l H I (.int .u8 (s[j]'d).toNat) := Y.Gv j r A B o q d
theorem Y.yF{x:Operand}{o d:Option Operand}{t:TypeId}{s:List UInt8}(i j:Nat)(B:I.op= .slice t x o d none)(E:∀w,(underlying t).run P w= .ok .string w)(F:aH l x=some (aK s))
 (A:o=none∧i=0∨∃p k aF,o=some p∧aH l p=some (.int k aF)∧aF=(i:Int)) (r:d=none∧j=s.length∨∃p k aF,d=some p∧aH l p=some (.int k aF)∧aF=(j:Int)) (L:i≤j) (M:j≤s.length):Y P w0 n l H I (aK ((s.take j).drop i)):=by
 intro ac w q K
 have aN:∀w,(Instr.sliceBounds false s.length s.length (o.map ac.eval) (d.map ac.eval) none).run P w= .ok (i,j,s.length) w:=by
  intro w
  rcases A with⟨rfl,rfl⟩|⟨p,k,aF,rfl,G,rfl⟩<;>rcases r with⟨rfl,rfl⟩|⟨O,a7,N,rfl,J,rfl⟩<;>
   simp[Instr.sliceBounds,Instr.sliceBound,asIntOf,q.eval, *]
 have hu:∀w,(underlying t).run P w= .ok .string w:=E;have C:(ByteArray.mk s.toArray).size=s.length:=mX s
 have hex:(ByteArray.mk s.toArray).extract i j=ByteArray.mk ((s.take j).drop i).toArray:=by
  apply ByteArray.ext;simp[ByteArray.data_extract,List.extract_toArray,List.extract_eq_take_drop,List.drop_take]
 simp[execOp,B,q.eval F,Instr.sliceAt,Instr.slice,hu,aK,C,aN,hex]
section
variable {α : Type} {F : Nat → Prop} {f : α → List Value} {sz : Nat} {v : Value} {xs : List α}
theorem Y.len{x:Operand}{t e:TypeId}(h:Rd F H f sz v xs)(i:I.op= .call {callee:= .builtin .len,args:= #[x],argTypes:= #[t]})(j:∀w,(underlying t).run P w= .ok (.slice e) w)(k:aH l x=some v):Y P w0 n l H I (.int .i64 xs.length):=by
 obtain⟨a,cap,rfl,_⟩:=h.ex;intro ac w d o;simp[execOp,i,d.eval k,resolve,invoke,builtin,Builtin.len_,j,goInt]
theorem bf {x : Operand} {t e : TypeId} (h : Rd F H f sz v xs) (i : ∀w,(underlying t).run P w= .ok (.slice e) w) (d : I.op= .call {callee:= .builtin .len,args:= #[x],argTypes:= #[t]} := by exact rfl) (j : aH l x=some v := by exact rfl) : Y P w0 n l H I (.int .i64 xs.length) := Y.len h d i j
theorem Y.indexAddr{x i:Operand}{t e:TypeId}{k:IntKind}{aF:Int}(h:Rd F H f sz v xs)(j:Nat)(E:I.op= .indexAddr t x i)(G:∀w,(underlying t).run P w= .ok (.slice e) w)(aj:∀w,(sizeOf e).run P w= .ok sz w)
 (J:aH l x=some v) (B:aH l i=some (.int k aF)) (C:aF=j) (d:j<xs.length):∃ad,(∀ab,Y P w0 n l ab I (.pointer (some ad)))∧b8 H ad (f xs[j]):=by
 obtain⟨a,cap,rfl,M,V,A⟩:=h.ex;obtain⟨ad,rfl,q,K,L,r⟩:=A (by intro e;subst e;simp at d);subst C;refine⟨_,?_,r j xs[j] (by simp[d])⟩;intro ab ac w o N;simp[execOp,E,o.eval J,o.eval B,Instr.indexAt,asIntOf,G,aj,d,add_eq q]
theorem Y.fM{x:Operand}{t:TypeId}{ad:Addr}{c:Value}{cs:List Value}(h:b8 H ad (c::cs))(j:I.op= .load t x)(k:∀w,(isAgg t).run P w= .ok false w)(o:aH l x=some (.pointer (some ad))):Y P w0 n l H I c:=by
 intro ac w i d;have av:=h.cells 0 c (by simp);have:({block:=ad.block,off:=ad.off+0,spot:=none}:Addr)=ad:=by have:=h.spot;obtain⟨b,off,s⟩:=ad;simp_all
 rw[this,←d.cell]at av;simp[execOp,j,i.eval o,Instr.loadAt,Instr.sureAddr,loadVar,k,load,Sem.run,av]
theorem au {x : Operand} {t : TypeId} {ad : Addr} {c : Value} {cs : List Value} (h : b8 H ad (c::cs)) (i : ∀w,(isAgg t).run P w= .ok false w) (d : I.op= .load t x := by exact rfl) (j : aH l x=some (.pointer (some ad)) := by exact rfl) : Y P w0 n l H I c := Y.fM h d i j
theorem run_loadCellsFrom{P:Program}{w:World}{ad:Addr}(aj:ad.spot=none):∀(k i:Nat) (cs:List Value) (acc:Array Value),cs.length=k→(∀j c,cs[j]?=some c→w.cell? ⟨ad.block,ad.off+(i+j),none⟩=some c)→
 (loadCellsFrom ad i k acc).run P w= .ok (acc++cs.toArray) w
 |0,i,cs,acc,d,_=>by
  have:cs=[]:=List.eq_nil_of_length_eq_zero d
  subst this;simp[loadCellsFrom]
 |k+1,i,cs,acc,d,h=>by
  match cs,d with
  |c::cs,d=>
   have n:=h 0 c (by simp);have:=run_loadCellsFrom (P:=P) (w:=w) aj k (i+1) cs (acc.push c) (by simpa using d) (fun j o e=>by have:=h (j+1) o (by simpa using e);rwa[show i+(j+1)=i+1+j by omega]at this);simp only[Nat.add_zero]at n;simp[loadCellsFrom,load,Sem.run,add_eq aj,n,this]
theorem Y.kH{x:Operand}{t:TypeId}{ad:Addr}{cs:List Value}{k:Nat}(h:b8 H ad cs)(q:I.op= .load t x)(r:∀w,(isAgg t).run P w= .ok true w)(aj:∀w,(sizeOf t).run P w= .ok k w)(o:cs.length=k)(A:aH l x=some (.pointer (some ad))):Y P w0 n l H I (.agg cs.toArray):=by
 intro ac w i d;have:=run_loadCellsFrom (P:=P) (w:=w) h.spot k 0 cs #[] o (fun j c e=>by rw[d.cell];simpa using h.cells j c e);simp[execOp,q,i.eval A,Instr.loadAt,Instr.sureAddr,loadVar,r,aj,loadCells,this]
theorem a_ {x : Operand} {t : TypeId} {ad : Addr} {cs : List Value} {k : Nat} (h : b8 H ad cs) (j : ∀w,(isAgg t).run P w= .ok true w) (aj : ∀w,(sizeOf t).run P w= .ok k w) (d : cs.length=k) (i : I.op= .load t x := by exact rfl) (o : aH l x=some (.pointer (some ad)) := by exact rfl) : Y P w0 n l H I (.agg cs.toArray) := Y.kH h i j aj d o
theorem Y.fieldAddr{x:Operand}{s:TypeId}{k off d:Nat}{ad:Addr}{cs:List Value}{fs:Array Field}{fd:Field}(h:b8 H ad cs)(o:I.op= .fieldAddr s x k)(hu:∀w,(underlying s).run P w= .ok (.struct fs) w)(j:fs[k]?=some fd)(q:fd.offset=off)
 (r:∀w,(sizeOf fd.type).run P w= .ok d w) (B:d≠0) (A:aH l x=some (.pointer (some ad))):Y P w0 n l H I (.pointer (some (ad.add off))):=by
 intro ac w i E;have C:=h;simp[execOp,o,i.eval A,Instr.fieldAt,Instr.sureAddr,fieldPlace,hu,j,q,r,B]
theorem Y.slice{x:Operand}{r o:Option Operand}{t e:TypeId}(h:Rd F H f sz v xs)(i j:Nat)(Q:I.op= .slice t x r o none)(R:∀w,(underlying t).run P w= .ok (.slice e) w)(aj:∀w,(sizeOf e).run P w= .ok sz w)(S:aH l x=some v)
 (N:r=none∧i=0∨∃p k aF,r=some p∧aH l p=some (.int k aF)∧aF=(i:Int)) (L:o=none∧j=xs.length∨∃p k aF,o=some p∧aH l p=some (.int k aF)∧aF=(j:Int)) (W:i≤j) (M:j≤xs.length):
 ∃C,(∀ab,Y P w0 n l ab I C)∧Rd F H f sz C ((xs.take j).drop i):=by
 obtain⟨a,cap,rfl,K,V,A⟩:=h.ex;refine⟨.slice (if cap=i then a else a.map (·.add (i*sz))) (j-i) (cap-i),?_,?_⟩
 ·intro ab ac w B U
  have aN:∀w,(Instr.sliceBounds true xs.length cap (r.map ac.eval) (o.map ac.eval) none).run P w= .ok (i,j,cap) w:=by
   intro w;have T:j≤cap:=by omega
   rcases N with⟨rfl,rfl⟩|⟨p,k,aF,rfl,K,rfl⟩<;>rcases L with⟨rfl,rfl⟩|⟨aa,a7,Z,rfl,A,rfl⟩<;>
    simp[Instr.sliceBounds,Instr.sliceBound,asIntOf,B.eval, *]
  have hu:∀w,(underlying t).run P w= .ok (.slice e) w:=R;simp[execOp,Q,B.eval S,Instr.sliceAt,Instr.slice,hu,aj,aN]
 ·have hlen:((xs.take j).drop i).length=j-i:=by simp;omega
  refine⟨_,_,by rw[hlen],by rw[hlen];omega,by omega,fun O=>?_⟩
  have X:i<j:=by
   apply Decidable.byContradiction;intro av;exact O (List.eq_nil_of_length_eq_zero (by rw[hlen];omega))
  obtain⟨ad,rfl,d,E,G,J⟩:=A (by intro e;subst e;simp at M;omega);rw[if_neg (by omega)];refine⟨ad.add (i*sz),rfl,by rw[add_eq d],by rw[add_eq d];exact E,by rw[add_eq d];exact G,fun q y hy=>?_⟩;rw[add_eq d];rw[List.getElem?_drop,List.getElem?_take]at hy;split at hy
  ·have:=J (i+q) y hy
   simpa[Nat.add_mul,Nat.add_assoc]using this
  ·cases hy
end
end
end E

namespace E
section
variable {P : Program} {ops : Array Oper} {md : Region.Mode} {Q : Exit → Act → World → Prop} {S : World → Prop} {X : List Nat}
def jb(P:Program)(md:Region.Mode)(ops:Array Oper)(Q:Exit→Act→World→Prop)(S:World→Prop)(X:List Nat):Nat→Array Bool→Act→World→Prop
 |0,listed,a,w=>Region.ready md ops listed=[]∧Q .normal a w
 |fuel+1,listed,a,w=>
  (Region.ready md ops listed=[]→Q .normal a w)∧
  ∀i∈Region.ready md ops listed,wpOp P ops Q i (fun j d=>(X.contains i=true∨S d)∧jb P md ops Q S X fuel (listed.setIfInBounds i true) j d) a w
theorem zl:∀(fuel:Nat) (listed:Array Bool) (a:Act) (w:World),jb P md ops Q S X fuel listed a w→wpAny P md ops Q fuel listed a w
 |0,_,_,_,h=>h
 |fuel+1,_,_,_,h=>⟨h.1,fun i k=>wpOp_mono (fun d n j=>zl fuel _ d n j.2) (h.2 i k)⟩
theorem HJ{i:Nat}{r:Oper}{v:Value}(F:ops[i]?=some r)(O:∀(j:Nat) (I:Oper) cs b,ops[j]?=some I→I.op≠ .select cs b)
 (W:∀c a w,Q (.panic c) (a.put r.dst v) w→Q (.panic c) a w) (Y:∀j,X.contains j=true→j=i∨Region.waitsFor md ops j i=true):
 ∀(fuel:Nat) (listed:Array Bool) (a:Act) (w:World),
  (∀j n,ops[j]?=some n→j≠i→listed.getD j true=false→(∀e∈n.after,Region.binds md e=true→e.on≠i)→r.apart ops n=true)→
  i∈Region.ready md ops listed→YieldsIf P ops S r v a→S w→
  jb P md ops Q S X fuel (listed.setIfInBounds i true) (a.put r.dst v) w→jb P md ops Q S X (fuel+1) listed a w:=by
 intro fuel
 induction fuel with
 |zero=>
  intro listed a w _ q hy x H;refine⟨fun h=>(by rw[h]at q;cases q),fun j A=>?_⟩;by_cases d:j=i
  ·subst d;exact hy.wpOp F x ⟨.inr x,H⟩
  ·have:=ready_mono A d
   rw[H.1]at this
   cases this
 |succ fuel ih=>
  intro listed a w K q hy x H;refine⟨fun h=>(by rw[h]at q;cases q),fun j A=>?_⟩;by_cases d:j=i
  ·subst d;exact hy.wpOp F x ⟨.inr x,H⟩
  ·have o:=H.2 j (ready_mono A d)
   obtain⟨M,n,B,Z⟩:=mem_ready.1 A
   have N:∀e∈n.after,Region.binds md e=true→e.on≠i:=fun e he aA heq=>by
    have o:=Z e he aA;have G:=(mem_ready.1 q).1;rw[heq]at o;rcases Nat.lt_or_ge i listed.size with C|C
    ·simp[C]at G o;rw[G]at o;cases o
    ·simp[Array.getElem?_eq_none C]at o
   have ab:¬X.contains j=true:=fun av=>by
    rcases Y j av with h|h
    ·exact d h
    ·obtain⟨al,ah,e,he,aA,ai⟩:=Region.waitsFor_spec h
     have:al=n:=Option.some.inj (ah.symm.trans B);subst this;exact N e he aA ai
   have V:=wpOp_putIf B (K j n B d M N) (fun cs b=>O i r cs b F) (fun cs b=>O j n cs b B) W hy o
   have aa:∀k ok,ops[k]?=some ok→k≠i→(listed.setIfInBounds j true).getD k true=false→
    (∀e∈ok.after,Region.binds md e=true→e.on≠i)→r.apart ops ok=true:=fun k ok ae af R ag=>by
    refine K k ok ae af ?_ ag;by_cases L:j=k
    ·subst L;exact M
    ·rw[getD_set_ne true L]at R;exact R
   refine wpOp_mono (fun U T E=>?_) V;have J:S T:=E.2.1.resolve_left ab;refine⟨.inr J,ih (listed.setIfInBounds j true) U T aa (ready_mono q (Ne.symm d)) E.1 J ?_⟩;rw[Array.setIfInBounds_comm _ _ d];exact E.2.2
theorem tY{i:Nat}{d:Oper}{v:Value}{fuel:Nat}{listed:Array Bool}{a:Act}{w:World}(q:X.all (fun j=>Nat.beq j i||Region.waitsFor md ops j i)=true)(k:ops[i]?=some d)
 (aj:Region.noSelect ops=true) (r:Region.free md ops listed i=true) (A:(Region.ready md ops listed).contains i=true)
 (n:∀c a w,Q (.panic c) (a.put d.dst v) w→Q (.panic c) a w) (hy:YieldsIf P ops S d v a) (o:S w)
 (h:jb P md ops Q S X fuel (listed.setIfInBounds i true) (a.put d.dst v) w):jb P md ops Q S X (fuel+1) listed a w:=
 HJ k (Region.noSelect_spec aj) n (fun j x=>by
  have:=List.all_eq_true.1 q j (by simpa using x);rw[Bool.or_eq_true]at this;exact this.imp Nat.eq_of_beq_eq_true id) fuel listed a w (Region.free_spec k r) (by simpa using A) hy o h
theorem zj{rs:List Nat}{fuel:Nat}{listed:Array Bool}{a:Act}{w:World}(d:Region.ready md ops listed=rs)(o:rs≠[])
 (h:∀i∈rs,wpOp P ops Q i (fun k j=>(X.contains i=true∨S j)∧jb P md ops Q S X fuel (listed.setIfInBounds i true) k j) a w):jb P md ops Q S X (fuel+1) listed a w:=
 ⟨fun n=>absurd (d▸n) o,d▸h⟩
theorem HI{listed:Array Bool}{a:Act}{w:World}(d:Region.ready md ops listed=[])(h:Q .normal a w):∀fuel,jb P md ops Q S X fuel listed a w
 |0=>⟨d,h⟩
 |_+1=>⟨fun _=>h,by rw[d];simp⟩
end
def df(n:Nat)(dn:List Nat):Array Bool:=dn.foldr (fun i a=>a.setIfInBounds i true) (Array.replicate n false)
def T(P:Program)(w0:World)(ops:Array Oper)(Q:Exit→Act→World→Prop)(bK:Heap→Prop)(X:List Nat)(n k:Nat)(dn:List Nat)(l:bO)(H:Heap):Prop:=
 ∀a w,Fr n l a→At w0 H w→jb P .any ops (NoPanic Q) (fun d=>∃ab,At w0 ab d∧bK ab) X k (df ops.size dn) a w
def dM(P:Program)(w0:World)(ops:Array Oper)(Q:Exit→Act→World→Prop)(bK:Heap→Prop)(X:List Nat)(n k i:Nat)(dn:List Nat)(l:bO)(H:Heap):Prop:=
 ∀a w,Fr n l a→At w0 H w→wpOp P ops (NoPanic Q) i (fun j d=>(X.contains i=true∨∃ab,At w0 ab d∧bK ab)∧jb P .any ops (NoPanic Q) (fun d=>∃ab,At w0 ab d∧bK ab) X k (df ops.size (i::dn)) j d) a w
section
variable {P : Program} {w0 : World} {Q : Exit → Act → World → Prop} {n k i : Nat} {dn : List Nat} {l : bO} {H : Heap} {ops : Array Oper} {I : Oper} {bK : Heap → Prop} {X : List Nat}
theorem G.FJ{id:Nat}{d:List Oper}(bK:Heap→Prop)(X:List Nat)(hm:P.follows .mixedOrders=true)(h:T P w0 d.toArray Q bK X n d.length [] l H):G P w0 Q n l (.region id d.toArray true) H:=by
 intro a w j i;refine wp_region_noPanic (wp_region_any hm (zl (S:=fun k=>∃ab,At w0 ab k∧bK ab) (X:=X) _ _ _ _ ?_));have:=h a _ j i.drew
 simpa[df]using this
theorem dg {id : Nat} {d : List Oper} (bK : Heap→Prop) (X : List Nat) (h : T P w0 d.toArray Q bK X n d.length [] l H) (hm : P.follows .mixedOrders=true := by exact rfl) : G P w0 Q n l (.region id d.toArray true) H := G.FJ bK X hm h
theorem T.take{v:Value}{d:Nat}(i:Nat)(B:X.all (fun j=>Nat.beq j i||Region.waitsFor .any ops j i)=true)(F:ops[i]?=some I)(aj:Region.noSelect ops=true)(E:Region.free .any ops (df ops.size dn) i=true)(G:(Region.ready .any ops (df ops.size dn)).contains i=true)
 (hy:∀ab,bK ab→Y P w0 n l ab I v) (hw:cT ops l I) (ak:I.dst=some d) (aC:Nat.blt d n=true) (x:bK H) (h:T P w0 ops Q bK X n k (i::dn) ((d,v)::l) H):T P w0 ops Q bK X n (k+1) dn l H:=by
 intro a w o q;have r:=o.put aC v;rw[←ak]at r;exact tY B F aj E G (fun _ _ _ h=>h) (.inl ⟨hw n a o,fun J ⟨ab,C,A⟩=>hy ab A a J o C⟩) ⟨H,q,x⟩ (h _ w r q)
theorem T.e{α:Type}{g:α→Value}{φ:α→Prop}{d:Nat}(i:Nat)(r:X.all (fun j=>Nat.beq j i||Region.waitsFor .any ops j i)=true)(B:ops[i]?=some I)(aj:Region.noSelect ops=true)(A:Region.free .any ops (df ops.size dn) i=true)(C:(Region.ready .any ops (df ops.size dn)).contains i=true)
 (hy:∃x,(∀ab,Y P w0 n l ab I (g x))∧φ x) (hw:cT ops l I) (ak:I.dst=some d) (aC:Nat.blt d n=true) (q:bK H) (h:∀x,φ x→T P w0 ops Q bK X n k (i::dn) ((d,g x)::l) H):T P w0 ops Q bK X n (k+1) dn l H:=
 let⟨x,o,V⟩:=hy
 T.take i r B aj A C (fun ab _=>o ab) hw ak aC q (h x V)
theorem T.gs{d j e:Nat}{b c:Bool}(i:Nat)(A:X.all (fun j=>Nat.beq j i||Region.waitsFor .any ops j i)=true)(E:ops[i]?=some I)(aj:Region.noSelect ops=true)(B:Region.free .any ops (df ops.size dn) i=true)(K:(Region.ready .any ops (df ops.size dn)).contains i=true)
 (C:I.guard=some (j,b)) (F:(ops[j]?).bind (·.dst)=some e) (av:cG l e=some (.bool c)) (G:(c==b)=false) (ak:I.dst=some d) (aC:Nat.blt d n=true) (x:bK H) (h:T P w0 ops Q bK X n k (i::dn) ((d,undef)::l) H):T P w0 ops Q bK X n (k+1) dn l H:=by
 intro a w q o
 have hw:Region.wanted I (yielded ops a.tmps)=false:=by
  have J:c≠b:=by intro e;subst e;simp at G
  simp[Region.wanted,C,tZ q F av,J]
 have r:=q.put aC undef;rw[←ak]at r;exact tY A E aj B K (fun _ _ _ h=>h) (.inr ⟨hw,rfl⟩) ⟨H,o,x⟩ (h _ w r o)
theorem T.sr{d j e:Nat}{b:Bool}(i:Nat)(C:X.all (fun j=>Nat.beq j i||Region.waitsFor .any ops j i)=true)(G:ops[i]?=some I)(aj:Region.noSelect ops=true)(E:Region.free .any ops (df ops.size dn) i=true)(K:(Region.ready .any ops (df ops.size dn)).contains i=true)
 (F:I.guard=some (j,b)) (J:(ops[j]?).bind (·.dst)=some e) (av:cG l e=some undef) (ak:I.dst=some d) (aC:Nat.blt d n=true) (B:bK H) (h:T P w0 ops Q bK X n k (i::dn) ((d,undef)::l) H):T P w0 ops Q bK X n (k+1) dn l H:=by
 intro a w q o
 have hw:Region.wanted I (yielded ops a.tmps)=false:=by
  have x:=q.get e _ av;have V:(ops[j]?).bind (fun I=>I.dst)=some e:=J
  have A:yielded ops a.tmps j=none:=by
   unfold yielded;rw[V];simp[x,undef]
  simp[Region.wanted,F,A]
 have r:=q.put aC undef;rw[←ak]at r;exact tY C G aj E K (fun _ _ _ h=>h) (.inr ⟨hw,rfl⟩) ⟨H,o,B⟩ (h _ w r o)
theorem T.bp{d:Nat}{p:Prop}[Decidable p](av:cG l d=some (.bool (decide p)))(q:p→T P w0 ops Q bK X n k dn ((d,.bool true)::l) H)(he:¬p→T P w0 ops Q bK X n k dn ((d,.bool false)::l) H):T P w0 ops Q bK X n k dn l H:=by
 intro a w o j;by_cases i:p
 ·rw[decide_eq_true i]at av;exact q i a w (o.same av) j
 ·rw[decide_eq_false i]at av;exact he i a w (o.same av) j
theorem T.split{d:Nat}{b:Bool}(av:cG l d=some (.bool b))(o:b=true→T P w0 ops Q bK X n k dn ((d,.bool true)::l) H)(he:b=false→T P w0 ops Q bK X n k dn ((d,.bool false)::l) H):T P w0 ops Q bK X n k dn l H:=by
 intro a w j i;cases b
 ·exact he rfl a w (j.same av) i
 ·exact o rfl a w (j.same av) i
theorem zk{md:Region.Mode}{Q:Exit→Act→World→Prop}{S d:World→Prop}(k:∀w,d w→S w):∀(fuel:Nat) (listed:Array Bool) (a:Act) (w:World),jb P md ops Q d X fuel listed a w→jb P md ops Q S X fuel listed a w
 |0,_,_,_,h=>h
 |fuel+1,_,_,_,h=>⟨h.1,fun i q=>wpOp_mono (fun o n j=>⟨j.1.imp id (k n),zk k fuel _ o n j.2⟩) (h.2 i q)⟩
theorem T.narrow{SH2:Heap→Prop}(i:∀ab,SH2 ab→bK ab)(h:T P w0 ops Q SH2 X n k dn l H):T P w0 ops Q bK X n k dn l H:=
 fun a w o j=>zk (fun _ ⟨ab,d,V⟩=>⟨ab,d,i ab V⟩) _ _ _ _ (h a w o j)
theorem T.done(j:Region.ready .any ops (df ops.size dn)=[])(h:aR w0 Q n l H):T P w0 ops Q bK X n k dn l H:=
 fun a w i d=>HI (Q:=NoPanic Q) j (NoPanic.normal (h a w i d)) _
theorem cI (h : aR w0 Q n l H) (d : Region.ready .any ops (df ops.size dn)=[] := by kernel_rfl) : T P w0 ops Q bK X n k dn l H := T.done d h
theorem T.one{i:Nat}(r:Region.ready .any ops (df ops.size dn)=[i])(h:dM P w0 ops Q bK X n k i dn l H):T P w0 ops Q bK X n (k+1) dn l H:=
 fun a w q o=>zj r (by simp) (fun j d=>by
  simp only[List.mem_singleton]at d;subst d;exact h a w q o)
theorem T.two{i j:Nat}(x:Region.ready .any ops (df ops.size dn)=[i,j])(h:dM P w0 ops Q bK X n k i dn l H)(V:dM P w0 ops Q bK X n k j dn l H):T P w0 ops Q bK X n (k+1) dn l H:=
 fun a w o d=>zj x (by simp) (fun q r=>by
  simp only[List.mem_cons,List.not_mem_nil,or_false]at r;rcases r with rfl|rfl
  ·exact h a w o d
  ·exact V a w o d)
theorem dM.z{R:Value→Heap→Prop}{d:Nat}(B:ops[i]?=some I)(E:Z P w0 n l H I R)(hw:cT ops l I)(ak:I.dst=some d)(aC:Nat.blt d n=true)
 (h:∀v ab,R v ab→(X.contains i=true∨bK ab)∧T P w0 ops Q bK X n k (i::dn) ((d,v)::l) ab):dM P w0 ops Q bK X n k i dn l H:=by
 intro a w o A;obtain⟨v,ab,F,C,q,x⟩:=E a w o A;obtain⟨j,V⟩:=h v ab x;have r:=o.put aC v;rw[←ak]at r;unfold wpOp;simp only[B];rw[if_pos (hw n a o)];refine .inl ?_;unfold Oper.wp;rw[C];exact⟨j.imp id (fun j=>⟨ab,q,j⟩),V _ F r q⟩
theorem ey {j : Value→Heap→Prop} {d : Nat} (o : ops[i]?=some I) (q : Z P w0 n l H I j) (h : ∀v ab,j v ab→(X.contains i=true∨bK ab)∧T P w0 ops Q bK X n k (i::dn) ((d,v)::l) ab) (hw : cT ops l I := by exact cT.u rfl) (ak : I.dst=some d := by exact rfl) (aC : Nat.blt d n=true := by exact rfl) : dM P w0 ops Q bK X n k i dn l H := dM.z o q hw ak aC h
theorem dM.v{v:Value}{d:Nat}(x:ops[i]?=some I)(hy:Y P w0 n l H I v)(hw:cT ops l I)(ak:I.dst=some d)(aC:Nat.blt d n=true)(q:X.contains i=true∨bK H)
 (h:T P w0 ops Q bK X n k (i::dn) ((d,v)::l) H):dM P w0 ops Q bK X n k i dn l H:=
 dM.z (R:=fun u ab=>u=v∧ab=H) x (fun a w r j=>⟨v,H,w,hy a w r j,j,rfl,rfl⟩) hw ak aC (fun u ab ⟨aN,o⟩=>by subst aN;subst o;exact⟨q,h⟩)
theorem gJ {v : Value} {d : Nat} (o : ops[i]?=some I) (hy : Y P w0 n l H I v) (j : X.contains i=true∨bK H) (h : T P w0 ops Q bK X n k (i::dn) ((d,v)::l) H) (hw : cT ops l I := by exact cT.u rfl) (ak : I.dst=some d := by exact rfl) (aC : Nat.blt d n=true := by exact rfl) : dM P w0 ops Q bK X n k i dn l H := dM.v o hy hw ak aC j h
theorem dM.s{q:Heap→Prop}(C:ops[i]?=some I)(F:S P w0 n l H I q)(hw:cT ops l I)(ak:I.dst=none)
 (h:∀ab,q ab→(X.contains i=true∨bK ab)∧T P w0 ops Q bK X n k (i::dn) l ab):dM P w0 ops Q bK X n k i dn l H:=by
 intro a w o B;obtain⟨ab,d,E,r,A⟩:=F a w o B;obtain⟨j,V⟩:=h ab A;unfold wpOp;simp only[C];rw[if_pos (hw n a o)];refine .inl ?_;unfold Oper.wp;rw[E];show(fun x d=>(X.contains i=true∨∃ab,At w0 ab d∧bK ab)∧jb P .any ops (NoPanic Q) (fun d=>∃ab,At w0 ab d∧bK ab) X k (df ops.size (i::dn)) x d) (a.put I.dst undef) d;rw[ak];exact⟨j.imp id (fun j=>⟨ab,r,j⟩),V a d o r⟩
theorem gW {d : Heap→Prop} (j : ops[i]?=some I) (o : S P w0 n l H I d) (h : ∀ab,d ab→(X.contains i=true∨bK ab)∧T P w0 ops Q bK X n k (i::dn) l ab) (hw : cT ops l I := by exact cT.u rfl) (ak : I.dst=none := by exact rfl) : dM P w0 ops Q bK X n k i dn l H := dM.s j o hw ak h
theorem dM.call{x:Value→Heap→Prop}{f d:Nat}{args:List Operand}{E:Array TypeId}{j:List Value}(K:ops[i]?=some I)(L:I.op= .call {callee:= .value (.func f),args:=args.toArray,argTypes:=E})
 (J:∀(j:Array Value) (w:World),(callFunc f j).run P w= .ok (.enter f j) w) (M:gH l args=some j) (hw:cT ops l I) (ak:I.dst=some d) (aC:Nat.blt d n=true) (av:aG P w0 f j.toArray H x)
 (h:∀v ab,x v ab→(X.contains i=true∨bK ab)∧T P w0 ops Q bK X n k (i::dn) ((d,v)::l) ab):dM P w0 ops Q bK X n k i dn l H:=by
 intro a w q G;have C:=yf (P:=P) (ρ:=a.eval) (w:=w) L rfl J;rw[List.map_toArray,q.jH M]at C;unfold wpOp;simp only[K];rw[if_pos (hw n a q)];refine .inl ?_;unfold Oper.wp;rw[C];show Calls P f j.toArray w _;refine(av w G).mono ?_;rintro e N ⟨r,ab,rfl,A,F⟩;obtain⟨o,V⟩:=h r ab F;have B:=q.put aC r;rw[←ak]at B;exact⟨o.imp id (fun o=>⟨ab,A,o⟩),V _ N B A⟩
theorem b7 {o : Value→Heap→Prop} {f d : Nat} {args : List Operand} {q : Array TypeId} {j : List Value} (r : ∀(j:Array Value) (w:World),(callFunc f j).run P w= .ok (.enter f j) w) (av : aG P w0 f j.toArray H o) (h : ∀v ab,o v ab→(X.contains i=true∨bK ab)∧T P w0 ops Q bK X n k (i::dn) ((d,v)::l) ab) (x : ops[i]?=some I := by exact rfl) (A : I.op= .call {callee:= .value (.func f),args:=args.toArray,argTypes:=q} := by exact rfl) (B : gH l args=some j := by exact rfl) (hw : cT ops l I := by exact cT.u rfl) (ak : I.dst=some d := by exact rfl) (aC : Nat.blt d n=true := by exact rfl) : dM P w0 ops Q bK X n k i dn l H := dM.call x A r B hw ak aC av h
end
end E

namespace E
abbrev bM{α:Type}(H:Heap)(f:α→List Value)(sz:Nat)(v:Value)(l:List α):Prop:=Rd (fun _=>True) H f sz v l
theorem Rd.any{α:Type}{F:Nat→Prop}{H:Heap}{f:α→List Value}{sz:Nat}{v:Value}{l:List α}(h:Rd F H f sz v l):bM H f sz v l:=h.imp (fun _ _ _=>trivial)
theorem Rd.lt{α:Type}{F:Nat→Prop}{H:Heap}{f:α→List Value}{sz:Nat}{v:Value}{l:List α}(h:Rd F H f sz v l):Rd (fun b=>b<H.size) H f sz v l:=h.imp (fun _ aA _=>aA)
def mf(d:Nat×Nat)(n:Nat):Prop:=d.1≤d.2∧∀i,i<n→¬(d.1≤i∧i<d.2)
theorem mf.zero(n:Nat):mf (0,0) n:=⟨Nat.le_refl _,fun _ _ h=>absurd h.2 (Nat.not_lt_zero _)⟩
def Row(H:Heap)(g:Nat)(cur:Array Value)(e:TypeId):Prop:=∃d,H[g]?=some (.cells cur e d)∧mf d cur.size
theorem Row.lt{H:Heap}{g:Nat}{cur:Array Value}{e:TypeId}(h:Row H g cur e):g<H.size:=let⟨_,h,_⟩:=h;(Array.getElem?_eq_some_iff.1 h).1
theorem Row.up{H ab:Heap}{g:Nat}{cur:Array Value}{e:TypeId}(h:Row H g cur e)(aj:ab[g]?=H[g]?):Row ab g cur e:=let⟨d,i,V⟩:=h;⟨d,by rw[aj];exact i,V⟩
theorem Row.cell{H:Heap}{g:Nat}{cur:Array Value}{e:TypeId}(h:Row H g cur e)(i:Nat):E.cell H ⟨g,i,none⟩=cur[i]?:=by
 obtain⟨j,d,_⟩:=h;simp[E.cell,d]
theorem Row.of{H:Heap}{g:Nat}{cur:Array Value}{e:TypeId}(h:H[g]?=some (.cells cur e (0,0))):Row H g cur e:=⟨_,h,mf.zero _⟩
structure Own {α:Type} (aQ:Nat→Prop) (e:TypeId) (H:Heap) (f:α→List Value) (sz:Nat) (v:Value) (l:List α):Prop where
 cells:∀x,(f x).length=sz
 one:∀x,∀u∈f x,u.oneCell'=true
 ex:(v= .slice none 0 0∧l=[])∨∃g cap cur,v= .slice (some ⟨g,0,none⟩) l.length cap∧aQ g∧Row H g cur e∧l.length≤cap∧cap≤maxLen∧cur.size=cap*sz∧cur.toList.take (l.length*sz)=l.flatMap f
abbrev fy(s:List UInt8):List Value:=[aK s]
abbrev nm(x:Int):List Value:=[.int .i64 x]
abbrev a6(b:UInt8):List Value:=[.int .u8 b.toNat]
structure aO where
 a:Option Addr
 len:Nat
 cap:Nat
abbrev aO.v(s:aO):Value:= .slice s.a s.len s.cap
theorem mx(s:List UInt8):(fy s).length=1:=rfl
theorem ns(s:List UInt8):∀u∈fy s,u.oneCell'=true:=by intro u hu;simp only[List.mem_singleton]at hu;subst hu;rfl
theorem kc(s:Int):(nm s).length=1:=rfl
theorem kd(s:Int):∀u∈nm s,u.oneCell'=true:=by intro u hu;simp only[List.mem_singleton]at hu;subst hu;rfl
theorem et(s:UInt8):(a6 s).length=1:=rfl
theorem fB(s:UInt8):∀u∈a6 s,u.oneCell'=true:=by intro u hu;simp only[List.mem_singleton]at hu;subst hu;rfl
def gP:Value→Nat
 | .slice (some a) _ _=>a.block
 | .pointer (some a)=>a.block
 | .map (some r)=>r
 |_=>0
theorem length_flatMap{α:Type}{f:α→List Value}{sz:Nat}(d:∀x,(f x).length=sz):∀l:List α,(l.flatMap f).length=l.length*sz
 |[]=>by simp
 |x::l=>by simp[d x,length_flatMap d l,Nat.add_mul,Nat.add_comm]
theorem qt{α:Type}{f:α→List Value}{sz:Nat}(d:∀x,(f x).length=sz):∀(l:List α) (i j:Nat) (x:α) (c:Value),l[i]?=some x→(f x)[j]?=some c→(l.flatMap f)[i*sz+j]?=some c
 |[],_,_,_,_,h,_=>by simp at h
 |y::l,0,j,x,c,h,av=>by
  simp only[List.getElem?_cons_zero,Option.some.injEq]at h;subst h;have k:=(List.getElem?_eq_some_iff.1 av).1;simp only[List.flatMap_cons,Nat.zero_mul,Nat.zero_add]
  rw[List.getElem?_append_left k];exact av
 |y::l,i+1,j,x,c,h,av=>by
  simp only[List.getElem?_cons_succ]at h;simp only[List.flatMap_cons];rw[List.getElem?_append_right (by rw[d y,Nat.add_mul];omega),d y];have:=qt d l i j x c h av;rwa[show(i+1)*sz+j-sz=i*sz+j by rw[Nat.add_mul];omega]
theorem Own.rd{α:Type}{aQ:Nat→Prop}{e:TypeId}{H:Heap}{f:α→List Value}{sz:Nat}{v:Value}{l:List α}(h:Own aQ e H f sz v l):Rd aQ H f sz v l:=by
 rcases h.ex with⟨rfl,rfl⟩|⟨g,cap,cur,rfl,o,bz,k,V,r,n⟩
 ·exact Rd.nil _ _ _ _
 ·refine⟨_,cap,rfl,k,V,fun _=>⟨_,rfl,rfl,o,bz.lt,fun i x q=>⟨rfl,fun j c av=>?_⟩⟩⟩
  have d:=qt h.cells l i j x c q av;rw[←n,List.getElem?_take]at d;split at d
  ·simp only[Nat.zero_add]
   rw[bz.cell]
   simpa using d
  ·cases d
def cm:Value→aO
 | .slice a l c=>⟨a,l,c⟩
 |_=>⟨none,0,0⟩
theorem Rd.bm{α:Type}{F:Nat→Prop}{H:Heap}{f:α→List Value}{sz:Nat}{v:Value}{l:List α}(h:Rd F H f sz v l):(cm v).v=v:=by
 obtain⟨a,cap,rfl,_⟩:=h.ex;rfl
theorem Rd.pb{α:Type}{F:Nat→Prop}{H:Heap}{f:α→List Value}{sz:Nat}{v:Value}{l:List α}(h:Rd F H f sz v l):v.oneCell'=true:=by
 obtain⟨a,cap,rfl,_⟩:=h.ex;rfl
theorem Own.bm{α:Type}{aQ:Nat→Prop}{e:TypeId}{H:Heap}{f:α→List Value}{sz:Nat}{v:Value}{l:List α}(h:Own aQ e H f sz v l):(cm v).v=v:=h.rd.bm
section
variable {α : Type} {aQ : Nat → Prop} {e : TypeId} {H ab : Heap} {f : α → List Value} {sz : Nat} {v : Value} {l : List α}
theorem Own.nil(i:∀x,(f x).length=sz)(d:∀x,∀u∈f x,u.oneCell'=true):Own aQ e H f sz (.slice none 0 0) []:=⟨i,d,.inl ⟨rfl,rfl⟩⟩
theorem Own.up{S:Nat→Prop}(h:Own aQ e H f sz v l)(s:W S H ab)(i:∀b,b<H.size→aQ b→¬S b):Own aQ e ab f sz v l:=by
 refine⟨h.cells,h.one,?_⟩;rcases h.ex with h|⟨g,cap,cur,j,d,bz,r⟩
 ·exact .inl h
 ·exact .inr ⟨g,cap,cur,j,d,bz.up (s.same g bz.lt (i _ bz.lt d)),r⟩
theorem Own.imp{G':Nat→Prop}(h:Own aQ e H f sz v l)(d:∀b,b<H.size→aQ b→G' b):Own G' e H f sz v l:=by
 refine⟨h.cells,h.one,?_⟩;rcases h.ex with h|⟨g,cap,cur,j,i,bz,r⟩
 ·exact .inl h
 ·exact .inr ⟨g,cap,cur,j,d _ bz.lt i,bz,r⟩
theorem Own.len(h:Own aQ e H f sz v l):l.length≤9223372036854775807:=h.rd.len
theorem Own.at{j:Nat}(h:Own aQ e H f sz v l)(i:j<l.length):aQ (gP v)∧gP v<H.size∧∃cap,v= .slice (some ⟨gP v,0,none⟩) l.length cap:=by
 rcases h.ex with⟨rfl,rfl⟩|⟨g,cap,cur,rfl,d,bz,r⟩
 ·simp at i
 ·exact⟨d,bz.lt,cap,rfl⟩
theorem Own.O{j:Nat}(h:Own aQ e H f sz v l)(i:j<l.length):b8 H ⟨gP v,j*sz,none⟩ (f l[j]):=by
 obtain⟨C,V,cap,d⟩:=h.at i;obtain⟨a,r,k,_,_,q⟩:=h.rd.ex;obtain⟨ad,rfl,x,A,B,n⟩:=q (by intro e;subst e;simp at i);have aA:gP v=ad.block:=by rw[k];rfl
 have:=n j l[j] (by simp[i]);rw[k]at d;simp only[Value.slice.injEq,Option.some.injEq]at d;have o:ad.off=0:=by rw[d.1]
 rw[o,Nat.zero_add,←aA]at this;exact this
theorem yv{f:α→List Value}{sz:Nat}(d:∀x,(f x).length=sz):∀(l:List α) (j k:Nat) (x y:α) (c:Value),l[j]?=some x→k<sz→f y=(f x).set k c→(l.set j y).flatMap f=(l.flatMap f).set (j*sz+k) c
 |[],_,_,_,_,_,h,_,_=>by simp at h
 |z::l,0,k,x,y,c,h,i,hy=>by
  simp only[List.getElem?_cons_zero,Option.some.injEq]at h;subst h;simp only[List.set_cons_zero,List.flatMap_cons,hy,Nat.zero_mul,Nat.zero_add]
  rw[List.set_append_left _ _ (by rw[d z];exact i)]
 |z::l,j+1,k,x,y,c,h,i,hy=>by
  simp only[List.getElem?_cons_succ]at h;simp only[List.set_cons_succ,List.flatMap_cons];rw[yv d l j k x y c h i hy,List.set_append_right _ _ (by rw[d z,Nat.add_mul];omega),d z];congr 2;rw[Nat.add_mul];omega
def jM(H:Heap)(b i:Nat)(c:Value):Heap:=H.modify b fun
 | .cells cs e d=> .cells (cs.setIfInBounds i c) e d
 |I=>I
theorem Dh(H:Heap)(b i:Nat)(c:Value):W (fun k=>k=b) H (jM H b i c):=
 ⟨by simp[jM],fun k _ d=>by simp only[jM,Array.getElem?_modify];rw[if_neg (fun e=>d e.symm)]⟩
theorem Dg{b i:Nat}{c:Value}{cs:Array Value}{e:TypeId}{d:Nat×Nat}(h:H[b]?=some (.cells cs e d)):(jM H b i c)[b]?=some (.cells (cs.setIfInBounds i c) e d):=by
 simp only[jM,Array.getElem?_modify,if_true,h];rfl
theorem Row.set{H:Heap}{b i:Nat}{c:Value}{cs:Array Value}{e:TypeId}(h:Row H b cs e):Row (jM H b i c) b (cs.setIfInBounds i c) e:=
 let⟨d,j,V⟩:=h;⟨d,Dg j,by simpa using V⟩
theorem Own.set{j k:Nat}{y:α}{c:Value}(h:Own aQ e H f sz v l)(d:j<l.length)(r:k<sz)(hy:f y=(f l[j]).set k c):Own aQ e (jM H (gP v) (j*sz+k) c) f sz v (l.set j y):=by
 refine⟨h.cells,h.one,?_⟩;rcases h.ex with⟨rfl,rfl⟩|⟨g,cap,cur,rfl,q,bz,i,V,n,o⟩
 ·simp at d
 ·refine .inr ⟨g,cap,_,by rw[List.length_set],q,bz.set,by rw[List.length_set];exact i,V,by simpa using n,?_⟩
  have x:j*sz+k<l.length*sz:=by
   have:=Nat.mul_le_mul_right sz (show j+1≤l.length from d);rw[Nat.add_mul]at this;omega
  rw[yv h.cells l j k l[j] y c (by simp[d]) r hy,←o,List.length_set,Array.toList_setIfInBounds,List.take_set]
end
theorem w2{α:Type}{d:List α}{k:Nat}(i:d.length=k):(d.zip (List.range' 0 d.length)).map (fun p=>(p.2,p.1))=(List.range k).zip d:=by
 subst i;rw[List.range_eq_range'];generalize 0=s
 induction d generalizing s with
 |nil=>rfl
 |cons v d ih=>simp[List.range'_succ,ih]
section
variable {P : Program} {w0 : World} {n : Nat} {l : bO} {H : Heap} {I : Oper}
theorem At.alloc{w:World}(d:At w0 H w)(i:Obj):At w0 (H.push i) (w.alloc i):=⟨by simp[World.alloc,d.heap],d.os,d.tape,d.output,d.e_⟩
theorem Z.alloc{t:TypeId}{z:Value}(i:I.op= .alloc t)(j:∀w,(zeroValue t).run P w= .ok z w):Z P w0 n l H I (fun v ab=>v= .pointer (some ⟨H.size,0,none⟩)∧ab=H.push (.cells z.cells t)):=by
 intro a w k d;refine⟨_,_,_,?_,d.alloc (.cells z.cells t),rfl,rfl⟩;simp[execOp,i,Instr.alloc,j,newVar,newRow,d.heap]
theorem Z.box{t:TypeId}{x:Operand}{v:Value}(j:I.op= .box t x)(k:aH l x=some v):Z P w0 n l H I (fun r ab=>r= .pointer (some ⟨H.size,0,none⟩)∧ab=H.push (.cells v.cells t)):=by
 intro a w i d;refine⟨_,_,_,?_,d.alloc (.cells v.cells t),rfl,rfl⟩;simp[execOp,j,i.eval k,Instr.box,newVar,newRow,d.heap]
theorem run_store{w:World}{ad:Addr}{c u:Value}(h:w.cell? ad=some u)(i:w.frozen? ad=false)(d:c.oneCell'=true):(store ad c).run P w= .ok () (w.setCell ad c):=by
 cases c<;>first|(simp[Value.oneCell']at d;done)|simp[store,Sem.run,h,i]
theorem S.cell{x y:Operand}{t:TypeId}{b i:Nat}{c:Value}{cs:Array Value}{e:TypeId}(C:I.op= .store t x y)(G:aH l x=some (.pointer (some ⟨b,i,none⟩)))(hy:aH l y=some c)(j:c.oneCell'=true)
 (aj:∀w,(sizeOf t).run P w= .ok 1 w) (A:Row H b cs e) (o:i<cs.size):S P w0 n l H I (fun ab=>ab=jM H b i c):=by
 intro a w k d;obtain⟨⟨f1,f2⟩,aA,F⟩:=A;have av:w.cell? ⟨b,i,none⟩=some cs[i]:=by rw[d.cell];simp[E.cell,aA,o]
 have J:w.frozen? ⟨b,i,none⟩=false:=by have:=F.2 i o;simp only at this;simp[World.frozen?,d.heap,aA];omega
 have B:c.cells= #[c]:=by cases c<;>first|(simp[Value.oneCell']at j;done)|rfl
 refine⟨jM H b i c,{w with heap:=jM H b i c},?_,d.set,rfl⟩;have q:=run_store (P:=P) av J j
 have hw:w.setCell ⟨b,i,none⟩ c={w with heap:=jM H b i c}:=by
  simp only[World.setCell,jM,d.heap];congr 1
 rw[hw]at q;have r:(⟨b,i,none⟩:Addr).add 0=⟨b,i,none⟩:=by simp[Addr.add]
 simp[execOp,C,k.eval G,k.eval hy,Instr.storeAt,Instr.sureAddr,storeVar,B,aj,storeCells,q,r]
section
variable {α : Type} {aQ F : Nat → Prop} {e : TypeId} {f : α → List Value} {sz : Nat} {v : Value} {xs ys : List α}
theorem Y.Ff{x i:Operand}{t:TypeId}{k:IntKind}{aF:Int}(h:Own aQ e H f sz v xs)(j:Nat)(C:I.op= .indexAddr t x i)(E:∀w,(underlying t).run P w= .ok (.slice e) w)(aj:∀w,(sizeOf e).run P w= .ok sz w)
 (F:aH l x=some v) (A:aH l i=some (.int k aF)) (B:aF=j) (o:j<xs.length):Y P w0 n l H I (.pointer (some ⟨gP v,j*sz,none⟩)):=by
 obtain⟨G,V,cap,r⟩:=h.at o;subst B;intro ac w d J;have q:=d.eval F;rw[r]at q;simp[execOp,C,q,d.eval A,Instr.indexAt,asIntOf,E,aj,o,add_eq]
theorem S.own{x y:Operand}{t:TypeId}{c:Value}(h:Own aQ e H f sz v xs)(j k:Nat)(z:α)(E:I.op= .store t x y)(i:aH l x=some (.pointer (some ⟨gP v,j*sz+k,none⟩)))(hy:aH l y=some c)(o:c.oneCell'=true)
 (aj:∀w,(sizeOf t).run P w= .ok 1 w) (d:j<xs.length) (B:k<sz) (J:f z=(f xs[j]).set k c):S P w0 n l H I (fun ab=>Own aQ e ab f sz v (xs.set j z)∧W (fun b=>b=gP v) H ab):=by
 intro a w A q;rcases h.ex with⟨rfl,rfl⟩|⟨g,cap,cur,G,L,bz,M,N,O,Q⟩
 ·simp at d
 ·have aA:gP v=g:=by rw[G];rfl
  have C:j*sz+k<cur.size:=by
   have:=Nat.mul_le_mul_right sz (show j+1≤cap by omega);rw[Nat.add_mul]at this;omega
  obtain⟨ab,K,F,r,rfl⟩:=S.cell (P:=P) (w0:=w0) (n:=n) E (by rw[aA]at i;exact i) hy o aj bz C a w A q;refine⟨_,K,F,r,?_,by rw[aA];exact Dh H g _ c⟩;rw[←aA];exact h.set d B J
theorem Own.new{G':Nat→Prop}{w:World}{z:Value}{cap:Nat}{zs:List α}(av:∀x,(f x).length=sz)(d:∀x,∀u∈f x,u.oneCell'=true)(k:z.cells.size=sz)(j:G' w.heap.size)(V:zs.length≤cap)(i:cap≤maxLen):
 Own G' e (w.alloc (.cells ((zs.flatMap f).toArray++Builtin.zeroCells z.cells (cap-zs.length)) e)).heap f sz (.slice (some ⟨w.heap.size,0,none⟩) zs.length cap) zs:=by
 refine⟨av,d,.inr ⟨w.heap.size,cap,_,rfl,j,.of (heap_alloc_new w _),V,i,?_,?_⟩⟩
 ·simp only[Array.size_append,List.size_toArray,size_zeroCells,k,length_flatMap av,←Nat.add_mul]
  congr 1;omega
 ·simp only[Array.toList_append]
  rw[←length_flatMap av zs];exact List.take_left
theorem Rd.ll{u:Value}{a:Addr}{m c:Nat}(h:Rd F H f sz u ys)(av:∀x,(f x).length=sz)(hu:u= .slice (some a) m c){w:World}(C:At w0 H w):∀j d,(ys.flatMap f)[j]?=some d→w.cell? (a.add j)=some d:=by
 intro j d ak;obtain⟨ad,cap,k,O,P,L⟩:=h.ex;have i:=(List.getElem?_eq_some_iff.1 ak).1;rw[length_flatMap av]at i;have G:ys≠[]:=by intro e;subst e;simp at i
 obtain⟨r,aN,A,M,N,B⟩:=L G
 have K:0<sz:=by rcases Nat.eq_zero_or_pos sz with h|h;·subst h;simp at i
                 ·exact h
 have hdiv:j/sz<ys.length:=Nat.div_lt_of_lt_mul (by rw[Nat.mul_comm];exact i);have J:=B (j/sz) ys[j/sz] (by simp[hdiv]);have hm:j%sz<(f ys[j/sz]).length:=by rw[av];exact Nat.mod_lt _ K
 have n:=J.cells (j%sz) (f ys[j/sz])[j%sz] (by simp[hm]);have o:=qt av ys (j/sz) (j%sz) _ _ (show ys[j/sz]?=some ys[j/sz]by simp[hdiv]) (show(f ys[j/sz])[j%sz]?=some (f ys[j/sz])[j%sz]by simp[hm]);have q:j/sz*sz+j%sz=j:=by rw[Nat.mul_comm];exact Nat.div_add_mod j sz
 rw[q,ak]at o;simp only[Option.some.injEq]at o;have E:a=r:=by rw[hu]at k;simp only[Value.slice.injEq]at k;rw[aN]at k;exact Option.some.inj k.1
 rw[E,add_eq A,C.cell,o];simp only at n;rw[Nat.add_assoc,q]at n;exact n
def c3(P:Program)(t e:TypeId)(sz bytes:Nat):Prop:=P.underlying t=some (.slice e)∧∃i z,P.info? e=some i∧i.zero=some z∧i.size=sz∧i.bytes=bytes∧z.cells.size=sz
theorem mQ(P:Program)(g I:Nat)(t:TypeId)(d:Nat×Nat):∀(k:List Value) (i:Nat) (cur:Array Value) (w:World),w.heap[g]?=some (.cells cur t d)→mf d cur.size→I+i+k.length≤cur.size→(∀v∈k,v.oneCell'=true)→
 (storeCells ⟨g,I,none⟩ k i).run P w= .ok () (w.setRow g (cur.toList.take (I+i)++k++cur.toList.drop (I+i+k.length)).toArray)
 |[],i,cur,w,j,_,_,_=>by
  simp only[storeCells,List.append_nil,List.length_nil,Nat.add_zero,List.take_append_drop,Array.toArray_toList];rw[setRow_self w g cur t d j]
  rfl
 |v::rest,i,cur,w,j,q,n,o=>by
  have r:I+i<cur.size:=by simp at n;omega
  have A:w.cell? ⟨g,I+i,none⟩=some cur[I+i]:=by simp[World.cell?,j,r]
  have B:w.frozen? ⟨g,I+i,none⟩=false:=by
   obtain⟨G,F⟩:=d;have:=q.2 (I+i) r;simp only at this;simp[World.frozen?,j];omega
  have C:(store ((⟨g,I,none⟩:Addr).add i) v).run P w= .ok () (w.setRow g (cur.setIfInBounds (I+i) v)):=by
   rw[add_eq rfl,run_store A B (o v (by simp)),setCell_eq_setRow w g (I+i) cur t d v j]
  have ih:=mQ P g I t d rest (i+1) (cur.setIfInBounds (I+i) v) (w.setRow g (cur.setIfInBounds (I+i) v)) (setRow_heap w g cur _ t _ j) (by simpa using q) (by simp at n⊢;omega) (fun x E=>o x (by simp[E]));simp only[storeCells,Sem.run_bind,C,Result.andThen_ok,ih,setRow_setRow];congr 3;have e:=list_seg_step cur.toList (I+i) v rest (by simp at n⊢;omega)
  simpa[Array.toList_setIfInBounds,Nat.add_assoc]using e
theorem F_{w:World}(t ty e:TypeId)(i:TypeInfo)(H:P.underlying t=some (.slice e))(C:P.info? e=some i)
 (g d n:Nat) (cur:Array Value) (k:Nat×Nat) (B:w.heap[g]?=some (.cells cur e k)) (A:mf k cur.size)
 (a:Addr) (m c:Nat) (news:List Value) (E:news.length=m*i.size) (F:∀j u,news[j]?=some u→w.cell? (a.add j)=some u) (q:∀u∈news,u.oneCell'=true)
 (G:d+m≤n) (x:d*i.size+news.length≤cur.size):
 (Builtin.append_ #[t,t] ty #[.slice (some ⟨g,0,none⟩) d n,.slice (some a) m c]).run P w=
  .ok (.slice (some ⟨g,0,none⟩) (d+m) n) (w.setRow g (cur.toList.take (d*i.size)++news++cur.toList.drop (d*i.size+news.length)).toArray):=by
 have r:=run_firstCells_some (P:=P) w i.size m a m c news E F;have o:=mQ P g (d*i.size) e k news 0 cur w B A (by simpa using x) q;simp only[Nat.add_zero]at o;simp[Builtin.append_,run_underlying H,sizeOf,typeInfo,C,Builtin.lenOf,G,r,Addr.add_lit,o]
theorem Z.append{s x:Operand}{t:TypeId}{u:Value}{bytes:Nat}(h:Own aQ e H f sz v xs)(U:Rd F H f sz u ys)(C:I.op= .call {callee:= .builtin .append,args:= #[s,x],argTypes:= #[t,t]})
 (au:c3 P t e sz bytes) (aj:aH l s=some v) (G:aH l x=some u) (aA:(xs.length+ys.length)*bytes≤140737488355328) (hm:xs.length+ys.length≤9223372036854775807):
 Z P w0 n l H I (fun r ab=>Own (fun b=>aQ b∨H.size≤b) e ab f sz r (xs++ys)∧W aQ H ab):=by
 obtain⟨E,i,z,o,X,aB,ah,aD⟩:=au;subst aB;subst ah;intro a w k d;obtain⟨ad,cap,rfl,aI,aJ,aF⟩:=id U.ex;have K:(ys.flatMap f).length=ys.length*i.size:=length_flatMap h.cells ys
 have ag:∀c∈ys.flatMap f,c.oneCell'=true:=by
  intro c av;obtain⟨y,hy,av⟩:=List.mem_flatMap.1 av;exact h.one y c av
 cases ad with
 |none=>
  have S:ys=[]:=by
   apply Decidable.byContradiction;intro az;obtain⟨ad,aC,_⟩:=aF az;cases aC
  subst S;refine⟨v,H,w,?_,d,by rw[List.append_nil];exact h.imp (fun b _ B=> .inl B),W.refl _ _⟩;rcases h.ex with⟨rfl,rfl⟩|⟨g,A,cur,rfl,B,bz,Y,aa,ae,af⟩
  ·simp[execOp,C,resolve,invoke,builtin,k.eval aj,k.eval G,Builtin.append_,run_underlying E,sizeOf,typeInfo,o,Builtin.lenOf,Builtin.firstCells]
  ·simp[execOp,C,resolve,invoke,builtin,k.eval aj,k.eval G,Builtin.append_,run_underlying E,sizeOf,typeInfo,o,Builtin.lenOf,Builtin.firstCells,Y,storeCells]
 |some ad=>
  have O:=U.ll h.cells rfl d
  have grown:∀(q:Nat) (r:Value),q<xs.length+ys.length→r= .slice (some ⟨w.heap.size,0,none⟩) (xs.length+ys.length) (grownCap w (xs.length+ys.length) q e)→∀J,J=Obj.cells ((xs.flatMap f).toArray++(ys.flatMap f).toArray++Builtin.zeroCells z.cells (grownCap w (xs.length+ys.length) q e-(xs.length+ys.length))) e→
   At w0 (w.drew.alloc J).heap (w.drew.alloc J)∧Own (fun b=>aQ b∨H.size≤b) e (w.drew.alloc J).heap f i.size r (xs++ys)∧W aQ H (w.drew.alloc J).heap:=by
   rintro q r aG rfl J rfl;have an:=grownCap_ge w (xs.length+ys.length) q e;have ai:grownCap w (xs.length+ys.length) q e≤maxLen:=grownCap_le_maxLen w (xs.length+ys.length) q e (by unfold maxLen;omega);have N:At w0 H w.drew:=d.drew;refine⟨⟨rfl,d.os,d.tape,d.output,N.e_⟩,?_,?_⟩
   ·have:=Own.new (e:=e) (G':=fun b=>aQ b∨H.size≤b) (w:=w.drew) (z:=z) (cap:=grownCap w (xs.length+ys.length) q e) (zs:=xs++ys) h.cells h.one aD (.inr (by rw[N.heap];exact Nat.le_refl _)) (by simpa using an) ai
    simpa using this
   ·rw[(N.alloc _).heap];exact W.push _ _ _
  rcases h.ex with⟨rfl,rfl⟩|⟨g,A,cur,rfl,B,bz,Y,aa,ae,af⟩
  ·by_cases ay:ys.length=0
   ·have S:ys=[]:=List.eq_nil_of_length_eq_zero ay
    subst S;refine⟨.slice none 0 0,H,w,?_,d,by simpa using h.imp (fun b _ B=> .inl B),W.refl _ _⟩;simp[execOp,C,resolve,invoke,builtin,k.eval aj,k.eval G,Builtin.append_,run_underlying E,sizeOf,typeInfo,o,Builtin.lenOf,Builtin.firstCells,loadCells,loadCellsFrom]
   ·simp only[List.length_nil,Nat.zero_add]at aA hm
    have L:=run_append_nil (P:=P) w t I.type e i z E o X ad ys.length cap (ys.flatMap f) K O (by omega) (by omega) (by omega);have:=grown 0 _ (by simp;omega) rfl _ rfl;simp only[List.length_nil,Nat.zero_add,List.flatMap_nil,List.nil_append,Array.empty_append]at this;exact⟨_,_,_,by simp[execOp,C,resolve,invoke,builtin,k.eval aj,k.eval G,L],this.1,this.2.1,this.2.2⟩
  ·obtain⟨M,ar,R⟩:=id bz
   have T:w.heap[g]?=some (.cells cur e M):=by rw[d.heap];exact ar
   by_cases Q:xs.length+ys.length≤A
   ·have al:xs.length*i.size+(ys.flatMap f).length≤cur.size:=by rw[K,ae,←Nat.add_mul];exact Nat.mul_le_mul_right _ Q
    have L:=F_ (P:=P) (w:=w) t I.type e i E o g xs.length A cur M T R ad ys.length cap (ys.flatMap f) K O ag Q al;refine⟨.slice (some ⟨g,0,none⟩) (xs.length+ys.length) A,(w.setRow g (cur.toList.take (xs.length*i.size)++ys.flatMap f++cur.toList.drop (xs.length*i.size+(ys.flatMap f).length)).toArray).heap,w.setRow g (cur.toList.take (xs.length*i.size)++ys.flatMap f++cur.toList.drop (xs.length*i.size+(ys.flatMap f).length)).toArray,by simp[execOp,C,resolve,invoke,builtin,k.eval aj,k.eval G,L],⟨rfl,d.os,d.tape,d.output,d.e_⟩,⟨h.cells,h.one,.inr ⟨g,A,_,by rw[List.length_append],   .inl B,⟨M,setRow_heap w g cur _ e _ T,R.1,fun i o=>R.2 i (by simp only[List.size_toArray,List.length_append,List.length_take,List.length_drop,Array.length_toList]at o;omega)⟩,by simpa using Q,aa,?_,?_⟩⟩,⟨by rw[←d.heap];simp[World.setRow],fun b aA aC=>?_⟩⟩
    ·simp only[List.size_toArray,List.length_append,List.length_take,List.length_drop,Array.length_toList]
     omega
    ·have aw:=length_flatMap h.cells xs
     rw[af,←List.flatMap_append,List.length_append,Nat.add_mul,←K,←aw,←List.length_append,←List.flatMap_append];exact List.take_left
    ·rw[←d.heap];exact setRow_other w g b _ (fun e=>aC (e▸B))
   ·have holds:∀j c,(xs.flatMap f)[j]?=some c→w.cell? ((⟨g,0,none⟩:Addr).add j)=some c:=h.rd.ll h.cells rfl d
    have L:=run_append_grow (P:=P) w t I.type e i z E o X ⟨g,0,none⟩ xs.length A (xs.flatMap f) (length_flatMap h.cells xs) holds ad ys.length cap (ys.flatMap f) K O (by omega) (by omega) (growslice_fits (by omega) aA);have:=grown A _ (by omega) rfl _ rfl;exact⟨_,_,_,by simp[execOp,C,resolve,invoke,builtin,k.eval aj,k.eval G,L],this.1,this.2.1,this.2.2⟩
theorem wq(size:Nat):∀(k:List Value) (j off:Nat) (cs:Array Value) (pre d post:List Value),cs.toList=pre++d++post→pre.length=off+j→d.length=k.length→
 ((k.zipIdx j).foldl (fun cs (x:Value×Nat)=>cs.setIfInBounds (off+x.2) x.1) cs).toList=pre++k++post
 |[],j,off,cs,pre,d,post,h,_,i=>by
  have:d=[]:=List.eq_nil_of_length_eq_zero i;subst this
  simpa using h
 |v::k,j,off,cs,pre,d,post,h,n,i=>by
  match d,i with
  |x::d,i=>
   simp only[List.zipIdx_cons,List.foldl_cons]
   have:=wq size k (j+1) off (cs.setIfInBounds (off+j) v) (pre++[v]) d post (by
    rw[Array.toList_setIfInBounds,h,←n];simp) (by simp;omega) (by simpa using i)
   simpa using this
theorem oO(size:Nat):∀(j:List Value) (i:Nat) (cs:Array Value) (pre d:List Value),cs.toList=pre++d→pre.length=i*size→d.length=j.length*size→(∀v∈j,v.cells.size=size)→
 ∃r,Instr.fill (fun i=>some (i*size,size)) cs ((j.zipIdx i).map (fun p=>(p.2,p.1)))=some r∧r.toList=pre++j.flatMap (fun v=>v.cells.toList)
 |[],i,cs,pre,d,h,_,k,_=>by
  have:d=[]:=List.eq_nil_of_length_eq_zero (by simpa using k);subst this
  exact⟨cs,rfl,by simpa using h⟩
 |v::j,i,cs,pre,d,h,B,k,o=>by
  have n:=o v (by simp);have hlen:size≤d.length:=by rw[k];simp[Nat.add_mul]
  have hold:d=d.take size++d.drop size:=(List.take_append_drop size d).symm;have q:cs.toList=pre++d.take size++d.drop size:=by rw[h,List.append_assoc,←hold]
  have F:cs.size=pre.length+d.length:=by rw[←Array.length_toList,h,List.length_append]
  have A:=wq size v.cells.toList 0 (i*size) cs pre (d.take size) (d.drop size) q (by omega) (by rw[List.length_take,show v.cells.toList.length=size from by simpa using n];omega);simp only[List.zipIdx_cons,List.map_cons,Instr.fill];rw[if_neg (by simp[n];omega)]
  obtain⟨r,C,E⟩:=oO size j (i+1) (v.cells.zipIdx.foldl (fun cs (x:Value×Nat)=>cs.setIfInBounds (i*size+x.2) x.1) cs) (pre++v.cells.toList) (d.drop size) (by
   rw[←A,←Array.foldl_toList,Array.toList_zipIdx]) (by simp[n,B,Nat.add_mul]) (by simp[k,Nat.add_mul]) (fun u hu=>o u (by simp[hu]))
  exact⟨r,C,by simpa using E⟩
theorem Z.lit{t:TypeId}{k bytes:Nat}{parts:List (Nat×Operand)}(d:List Value)(zs:List α)(O:I.op= .buildSlice t k parts.toArray)(Y:c3 P t e sz bytes)(Q:gH l (parts.map (·.2))=some d)(N:parts.map (·.1)=List.range k)(j:d.length=k)(ar:k*sz≤16777216)(an:k≤16777216)
 (av:∀x,(f x).length=sz) (U:∀x,∀u∈f x,u.oneCell'=true) (G:d.map (fun v=>v.cells.toList)=zs.map f):
 Z P w0 n l H I (fun r ab=>Own (fun b=>b=H.size) e ab f sz r zs∧aq H ab∧∃c,ab=H.push c):=by
 obtain⟨S,i,z,B,ah,ae,al,au⟩:=Y;subst ae;intro a w X J;have L:=X.jH Q;have T:zs.length=k:=by have:=congrArg List.length G;simpa[j]using this.symm
 have R:(parts.toArray.map (fun(x:Nat×Operand)=>(x.1,a.eval x.2))).toList=(d.zipIdx 0).map (fun p=>(p.2,p.1)):=by
  have aN:parts.map (fun(x:Nat×Operand)=>(x.1,a.eval x.2))=(List.range k).zip d:=by
   rw[←N,←L,List.map_map];clear N L Q O
   induction parts with
   |nil=>rfl
   |cons p eP ih=>simp[ih]
  rw[List.map_toArray];simp only;rw[aN,List.zipIdx_eq_zip_range',w2 j]
 have K:∀v∈d,v.cells.size=i.size:=by
  intro v af;have:v.cells.toList∈zs.map f:=by rw[←G];exact List.mem_map.2 ⟨v,af,rfl⟩
  obtain⟨x,_,ag⟩:=List.mem_map.1 this;have:=av x;rw[ag]at this
  simpa using this
 have M:d.flatMap (fun v=>v.cells.toList)=zs.flatMap f:=by rw[List.flatMap_def,List.flatMap_def,G]
 have W:∀(o:Array Value),((Array.range (k*i.size)).map (o[·%o.size]!)).toList=[]++((Array.range (k*i.size)).map (o[·%o.size]!)).toList:=fun _=>rfl
 have F:∃cs:Array Value,cs.toList=zs.flatMap f∧(Instr.buildSlice t k (parts.toArray.map (fun(x:Nat×Operand)=>(x.1,a.eval x.2)))).run P w= .ok (.slice (some ⟨w.heap.size,0,none⟩) k k) (w.alloc (.cells cs e)):=by
  by_cases q:k*i.size=0
  ·obtain⟨r,C,E⟩:=oO i.size d 0 #[] [] [] rfl (by simp) (by simp[j,q]) K
   refine⟨r,by rw[E,M];rfl,?_⟩;simp only[Instr.buildSlice,Sem.run_bind,run_underlying S,Result.andThen_ok,sizeOf,typeInfo,run_program,B,Sem.run_pure,R];have ai:∀g:Nat→Value,(Array.range 0).map g= #[]:=fun g=>by simp
   simp[q,ai,C,newRow]
  ·obtain⟨r,C,E⟩:=oO i.size d 0 ((Array.range (k*i.size)).map (z.cells[·%z.cells.size]!)) [] _ (W _) (by simp) (by simp[j]) K
   refine⟨r,by rw[E,M];rfl,?_⟩;simp only[Instr.buildSlice,Sem.run_bind,run_underlying S,Result.andThen_ok,sizeOf,typeInfo,run_program,B,Sem.run_pure,R];have aa:¬(k*i.size>2^24):=by simp only[Nat.reducePow];omega
   simp[q,aa,zeroValue,typeInfo,B,ah,C,newRow]
 obtain⟨cs,A,F⟩:=F;refine⟨.slice (some ⟨w.heap.size,0,none⟩) k k,H.push (.cells cs e),w.alloc (.cells cs e),?_,J.alloc (.cells cs e),⟨av,U,.inr ⟨H.size,k,cs,?_,rfl,.of (by simp),?_,?_,?_,?_⟩⟩,aq.pu _ _,_,rfl⟩
 ·simp only[execOp,O,Sem.run_bind,F,Result.andThen_ok,Sem.run_pure]
 ·rw[T,J.heap]
 ·omega
 ·unfold maxLen;omega
 ·rw[←Array.length_toList,A,length_flatMap av,T]
 ·rw[←length_flatMap av,List.take_of_length_le (by rw[←A];exact Nat.le_refl _),A]
theorem Y.build{t:TypeId}{parts:List (Nat×Operand)}{d:List Value}{v:Value}(j:I.op= .build t parts.toArray)(k:gH l (parts.map (·.2))=some d)(q:∀w,(Instr.build t ((parts.map (·.1)).zip d).toArray).run P w= .ok v w):Y P w0 n l H I v:=by
 intro a w r A;have i:=r.jH k
 have aN:parts.map (fun(x:Nat×Operand)=>(x.1,a.eval x.2))=(parts.map (·.1)).zip d:=by
  rw[←i,List.map_map];clear i k j q
  induction parts with
  |nil=>rfl
  |cons p eP ih=>simp[ih]
 have o:=q w;rw[←aN]at o;simp[execOp,j,o]
end
end
end E

namespace E
open Go.MapKept
structure hn {κ β:Type} (aQ:Nat→Prop) (H:Heap) (a1:κ→Value) (fv:β→Value) (v:Value) (m:List (κ×β)):Prop where
 ex:∃r es clock,v= .map (some r)∧aQ r∧H[r]?=some (.map es clock)∧Stamped es clock∧es.toList.map (fun e=>(e.key,e.val))=m.map (fun p=>(a1 p.1,fv p.2))
section
variable {κ β : Type} {aQ : Nat → Prop} {H ab : Heap} {a1 : κ → Value} {fv : β → Value} {v : Value} {m : List (κ × β)}
theorem hn.up{S:Nat→Prop}(h:hn aQ H a1 fv v m)(s:W S H ab)(n:∀b,b<H.size→aQ b→¬S b):hn aQ ab a1 fv v m:=by
 obtain⟨r,es,clock,j,V,d,k⟩:=h.ex;have i:=(Array.getElem?_eq_some_iff.1 d).1;exact⟨r,es,clock,j,V,by rw[s.same r i (n r i V)];exact d,k⟩
theorem hn.N(h:hn aQ H a1 fv v m)(s:aq H ab):hn aQ ab a1 fv v m:=h.up s (fun _ _ _ e=>e)
theorem hn.size(h:hn aQ H a1 fv v m):∃r es clock,v= .map (some r)∧H[r]?=some (.map es clock)∧es.size=m.length:=by
 obtain⟨r,es,clock,d,V,i,k,j⟩:=h.ex;refine⟨r,es,clock,d,i,?_⟩;have:=congrArg List.length j
 simpa using this
theorem hn.nodup(h:hn aQ H a1 fv v m):(m.map (·.1)).Nodup:=by
 obtain⟨r,es,clock,n,V,o,i,j⟩:=h.ex;have d:=i.2.2
 have:es.toList.map (·.key)=(m.map (·.1)).map a1:=by
  have:=congrArg (List.map Prod.fst) j
  simpa[Function.comp_def]using this
 rw[this,List.nodup_iff_pairwise_ne,List.pairwise_map]at d;rw[List.nodup_iff_pairwise_ne];exact d.imp (fun k e=>k (by rw[e]))
end
theorem hn.Al{κ β:Type}{aQ:Nat→Prop}{H:Heap}{a1:κ→Value}{fv:β→Value}{v:Value}{m:List (κ×β)}(h:hn aQ H a1 fv v m):gP v<H.size:=by
 obtain⟨r,es,clock,rfl,V,d,i⟩:=h.ex;exact(Array.getElem?_eq_some_iff.1 d).1
def aM{κ β:Type}[DecidableEq κ]:List (κ×β)→κ→Option β
 |[],_=>none
 |p::m,k=>if k=p.1 then some p.2 else aM m k
structure kY {κ:Type} (d:TypeDesc) (a1:κ→Value):Prop where
 key:∀k,IsKey d (a1 k)
 inj:∀a b,a1 a=a1 b→a=b
theorem gp:kY .string aK:=⟨fun _=>trivial,fun a b h=>by simpa[aK]using h⟩
def fD{κ β:Type}[DecidableEq κ](m:List (κ×β))(k:κ)(b:β):List (κ×β):=if(aM m k).isSome then m.map (fun p=>if p.1=k then(p.1,b)else p)else m++[(k,b)]
section
variable {P : Program} {w0 : World} {n : Nat} {l : bO} {H : Heap} {I : Oper}
variable {κ β : Type} [DecidableEq κ] {aQ : Nat → Prop} {a1 : κ → Value} {fv : β → Value} {v : Value} {m : List (κ × β)} {d : TypeDesc}
theorem qm{k:κ}(o:kY d a1):∀(es:List MapEntry) (m:List (κ×β)) (i:Nat),es.map (fun e=>(e.key,e.val))=m.map (fun p=>(a1 p.1,fv p.2))→
 (aM m k=none∧Instr.findNow d (a1 k) es i=some none∧∀x∈es,x.key≠a1 k)∨∃j e b,aM m k=some b∧Instr.findNow d (a1 k) es i=some (some (i+j,fv b))∧es[j]?=some e∧e.key=a1 k∧e.val=fv b
 |[],m,i,h=>by
  have:m=[]:=by cases m<;>simp_all
  subst this
  exact .inl ⟨rfl,rfl,by simp⟩
 |e::es,m,i,h=>by
  match m,h with
  |(a,b)::m,h=>
   simp only[List.map_cons,List.cons.injEq,Prod.mk.injEq]at h;obtain⟨⟨n,V⟩,L⟩:=h;obtain⟨r,B,H⟩:=sameNow_of_keys (o.key k) (b:=e.key) (by rw[n];exact o.key a)
   cases r with
   |true=>
    have M:k=a:=o.inj _ _ (by rw[H.1 rfl,n]);subst M
    exact .inr ⟨0,e,b,by simp[aM],by simp[Instr.findNow,B,V],rfl,n,V⟩
   |false=>
    have A:k≠a:=fun q=>by subst q;have:=H.2 n.symm;cases this
    rcases qm (k:=k) o es m (i+1) L with⟨E,F,G⟩|⟨j,K,J,E,F,G,N,O⟩
    ·refine .inl ⟨?_,by simp[Instr.findNow,B,F],?_⟩
     ·simp only[aM,A,if_false];exact E
     ·intro x C
      cases C with
      |head=>intro q;exact A (o.inj _ _ (by rw[←q,n]))
      |tail _ C=>exact G x C
    ·refine .inr ⟨j+1,K,J,?_,?_,by simpa using G,N,O⟩
     ·simp only[aM,A,if_false];exact E
     ·simp[Instr.findNow,B,F];omega
theorem yj{w:World}{t eW x:TypeId}{z:Value}{k:κ}{ok:Bool}(h:hn aQ H a1 fv v m)(n:kY d a1)(E:At w0 H w)(hm:∀w,(underlying t).run P w= .ok (.map eW x) w)(i:P.underlying eW=some d)(F:∀w,(zeroValue x).run P w= .ok z w):
 (Instr.lookup t v (a1 k) ok).run P w= .ok (if ok then .tuple #[(match aM m k with|some b=>fv b|none=>z),.bool (aM m k).isSome]else(match aM m k with|some b=>fv b|none=>z)) w:=by
 obtain⟨r,es,clock,rfl,V,B,L,C⟩:=h.ex;have A:w.heap[r]?=some (.map es clock):=by rw[E.heap];exact B
 rcases qm (k:=k) n es.toList m 0 C with⟨o,q,G⟩|⟨j,K,J,o,q,G,M,N⟩
 ·simp[Instr.lookup,hm,MapKept.run_getObj_map A,MapKept.run_checkKey i (n.key k),MapKept.run_findKey i q,o,F]
 ·simp[Instr.lookup,hm,MapKept.run_getObj_map A,MapKept.run_checkKey i (n.key k),MapKept.run_findKey i q,o]
theorem Y.lookup{t eW j:TypeId}{x i:Operand}{k:κ}{z0:β}(h:hn aQ H a1 fv v m)(A:kY d a1)(E:I.op= .lookup t x i false)(hm:∀w,(underlying t).run P w= .ok (.map eW j) w)(C:P.underlying eW=some d)(G:∀w,(zeroValue j).run P w= .ok (fv z0) w)
 (F:aH l x=some v) (B:aH l i=some (a1 k)):Y P w0 n l H I (fv ((aM m k).getD z0)):=by
 intro ac w o r;have q:=yj (k:=k) (ok:=false) h A r hm C G;have:(match aM m k with|some b=>fv b|none=>fv z0)=fv ((aM m k).getD z0):=by cases aM m k<;>rfl
 rw[this]at q;simp[execOp,E,o.eval F,o.eval B,q]
theorem Y.xb{x:Operand}{t eW d:TypeId}(h:hn aQ H a1 fv v m)(q:I.op= .call {callee:= .builtin .len,args:= #[x],argTypes:= #[t]})(A:∀w,(underlying t).run P w= .ok (.map eW d) w)(B:aH l x=some v):Y P w0 n l H I (.int .i64 m.length):=by
 obtain⟨r,es,clock,rfl,V,j⟩:=h.size;intro ac w o k;have i:w.heap[r]?=some (.map es clock):=by rw[k.heap];exact V
 simp[execOp,q,o.eval B,resolve,invoke,builtin,Builtin.len_,A,goInt,MapKept.run_getObj_map i,j]
theorem xf{k:κ}{b:β}{key:Value}(A:kY d a1)(B:key=a1 k):∀(es:List MapEntry) (m:List (κ×β)) (j:Nat) (e:MapEntry),es.map (fun e=>(e.key,e.val))=m.map (fun p=>(a1 p.1,fv p.2))→(es.map (·.key)).Nodup→es[j]?=some e→e.key=a1 k→
 (es.modify j (fun e=>{e with key:=key,val:=fv b})).map (fun e=>(e.key,e.val))=(m.map (fun p=>if p.1=k then(p.1,b)else p)).map (fun p=>(a1 p.1,fv p.2))
 |[],_,_,_,_,_,h,_=>by simp at h
 |x::es,m,j,e,h,aC,i,he=>by
  match m,h with
  |(a,c)::m,h=>
   simp only[List.map_cons,List.cons.injEq,Prod.mk.injEq]at h;obtain⟨⟨n,V⟩,o⟩:=h;simp only[List.map_cons,List.nodup_cons]at aC
   cases j with
   |zero=>
    simp only[List.getElem?_cons_zero,Option.some.injEq]at i;subst i;have r:a=k:=A.inj _ _ (by rw[←n,he]);subst r;simp only[List.modify_zero_cons,List.map_cons,if_true,B];congr 1;rw[o,List.map_map];apply List.map_congr_left;intro p E
    have:p.1≠a:=by
     intro e;apply aC.1;have:(a1 p.1,fv p.2)∈es.map (fun e=>(e.key,e.val)):=by rw[o];exact List.mem_map.2 ⟨p,E,rfl⟩
     obtain⟨y,hy,C⟩:=List.mem_map.1 this;simp only[Prod.mk.injEq]at C;exact List.mem_map.2 ⟨y,hy,by rw[C.1,e,n]⟩
    simp[this]
   |succ j=>
    simp only[List.getElem?_cons_succ]at i
    have r:a≠k:=by
     intro q;subst q;apply aC.1;rw[n,←he];exact List.mem_map.2 ⟨e,List.mem_of_getElem? i,rfl⟩
    simp only[List.modify_succ_cons,List.map_cons,r,if_false,n,V];rw[xf A B es m j e o aC.2 i he]
theorem S.mapUpdate{t eW ae:TypeId}{x i y:Operand}{k:κ}{b:β}(h:hn aQ H a1 fv v m)(B:kY d a1)(Z:I.op= .mapUpdate t x i y)(hm:∀w,(underlying t).run P w= .ok (.map eW ae) w)(F:P.underlying eW=some d)
 (aa:aH l x=some v) (T:aH l i=some (a1 k)) (hy:aH l y=some (fv b)):S P w0 n l H I (fun ab=>hn aQ ab a1 fv v (fD m k b)∧W (fun c=>c=gP v) H ab):=by
 intro ac w o A;obtain⟨r,es,clock,C,V,Q,J,K⟩:=h.ex;have E:w.heap[r]?=some (.map es clock):=by rw[A.heap];exact Q
 have af:gP v=r:=by rw[C];rfl
 have ah:=(Array.getElem?_eq_some_iff.1 Q).1;have X:∀q,W (fun c=>c=gP v) H (H.setIfInBounds r q):=fun q=>⟨by simp,fun b aA Y=>by rw[af]at Y;simp[Ne.symm Y]⟩;have R:∀q,(H.setIfInBounds r q)[r]?=some q:=fun q=>by simp[ah]
 rcases qm (k:=k) B es.toList m 0 K with⟨L,M,G⟩|⟨j,O,ai,L,M,G,N,al⟩
 ·refine⟨H.setIfInBounds r (.map (es.push {key:=a1 k,val:=fv b,born:=clock}) (clock+1)),{w with heap:=H.setIfInBounds r (.map (es.push {key:=a1 k,val:=fv b,born:=clock}) (clock+1))},?_,A.set,⟨r,_,_,C,V,R _,stamped_push J G,?_⟩,X _⟩
  ·simp[execOp,Z,o.eval aa,o.eval T,o.eval hy,C,Instr.mapUpdate,hm,MapKept.run_getObj_map E,MapKept.run_checkKey F (B.key k),MapKept.run_findKey F M,MapKept.run_setObj_map _ E,A.heap]
  ·simp[fD,L,K]
 ·have U:es[j]?=some O:=by simpa using G
  have ag:∀e,es[j]?=some e→({e with key:=a1 k,val:=fv b}:MapEntry).key=e.key:=fun e he=>by rw[U]at he;cases he;exact N.symm
  refine⟨H.setIfInBounds r (.map (es.modify j fun e=>{e with key:=a1 k,val:=fv b}) clock),{w with heap:=H.setIfInBounds r (.map (es.modify j fun e=>{e with key:=a1 k,val:=fv b}) clock)},?_,A.set,⟨r,_,_,C,V,R _,stamped_modify J _ _ (fun _ _=>rfl) (fun e _ he=>ag e he),?_⟩,X _⟩
  ·simp[execOp,Z,o.eval aa,o.eval T,o.eval hy,C,Instr.mapUpdate,hm,MapKept.run_getObj_map E,MapKept.run_checkKey F (B.key k),MapKept.run_findKey F M,U,N,MapKept.run_keyThatStays (B.key k),MapKept.run_setObj_map _ E,A.heap]
  ·have:=xf (fv:=fv) (b:=b) B rfl es.toList m j O K J.2.2 G N
   rw[Array.toList_modify,this];simp[fD,L]
theorem Z.makeSlice{α:Type}{f:α→List Value}{sz bytes:Nat}{t e:TypeId}{x c:Operand}{M L:IntKind}{cP:Int}{z:Value}(k:Nat)(z0:α)(S:I.op= .makeSlice t x c)(Q:c3 P t e sz bytes)(aa:∀w,(zeroValue e).run P w= .ok z w)(ae:f z0=z.cells.toList)
 (av:∀x,(f x).length=sz) (j:∀x,∀u∈f x,u.oneCell'=true) (Y:aH l x=some (.int M cP)) (O:aH l c=some (.int L cP)) (R:cP=k) (aA:(bytes:Int)*k≤281474976710656) (ah:k≤9223372036854775807):
 Z P w0 n l H I (fun r ab=>Own (fun b=>b=H.size) e ab f sz r (List.replicate k z0)∧aq H ab∧∃ag,ab=H.push ag):=by
 obtain⟨X,i,d,G,K,U,N,o⟩:=Q;intro ac w E A;subst R
 have af:d=z:=by
  have j:=aa w;simp[zeroValue,typeInfo,G,K]at j;exact j
 subst af;have J:=run_make (P:=P) w t e i d X G K M L (k:Int) k (by omega) (by omega) (by rw[N];exact aA) (by omega);simp only[Int.toNat_natCast,U]at J;refine⟨.slice (some ⟨w.heap.size,0,none⟩) k k,H.push (.cells (madeCells d.cells (k*sz)) e),w.alloc (.cells (madeCells d.cells (k*sz)) e),?_,A.alloc _,⟨av,j,.inr ⟨w.heap.size,k,madeCells d.cells (k*sz),by simp,A.heap▸rfl,.of (by rw[A.heap];simp),by simp,by unfold maxLen;omega,size_madeCells _ _,?_⟩⟩,aq.pu _ _,_,rfl⟩
 ·simp[execOp,S,E.eval Y,E.eval O,J]
 ·rw[List.length_replicate,List.take_of_length_le (by simp[size_madeCells])]
  apply List.ext_getElem?;intro q;by_cases C:q<k*sz
  ·have W:0<sz:=by rcases Nat.eq_zero_or_pos sz with h|h;·subst h;simp at C
                   ·exact h
   have hdiv:q/sz<k:=Nat.div_lt_of_lt_mul (by rw[Nat.mul_comm];exact C);have B:=Nat.mod_lt q W;have F:=qt av (List.replicate k z0) (q/sz) (q%sz) z0 (d.cells[q%sz]'(by rw[o];exact B)) (by simp[hdiv]) (by rw[ae];simp[o,B]);have T:q/sz*sz+q%sz=q:=by rw[Nat.mul_comm];exact Nat.div_add_mod q sz
   rw[T]at F;rw[F];simp only[madeCells,o,Array.getElem?_toList];rw[Array.getElem?_map,Array.getElem?_range,if_pos C];simp[o,B]
  ·rw[List.getElem?_eq_none (by simp[size_madeCells];omega),List.getElem?_eq_none (by rw[length_flatMap av,List.length_replicate];omega)]
end
end E

namespace E
structure Var (e:TypeId) (H:Heap) (b:Nat) (cs:List Value):Prop where
 row:Row H b cs.toArray e
theorem Var.lt{e:TypeId}{H:Heap}{b:Nat}{cs:List Value}(h:Var e H b cs):b<H.size:=h.row.lt
theorem Var.up{e:TypeId}{H ab:Heap}{b:Nat}{cs:List Value}{S:Nat→Prop}(h:Var e H b cs)(s:W S H ab)(d:¬S b):Var e ab b cs:=⟨h.row.up (s.same b h.lt d)⟩
theorem Var.N{e:TypeId}{H ab:Heap}{b:Nat}{cs:List Value}(h:Var e H b cs)(s:aq H ab):Var e ab b cs:=h.up s (fun e=>e)
theorem Var.O{e:TypeId}{H:Heap}{b:Nat}{cs:List Value}(h:Var e H b cs):b8 H ⟨b,0,none⟩ cs:=
 ⟨rfl,fun j c av=>by simp only[Nat.zero_add];rw[h.row.cell];simpa using av⟩
theorem Var.new(H:Heap)(cs:Array Value)(t:TypeId):Var t (H.push (.cells cs t)) H.size cs.toList:=⟨.of (by simp)⟩
def dU(cs:List Value)(i:Nat)(d:List Value):List Value:=cs.take i++d++cs.drop (i+d.length)
theorem tB{cs:List Value}{i:Nat}{d:List Value}(h:i+d.length≤cs.length):(dU cs i d).length=cs.length:=by
 simp[dU];omega
section
variable {P : Program} {w0 : World} {n : Nat} {l : bO} {H : Heap} {I : Oper}
theorem Z.zO{t:TypeId}{z:Value}(q:I.op= .alloc t)(r:∀w,(zeroValue t).run P w= .ok z w):Z P w0 n l H I (fun v ab=>v= .pointer (some ⟨H.size,0,none⟩)∧Var t ab H.size z.cells.toList∧aq H ab∧∃x,ab=H.push x):=by
 intro a w o k;obtain⟨v,ab,A,d,V,i,j⟩:=Z.alloc (P:=P) (w0:=w0) (n:=n) (l:=l) (H:=H) q r a w o k;subst j;exact⟨v,_,A,d,V,i,Var.new _ _ _,aq.pu _ _,_,rfl⟩
theorem dk {t : TypeId} {z : Value} (i : ∀w,(zeroValue t).run P w= .ok z w) (d : I.op= .alloc t := by exact rfl) : Z P w0 n l H I (fun v ab=>v= .pointer (some ⟨H.size,0,none⟩)∧Var t ab H.size z.cells.toList∧aq H ab∧∃j,ab=H.push j) := Z.zO d i
theorem Z.uP{t:TypeId}{x:Operand}{v:Value}(q:I.op= .box t x)(A:aH l x=some v):Z P w0 n l H I (fun r ab=>r= .pointer (some ⟨H.size,0,none⟩)∧Var t ab H.size v.cells.toList∧aq H ab∧∃B,ab=H.push B):=by
 intro a w o k;obtain⟨v,ab,C,d,V,i,j⟩:=Z.box (P:=P) (w0:=w0) (n:=n) (H:=H) q A a w o k;subst j;exact⟨v,_,C,d,V,i,Var.new _ _ _,aq.pu _ _,_,rfl⟩
theorem cY {t : TypeId} {x : Operand} {v : Value} (d : I.op= .box t x := by exact rfl) (i : aH l x=some v := by exact rfl) : Z P w0 n l H I (fun r ab=>r= .pointer (some ⟨H.size,0,none⟩)∧Var t ab H.size v.cells.toList∧aq H ab∧∃j,ab=H.push j) := Z.uP d i
theorem vs{v:Value}(h:v.oneCell'=true):v.cells.toList=[v]:=by cases v<;>first|(simp[Value.oneCell']at h;done)|rfl
theorem Z.nc{t:TypeId}{x:Operand}{v:Value}(o:I.op= .box t x)(q:aH l x=some v)(i:v.oneCell'=true):Z P w0 n l H I (fun r ab=>r= .pointer (some ⟨H.size,0,none⟩)∧Var t ab H.size [v]∧aq H ab∧∃A,ab=H.push A):=by
 intro a w k j;obtain⟨r,ab,J,B,C,E,d,F,G⟩:=Z.uP (P:=P) (w0:=w0) (n:=n) (H:=H) o q a w k j;rw[vs i]at d;exact⟨r,ab,J,B,C,E,d,F,G⟩
theorem At.row{w:World}(d:At w0 H w)(g:Nat)(c:Array Value):At w0 (w.setRow g c).heap (w.setRow g c):=⟨rfl,d.os,d.tape,d.output,d.e_⟩
theorem po{w:World}(d:At w0 H w)(g:Nat)(c:Array Value):W (fun b=>b=g) H (w.setRow g c).heap:=
 ⟨by rw[←d.heap];simp[World.setRow],fun b aA aC=>by rw[←d.heap];exact setRow_other w g b _ (fun e=>aC e)⟩
theorem q7{w:World}(j:At w0 H w){g:Nat}{cur c:Array Value}{e:TypeId}(h:Row H g cur e)(av:c.size=cur.size):Row (w.setRow g c).heap g c e:=by
 obtain⟨d,i,V⟩:=h;exact⟨d,setRow_heap w g cur _ e _ (by rw[j.heap];exact i),by rw[av];exact V⟩
theorem S.cells{x y:Operand}{t:TypeId}{b i k:Nat}{c:Value}{cs:Array Value}{e:TypeId}(E:I.op= .store t x y)(F:aH l x=some (.pointer (some ⟨b,i,none⟩)))(hy:aH l y=some c)(A:∀u∈c.cells.toList,u.oneCell'=true)
 (aj:∀w,(sizeOf t).run P w= .ok k w) (j:c.cells.size=k) (aA:Row H b cs e) (G:i+k≤cs.size):S P w0 n l H I (fun ab=>Row ab b (dU cs.toList i c.cells.toList).toArray e∧W (fun g=>g=b) H ab):=by
 intro a w o d;obtain⟨r,B,C⟩:=id aA;have q:=mQ P b i e r c.cells.toList 0 cs w (by rw[d.heap];exact B) C (by simp[j];omega) A;simp only[Nat.add_zero]at q;refine⟨_,w.setRow b (dU cs.toList i c.cells.toList).toArray,?_,d.row _ _,q7 d aA (by simp[dU,j];omega),po d _ _⟩;simp[execOp,E,o.eval F,o.eval hy,Instr.storeAt,Instr.sureAddr,storeVar,j,aj,q,dU]
theorem S.var{x y:Operand}{t:TypeId}{b i k:Nat}{c:Value}{cs:List Value}{e:TypeId}(h:Var e H b cs)(d j:List Value)(C:I.op= .store t x y)(E:aH l x=some (.pointer (some ⟨b,i,none⟩)))(hy:aH l y=some c)(av:c.cells.toList=d)(o:∀u∈d,u.oneCell'=true)
 (aj:∀w,(sizeOf t).run P w= .ok k w) (B:d.length=k) (A:i+k≤cs.length) (F:dU cs i d=j):S P w0 n l H I (fun ab=>Var e ab b j∧W (fun g=>g=b) H ab):=by
 subst av F;intro a w r q;obtain⟨ab,M,G,J,K,L⟩:=S.cells (P:=P) (w0:=w0) (n:=n) C E hy o aj (by simpa using B) h.row (by simpa using A) a w r q;exact⟨ab,M,G,J,⟨K⟩,L⟩
theorem eh {x y : Operand} {t : TypeId} {b i k : Nat} {c : Value} {cs : List Value} {e : TypeId} (h : Var e H b cs) (d : List Value) (j : List Value) (o : ∀u∈d,u.oneCell'=true) (aj : ∀w,(sizeOf t).run P w= .ok k w) (r : d.length=k) (C : dU cs i d=j) (A : I.op= .store t x y := by exact rfl) (B : aH l x=some (.pointer (some ⟨b,i,none⟩)) := by exact rfl) (hy : aH l y=some c := by exact rfl) (av : c.cells.toList=d := by exact rfl) (q : i+k≤cs.length := by decide) : S P w0 n l H I (fun ab=>Var e ab b j∧W (fun g=>g=b) H ab) := S.var h d j A B hy av o aj r q C
theorem GG{cs:List Value}{i:Nat}{c:Value}(h:i<cs.length):dU cs i [c]=cs.set i c:=by
 simp[dU,List.set_eq_take_append_cons_drop,h]
theorem S.tW{x y:Operand}{t:TypeId}{b:Nat}{c:Value}{cs:List Value}{e:TypeId}(h:Var e H b cs)(i:Nat)(d:List Value)(o:I.op= .store t x y)(q:aH l x=some (.pointer (some ⟨b,i,none⟩)))(hy:aH l y=some c)(j:c.oneCell'=true)
 (aj:∀w,(sizeOf t).run P w= .ok 1 w) (k:i<cs.length) (r:cs.set i c=d):S P w0 n l H I (fun ab=>Var e ab b d∧W (fun g=>g=b) H ab):=
 S.var h [c] d o q hy (vs j) (by simpa using j) aj rfl (by omega) ((GG k).trans r)
theorem dL {x y : Operand} {t : TypeId} {b : Nat} {c : Value} {cs : List Value} {e : TypeId} (h : Var e H b cs) (i : Nat) (d : List Value) (j : c.oneCell'=true) (aj : ∀w,(sizeOf t).run P w= .ok 1 w) (k : i<cs.length) (r : cs.set i c=d) (o : I.op= .store t x y := by exact rfl) (q : aH l x=some (.pointer (some ⟨b,i,none⟩)) := by exact rfl) (hy : aH l y=some c := by exact rfl) : S P w0 n l H I (fun ab=>Var e ab b d∧W (fun g=>g=b) H ab) := S.tW h i d o q hy j aj k r
section
variable {α : Type} {aQ F : Nat → Prop} {e : TypeId} {f : α → List Value} {sz : Nat} {v : Value} {xs ys : List α}
theorem yB{f:α→List Value}{sz:Nat}(n:∀x,(f x).length=sz):∀(l:List α) (j k:Nat) (x y:α) (d post:List Value),l[j]?=some x→k+d.length≤sz→f y=dU (f x) k d→dU (l.flatMap f++post) (j*sz+k) d=(l.set j y).flatMap f++post
 |[],_,_,_,_,_,_,h,_,_=>by simp at h
 |z::l,0,k,x,y,d,post,h,o,hy=>by
  simp only[List.getElem?_cons_zero,Option.some.injEq]at h;subst h;have i:=n z;simp only[List.set_cons_zero,List.flatMap_cons,hy,Nat.zero_mul,Nat.zero_add,dU,List.append_assoc]
  rw[List.take_append_of_le_length (by omega),List.drop_append_of_le_length (by omega)]
 |z::l,j+1,k,x,y,d,post,h,o,hy=>by
  simp only[List.getElem?_cons_succ]at h;have:=yB n l j k x y d post h o hy;have i:=n z;simp only[List.set_cons_succ,List.flatMap_cons,dU,List.append_assoc]at this⊢;rw[List.take_append,List.take_of_length_le (by rw[i,Nat.add_mul];omega),List.drop_append,List.drop_of_length_le (by rw[i,Nat.add_mul];omega),List.nil_append,List.append_assoc];congr 1;rw[show(j+1)*sz+k-(f z).length=j*sz+k by rw[i,Nat.add_mul];omega,show(j+1)*sz+k+d.length-(f z).length=j*sz+k+d.length by rw[i,Nat.add_mul];omega];exact this
theorem S.Fg{x y:Operand}{t:TypeId}{c:Value}{m:Nat}(h:Own aQ e H f sz v xs)(j k:Nat)(z:α)(d:List Value)(K:I.op= .store t x y)(r:aH l x=some (.pointer (some ⟨gP v,j*sz+k,none⟩)))(hy:aH l y=some c)(av:c.cells.toList=d)(A:∀u∈d,u.oneCell'=true)
 (aj:∀w,(sizeOf t).run P w= .ok m w) (hm:d.length=m) (i:j<xs.length) (G:k+m≤sz) (L:f z=dU (f xs[j]) k d):S P w0 n l H I (fun ab=>Own aQ e ab f sz v (xs.set j z)∧W (fun b=>b=gP v) H ab):=by
 subst av;intro a w E B;rcases h.ex with⟨rfl,rfl⟩|⟨g,cap,cur,q,F,bz,R,T,U,X⟩
 ·simp at i
 ·have aA:gP v=g:=by rw[q];rfl
  have J:j*sz+k+m≤cur.size:=by
   have:=Nat.mul_le_mul_right sz (show j+1≤cap by omega);rw[Nat.add_mul]at this;omega
  obtain⟨ab,Y,M,N,O,Q⟩:=S.cells (P:=P) (w0:=w0) (n:=n) K (by rw[aA]at r;exact r) hy A aj (by simpa using hm) bz J a w E B;refine⟨ab,Y,M,N,⟨h.cells,h.one,.inr ⟨g,cap,_,by rw[List.length_set];exact q,F,O,by rw[List.length_set];exact R,T,?_,?_⟩⟩,by rw[aA];exact Q⟩
  ·rw[List.size_toArray,tB (by simp at hm⊢;omega)];simpa using U
  ·have o:=length_flatMap h.cells xs
   have C:cur.toList=xs.flatMap f++cur.toList.drop (xs.length*sz):=by rw[←X,List.take_append_drop]
   rw[C,yB h.cells xs j k xs[j] z _ _ (by simp[i]) (by rw[hm];exact G) L,List.length_set,←o];have:=length_flatMap h.cells (xs.set j z);rw[List.length_set]at this;rw[o,←this];exact List.take_left
theorem Own.front{cap:Nat}{ad:Option Addr}{k:Nat}(h:Own aQ e H f sz (.slice ad xs.length cap) xs)(n:k≤xs.length)(o:xs≠[]):Own aQ e H f sz (.slice ad k cap) (xs.take k):=by
 refine⟨h.cells,h.one,?_⟩;rcases h.ex with⟨_,rfl⟩|⟨g,A,cur,i,j,bz,B,q,r,x⟩
 ·exact absurd rfl o
 ·simp only[Value.slice.injEq,true_and]at i
  obtain⟨rfl,rfl⟩:=i;have d:(xs.take k).length=k:=by simp;omega
  refine .inr ⟨g,cap,cur,by rw[d],j,bz,by omega,q,r,?_⟩;rw[d]
  have:(xs.take k).flatMap f=(xs.flatMap f).take (k*sz):=by
   have V:xs.flatMap f=(xs.take k).flatMap f++(xs.drop k).flatMap f:=by rw[←List.flatMap_append,List.take_append_drop]
   rw[V,←d,←length_flatMap h.cells (xs.take k),d];rw[List.take_left]
  rw[this,←x,List.take_take];congr 1;exact(Nat.min_eq_left (Nat.mul_le_mul_right _ n)).symm
end
theorem fold_push(l:List UInt8):∀acc:List UInt8,(l.map (fun b=>(b.toNat:Int))).foldl (fun r n=>r.push (UInt8.ofNat n.toNat)) (ByteArray.mk acc.toArray)=ByteArray.mk (acc++l).toArray:=by
 induction l with
 |nil=>intro acc;simp
 |cons b l ih=>
  intro acc;rw[List.map_cons,List.foldl_cons]
  have:(ByteArray.mk acc.toArray).push (UInt8.ofNat ((b.toNat:Int)).toNat)=ByteArray.mk (acc++[b]).toArray:=by
   simp[ByteArray.push]
  rw[this,ih];simp
theorem oP(l:List UInt8):l.flatMap a6=l.map (fun b=>Value.int .u8 b.toNat):=by
 induction l with
 |nil=>rfl
 |cons b l ih=>simp[ih]
theorem r4(s:List UInt8):Array.map (fun b:UInt8=>Value.int .u8 (b.toNat:Int)) s.toArray=(s.flatMap a6).toArray:=by
 rw[oP];simp
theorem Y.nd{F:Nat→Prop}{x:Operand}{t u e:TypeId}{v:Value}{xs:List UInt8}(h:Rd F H a6 1 v xs)(k:I.op= .convert t u x)(G:P.underlying t=some (.slice e))(hu:P.underlying u=some .string)(he:P.underlying e=some (.int .u8))(o:aH l x=some v):Y P w0 n l H I (aK xs):=by
 intro a w d r;obtain⟨ad,cap,rfl,_,_,q⟩:=id h.ex;have av:=run_convert_bytes_string (P:=P) w t u e ad xs.length cap G he hu
 cases ad with
 |none=>
  have J:xs=[]:=by
   apply Decidable.byContradiction;intro C;obtain⟨ad,aC,_⟩:=q C;cases aC
  subst J
  have A:(convert t u (.slice none 0 cap)).run P w= .ok (aK []) w:=by
   rw[show(0:Nat)=([]:List UInt8).length from rfl,av];rfl
  simp[execOp,k,d.eval o,A]
 |some ad=>
  have E:=h.ll et rfl r;have j:=run_loadCells_list (P:=P) w ad (xs.flatMap a6) E;have hlen:(xs.flatMap a6).length=xs.length:=by rw[length_flatMap et,Nat.mul_one]
  have aA:=run_bytesToString (P:=P) w ad xs.length cap (xs.map (fun b=>(b.toNat:Int))) (by
   rw[hlen]at j;rw[j,oP,List.map_map];rfl)
  have i:=fold_push xs [];simp only[List.nil_append]at i;have B:ByteArray.empty=ByteArray.mk ([]:List UInt8).toArray:=rfl;rw[B,i]at aA;simp[execOp,k,d.eval o,av,aA,aK]
theorem Z.GY{x:Operand}{t u e:TypeId}{ut:TypeDesc}{s:List UInt8}(B:I.op= .convert t u x)(E:P.underlying t=some ut)(hu:P.underlying u=some (.slice e))(he:P.underlying e=some (.int .u8))(F:aH l x=some (aK s))(aA:s.length≤9223372036854775807):
 Z P w0 n l H I (fun r ab=>Own (fun b=>b=H.size) e ab a6 1 r s∧aq H ab∧ab.size=H.size+1):=by
 intro a w q d;have C:=Lib.run_convert_string_bytes (P:=P) w t u e (ByteArray.mk s.toArray) E hu he;have j:=mX s;have A:=grownCap_ge w s.length 0 e;have k:grownCap w s.length 0 e≤maxLen:=grownCap_le_maxLen w s.length 0 e (by unfold maxLen;omega)
 have o:(Lib.bytesCells w e (ByteArray.mk s.toArray)).size=grownCap w s.length 0 e:=by
  simp only[Lib.bytesCells,j,r4,Array.size_append,List.size_toArray,length_flatMap et,Array.size_replicate,Nat.mul_one];omega
 refine⟨_,(Lib.bytesWorld w e (ByteArray.mk s.toArray)).heap,Lib.bytesWorld w e (ByteArray.mk s.toArray),by simp[execOp,B,q.eval F,C,aK];rfl,⟨rfl,?_,?_,?_,?_⟩,⟨et,fB,.inr ⟨w.heap.size,grownCap w s.length 0 e,_,by rw[j],d.heap▸rfl,⟨_,Lib.bytesWorld_at_new w e _,?_⟩,A,k,?_,?_⟩⟩,⟨?_,?_⟩,?_⟩
 ·have:=d.os;simp only[Lib.bytesWorld,World.freeze];exact this
 ·have:=d.tape;simp only[Lib.bytesWorld,World.freeze];exact this
 ·have:=d.output;simp only[Lib.bytesWorld,World.freeze];exact this
 ·have:=d.e_;simp only[Lib.bytesWorld,World.freeze];first|exact this|exact Nat.le_succ_of_le this
 ·refine⟨by simp only;omega,?_⟩;intro i G av;simp only at av;omega
 ·rw[o,Nat.mul_one]
 ·simp only[Lib.bytesCells,r4,Array.toList_append]
  rw[←length_flatMap et s];exact List.take_left
 ·rw[Lib.bytesWorld_size,d.heap];omega
 ·intro b aA _;rw[←d.heap]at aA⊢;exact Lib.bytesWorld_at_old w e _ b aA
 ·rw[Lib.bytesWorld_size,d.heap]
theorem yN(s:List UInt8):Lib.strCells (ByteArray.mk s.toArray)=s.flatMap a6:=by
 rw[oP];simp[Lib.strCells]
theorem Ga{w:World}(t u ty e:TypeId)(i:TypeInfo)(E:P.underlying t=some (.slice e))(hu:P.underlying u=some .string)(A:P.info? e=some i)(C:i.size=1)
 (g d k:Nat) (cur:Array Value) (j:Nat×Nat) (x:w.heap[g]?=some (.cells cur e j)) (r:mf j cur.size) (s:ByteArray)
 (B:d+s.size≤k) (q:d+s.size≤cur.size):
 (Builtin.append_ #[t,u] ty #[.slice (some ⟨g,0,none⟩) d k,.string s]).run P w=
  .ok (.slice (some ⟨g,0,none⟩) (d+s.size) k) (w.setRow g (cur.toList.take d++Lib.strCells s++cur.toList.drop (d+s.size)).toArray):=by
 have o:=Lib.run_firstCells_string (P:=P) w 1 s;have n:=mQ P g d e j (Lib.strCells s) 0 cur w x r (by simpa[Lib.strCells_length]using q) (Lib.strCells_oneCell s);simp only[Nat.add_zero,Lib.strCells_length]at n;simp[Builtin.append_,run_underlying E,run_underlying hu,sizeOf,typeInfo,A,C,Builtin.lenOf,B,o,Addr.add_lit,n]
theorem Z.zX{aQ:Nat→Prop}{e:TypeId}{v:Value}{xs ys:List UInt8}{s x:Operand}{t u:TypeId}(h:Own aQ e H a6 1 v xs)(G:I.op= .call {callee:= .builtin .append,args:= #[s,x],argTypes:= #[t,u]})
 (ae:c3 P t e 1 1) (hu:P.underlying u=some .string) (aj:aH l s=some v) (K:aH l x=some (aK ys)) (hm:xs.length+ys.length≤140737488355328):
 Z P w0 n l H I (fun r ab=>Own (fun b=>aQ b∨H.size≤b) e ab a6 1 r (xs++ys)∧W aQ H ab):=by
 obtain⟨J,i,z,B,T,S,O,al⟩:=ae;intro a w k d;have af:(ys.flatMap a6).length=ys.length:=by rw[length_flatMap et,Nat.mul_one]
 have R:(xs.flatMap a6).length=xs.length:=by rw[length_flatMap et,Nat.mul_one]
 have E:=mX ys
 have grown:∀(q:Nat) (r:Value),q<xs.length+ys.length→r= .slice (some ⟨w.heap.size,0,none⟩) (xs.length+ys.length) (grownCap w (xs.length+ys.length) q e)→∀C,C=Obj.cells (((xs++ys).flatMap a6).toArray++Builtin.zeroCells z.cells (grownCap w (xs.length+ys.length) q e-(xs.length+ys.length))) e→
  At w0 (w.drew.alloc C).heap (w.drew.alloc C)∧Own (fun b=>aQ b∨H.size≤b) e (w.drew.alloc C).heap a6 1 r (xs++ys)∧W aQ H (w.drew.alloc C).heap:=by
  rintro q r au rfl C rfl;have Y:=grownCap_ge w (xs.length+ys.length) q e;have X:grownCap w (xs.length+ys.length) q e≤maxLen:=grownCap_le_maxLen w (xs.length+ys.length) q e (by unfold maxLen;omega);have M:At w0 H w.drew:=d.drew;refine⟨⟨rfl,d.os,d.tape,d.output,M.e_⟩,?_,?_⟩
  ·have:=Own.new (e:=e) (G':=fun b=>aQ b∨H.size≤b) (w:=w.drew) (z:=z) (cap:=grownCap w (xs.length+ys.length) q e) (zs:=xs++ys) h.cells h.one al (.inr (by rw[M.heap];exact Nat.le_refl _)) (by simpa using Y) X
   simpa using this
  ·rw[(M.alloc _).heap];exact W.push _ _ _
 rcases h.ex with⟨rfl,rfl⟩|⟨g,A,cur,rfl,F,bz,aw,an,ar,U⟩
 ·by_cases ag:ys.length=0
  ·have ai:ys=[]:=List.eq_nil_of_length_eq_zero ag
   subst ai;refine⟨.slice none 0 0,H,w,?_,d,by simpa using h.imp (fun b _ F=> .inl F),W.refl _ _⟩;have he:(ByteArray.mk ([]:List UInt8).toArray).size=0:=rfl;simp only[execOp,G];simp[resolve,invoke,builtin,k.eval aj,k.eval K,Builtin.append_,run_underlying J,run_underlying hu,sizeOf,typeInfo,B,Builtin.lenOf,Builtin.firstCells,aK,he]
  ·simp only[List.length_nil,Nat.zero_add]at hm
   have o:=run_append_nil_string (P:=P) w t u I.type e i z J hu B T (ByteArray.mk ys.toArray) (by omega) (by omega) (by rw[E,O];omega);rw[E,r4]at o;have:=grown 0 _ (by simp;omega) rfl _ rfl;simp only[List.length_nil,Nat.zero_add,List.nil_append]at this;exact⟨_,_,_,by simp[execOp,G,resolve,invoke,builtin,k.eval aj,k.eval K,aK,o],this.1,this.2.1,this.2.2⟩
 ·obtain⟨L,aa,N⟩:=id bz
  have Q:w.heap[g]?=some (.cells cur e L):=by rw[d.heap];exact aa
  rw[Nat.mul_one]at ar U;by_cases ah:xs.length+ys.length≤A
  ·have o:=Ga (P:=P) (w:=w) t u I.type e i J hu B S g xs.length A cur L Q N (ByteArray.mk ys.toArray) (by omega) (by omega)
   rw[E,yN]at o;refine⟨.slice (some ⟨g,0,none⟩) (xs.length+ys.length) A,(w.setRow g (cur.toList.take xs.length++ys.flatMap a6++cur.toList.drop (xs.length+ys.length)).toArray).heap,w.setRow g (cur.toList.take xs.length++ys.flatMap a6++cur.toList.drop (xs.length+ys.length)).toArray,by simp[execOp,G,resolve,invoke,builtin,k.eval aj,k.eval K,aK,o],⟨rfl,d.os,d.tape,d.output,d.e_⟩,⟨h.cells,h.one,.inr ⟨g,A,_,by rw[List.length_append],.inl F,⟨L,setRow_heap w g cur _ e _ Q,N.1,fun i B=>N.2 i (by simp only[List.size_toArray,List.length_append,List.length_take,List.length_drop,Array.length_toList]at B;omega)⟩,by simpa using ah,an,?_,?_⟩⟩,⟨by rw[←d.heap];simp[World.setRow],fun b aA aC=>?_⟩⟩
   ·simp only[List.size_toArray,List.length_append,List.length_take,List.length_drop,Array.length_toList]
    omega
   ·rw[U,List.length_append,Nat.mul_one,List.flatMap_append]
    have:xs.length+ys.length=(xs.flatMap a6++ys.flatMap a6).length:=by rw[List.length_append,af,R]
    rw[this];exact List.take_left
   ·rw[←d.heap];exact setRow_other w g b _ (fun e=>aC (e▸F))
  ·have holds:∀j c,(xs.flatMap a6)[j]?=some c→w.cell? ((⟨g,0,none⟩:Addr).add j)=some c:=h.rd.ll h.cells rfl d
   have o:=Lib.run_append_grow_string (P:=P) w t u I.type e i z J hu B T ⟨g,0,none⟩ xs.length A (xs.flatMap a6) (by rw[R,S,Nat.mul_one]) holds (ByteArray.mk ys.toArray) (by omega) (by omega) (by rw[E,O];exact growslice_fits (by omega) (by omega));rw[E,yN]at o;have:=grown A _ (by omega) rfl _ rfl;rw[List.flatMap_append,←List.append_toArray]at this;exact⟨_,_,_,by simp[execOp,G,resolve,invoke,builtin,k.eval aj,k.eval K,aK,o],this.1,this.2.1,this.2.2⟩
end
end E

namespace E
theorem Rd.BY{α:Type}{F:Nat→Prop}{H:Heap}{f:α→List Value}{sz:Nat}{v:Value}{l:List α}(h:Rd F H f sz v l):v.cells.toList=[v]:=by
 obtain⟨a,cap,rfl,_⟩:=h.ex;rfl
structure aU {α:Type} (k:Nat) (e:TypeId) (H:Heap) (f:α→List Value) (sz:Nat) (v:Value) (l:List α):Prop where
 own:Own (fun b=>b+1=k) e H f sz v l
 le:k≤H.size
section
variable {α : Type} {k : Nat} {e : TypeId} {H ab : Heap} {f : α → List Value} {sz : Nat} {v : Value} {l : List α}
theorem aU.rd(h:aU k e H f sz v l):Rd (fun b=>b+1=k) H f sz v l:=h.own.rd
theorem aU.len(h:aU k e H f sz v l):l.length≤9223372036854775807:=h.own.len
theorem aU.bm(h:aU k e H f sz v l):(cm v).v=v:=h.own.bm
theorem aU.up{S:Nat→Prop}(h:aU k e H f sz v l)(s:W S H ab)(d:∀b,b<H.size→b+1=k→¬S b):aU k e ab f sz v l:=⟨h.own.up s d,Nat.le_trans h.le s.size⟩
theorem aU.N(h:aU k e H f sz v l)(s:aq H ab):aU k e ab f sz v l:=h.up s (fun _ _ _ e=>e)
theorem aU.nil(i:∀x,(f x).length=sz)(d:∀x,∀u∈f x,u.oneCell'=true):aU 0 e H f sz (.slice none 0 0) ([]:List α):=⟨Own.nil i d,Nat.zero_le _⟩
theorem aU.of{aQ:Nat→Prop}(h:Own aQ e H f sz v l):∃k,aU k e H f sz v l∧(k=0∨∃g,k=g+1∧aQ g):=by
 rcases h.ex with⟨rfl,rfl⟩|⟨g,cap,cur,i,d,bz,r⟩
 ·exact⟨0,⟨⟨h.cells,h.one,.inl ⟨rfl,rfl⟩⟩,Nat.zero_le _⟩,.inl rfl⟩
 ·exact⟨g+1,⟨⟨h.cells,h.one,.inr ⟨g,cap,cur,i,rfl,bz,r⟩⟩,bz.lt⟩,.inr ⟨g,rfl,d⟩⟩
theorem aU.at{j:Nat}(h:aU k e H f sz v l)(d:j<l.length):gP v+1=k:=(h.own.at d).1
theorem aU.O{j:Nat}(h:aU k e H f sz v l)(d:j<l.length):b8 H ⟨gP v,j*sz,none⟩ (f l[j]):=h.own.O d
end
def af(a b:Nat):Prop:=∀c,c+1=a→c+1≠b
def U(k h a7:Nat):Prop:=a7=0∨a7=k∨h<a7
def aB(ks:List Nat):Nat→Prop:=fun c=>c+1∈ks
def ag(a:Nat)(ks:List Nat):Prop:=∀k∈ks,af a k
def ax(F:Nat→Prop)(k:Nat):Prop:=∀b,F b→b+1≠k
def bk(F:Nat→Prop)(h:Nat):Prop:=∀b,F b→b<h
def ay(F:Nat→Prop)(ks:List Nat):Prop:=∀k∈ks,ax F k
def ao(ks:List Nat)(h k:Nat):Prop:=∀b,b<h→b+1=k→aB ks b
def ah(ks:List Nat)(h:Nat)(iA:List Nat):Prop:=∀k∈iA,ao ks h k
section
variable {a b k a7 hV h V : Nat} {ks iA : List Nat} {F : Nat → Prop}
theorem af.symm(d:af a b):af b a:=fun c i V=>d c V i
theorem af.new(i:a≤h):af a (h+1):=fun c d V=>by omega
theorem af.z:af a 0:=fun c d V=>by omega
theorem af.z2:af 0 a:=fun c d V=>by omega
theorem af.app(d:af a k)(n:a≤h)(i:U k h a7):af a a7:=fun c j V=>by
 rcases i with rfl|rfl|i
 ·omega
 ·exact d c j V
 ·omega
theorem af.ne(d:af (a+1) (b+1)):a≠b:=fun e=>d a rfl (by rw[e])
theorem af.of(d:a≠b):af (a+1) (b+1):=fun c i V=>by omega
theorem ko (d : a≠b := by omega) : af (a+1) (b+1) := af.of d
theorem U.refl(k h:Nat):U k h k:= .inr (.inl rfl)
theorem U.new(bz:h≤V):U 0 h (V+1):= .inr (.inr (by omega))
theorem U.L(x:U k h a7)(y:U a7 V hV)(bz:h≤V):U k h hV:=by
 unfold U at*;omega
theorem ag.nil:ag a []:=fun k d=>by cases d
theorem ag.cons(d:af a k)(e:ag a ks):ag a (k::ks):=fun j i=>by
 rcases List.mem_cons.1 i with rfl|i
 ·exact d
 ·exact e j i
theorem ay.nil:ay F []:=fun k d=>by cases d
theorem ay.cons(d:ax F k)(e:ay F ks):ay F (k::ks):=fun j i=>by
 rcases List.mem_cons.1 i with rfl|i
 ·exact d
 ·exact e j i
theorem ax.new(aA:bk F h):ax F (h+1):=fun b d V=>by have:=aA b d;omega
theorem ax.z:ax F 0:=fun b d V=>by omega
theorem ax.app(d:ax F k)(aA:bk F h)(j:U k h a7):ax F a7:=fun b i V=>by
 have:=aA b i;rcases j with rfl|rfl|j
 ·omega
 ·exact d b i V
 ·omega
theorem bk.of(le:k≤h):bk (fun b=>b+1=k) h:=fun b e=>by simp only at e;omega
theorem ax.of(d:af a k):ax (fun b=>b+1=a) k:=fun b e=>d (b+1-1) (by simp only at e;omega)
theorem bk.mono(aA:bk F h)(bz:h≤V):bk F V:=fun b d=>Nat.lt_of_lt_of_le (aA b d) bz
theorem ao.root(hm:k∈ks):ao ks h k:=fun b _ V=>by unfold aB;rw[V];exact hm
theorem ao.z:ao ks h 0:=fun b d V=>by omega
theorem ao.new(bz:h≤V):ao ks h (V+1):=fun b d i=>by omega
theorem ao.app(x:ao ks h k)(d:U k V a7)(bz:h≤V):ao ks h a7:=fun b i j=>by
 rcases d with rfl|rfl|d
 ·omega
 ·exact x b i j
 ·omega
theorem ah.nil:ah ks h []:=fun k d=>by cases d
theorem ah.cons(d:ao ks h k)(e:ah ks h iA):ah ks h (k::iA):=fun j i=>by
 rcases List.mem_cons.1 i with rfl|i
 ·exact d
 ·exact e j i
theorem W.md{H ab:Heap}(s:W (fun b=>b+1=k) H ab):W (aB [k]) H ab:=s.weaken (fun b _ e=>by unfold aB;simp;exact e)
theorem W.bB{H ab:Heap}(s:W (fun g=>g=b) H ab):W (aB [b+1]) H ab:=s.weaken (fun c _ e=>by unfold aB;simp;exact e)
theorem W.kI{H ab:Heap}(s:aq H ab)(ks:List Nat):W (aB ks) H ab:=s.weaken (fun c _ e=>e.elim)
theorem W.nil{H ab:Heap}(s:W (aB []) H ab):aq H ab:=s.weaken (fun c _ e=>by cases e)
theorem W.aL{J H ab:Heap}(x:W (aB ks) J H)(s:W (aB iA) H ab)(d:ah ks J.size iA):W (aB ks) J ab:=
 W.trans x s (fun _ _ e=>e) (fun b aA e=>d (b+1) e b aA rfl)
theorem W.a8{J H ab:Heap}(x:W (aB ks) J H)(s:aq H ab):W (aB ks) J ab:=W.trans x s (fun _ _ e=>e) (fun _ _ e=>e.elim)
theorem aU.ae{α:Type}{e:TypeId}{H ab:Heap}{f:α→List Value}{sz:Nat}{v:Value}{l:List α}(x:aU a e H f sz v l)(s:W (aB ks) H ab)(d:ag a ks):aU a e ab f sz v l:=
 x.up s (fun b _ i V=>d (b+1) V b i rfl)
theorem Var.ae{e:TypeId}{H ab:Heap}{cs:List Value}(x:Var e H b cs)(s:W (aB ks) H ab)(d:ag (b+1) ks):Var e ab b cs:=x.up s (fun V=>d (b+1) V b rfl rfl)
theorem Rd.b2{α:Type}{H:Heap}{f:α→List Value}{sz:Nat}{v:Value}{l:List α}(x:Rd F H f sz v l):Rd (fun b=>F b∧b<H.size) H f sz v l:=x.imp (fun b aA h=>⟨h,aA⟩)
theorem Rd.b5{α:Type}{H:Heap}{f:α→List Value}{sz:Nat}{v:Value}{l:List α}{aQ:Nat→Prop}(x:Rd (fun b=>aQ b∧b<h) H f sz v l):bk (fun b=>aQ b∧b<h) h:=fun b e=>e.2
theorem Rd.ae{α:Type}{H ab:Heap}{f:α→List Value}{sz:Nat}{v:Value}{l:List α}(x:Rd F H f sz v l)(s:W (aB ks) H ab)(d:ay F ks):Rd F ab f sz v l:=
 x.up s (fun b _ i V=>d (b+1) V b i rfl)
end
section
variable {α : Type} {k : Nat} {ks : List Nat} {e : TypeId} {H ab : Heap} {f : α → List Value} {sz : Nat} {v : Value} {l : List α}
end
section
variable {P : Program} {w0 : World} {n : Nat} {l : bO} {H : Heap} {I : Oper} {α : Type} {k : Nat} {e : TypeId} {f : α → List Value} {sz : Nat} {v : Value} {xs ys : List α}
theorem Y.cast{v v2:Value}(h:Y P w0 n l H I v)(e:v=v2):Y P w0 n l H I v2:=e▸h
theorem o.sr{Q:Exit→Act→World→Prop}{ops:Array Oper}{rest:List Oper}{m:Bool}{d j i:Nat}{b:Bool}(B:I.guard=some (j,b))(C:(ops[j]?).bind (·.dst)=some i)(av:cG l i=some undef)
 (ak:I.dst=some d) (aC:Nat.blt d n=true) (h:o m P w0 ops Q n ((d,undef)::l) rest H):o m P w0 ops Q n l (I::rest) H:=by
 intro a w k A
 have hw:Region.wanted I (yielded ops a.tmps)=false:=by
  have r:=k.get i _ av;have V:(ops[j]?).bind (fun I=>I.dst)=some i:=C
  have x:yielded ops a.tmps j=none:=by
   unfold yielded;rw[V];simp[r,undef]
  simp[Region.wanted,B,x]
 have q:=k.put aC undef;rw[←ak]at q;have bz:=h _ w q A;cases m
 ·simp only[jf]at bz⊢
  unfold wpList;rw[if_neg (by simp[hw])];exact bz
 ·simp only[jf]at bz⊢
  unfold wpStill;rw[if_neg (by simp[hw])];exact bz
theorem gv {Q : Exit→Act→World→Prop} {ops : Array Oper} {rest : List Oper} {m : Bool} {d j i : Nat} {b : Bool} (h : o m P w0 ops Q n ((d,undef)::l) rest H) (k : I.guard=some (j,b) := by exact rfl) (q : (ops[j]?).bind (·.dst)=some i := by exact rfl) (av : cG l i=some undef := by exact rfl) (ak : I.dst=some d := by exact rfl) (aC : Nat.blt d n=true := by exact rfl) : o m P w0 ops Q n l (I::rest) H := o.sr k q av ak aC h
theorem Z.mono{d i:Value→Heap→Prop}(h:Z P w0 n l H I d)(r:∀v ab,d v ab→i v ab):Z P w0 n l H I i:=by
 intro a w q o;obtain⟨v,ab,x,j,V,k⟩:=h a w q o;exact⟨v,ab,x,j,V,r _ _ k⟩
theorem S.mono{d i:Heap→Prop}(h:S P w0 n l H I d)(r:∀ab,d ab→i ab):S P w0 n l H I i:=by
 intro a w q o;obtain⟨ab,x,j,V,k⟩:=h a w q o;exact⟨ab,x,j,V,r _ k⟩
theorem Z.pR{F:Nat→Prop}{s x:Operand}{t:TypeId}{u:Value}{bytes:Nat}(h:aU k e H f sz v xs)(B:Rd F H f sz u ys)(A:I.op= .call {callee:= .builtin .append,args:= #[s,x],argTypes:= #[t,t]})
 (q:c3 P t e sz bytes) (aj:aH l s=some v) (C:aH l x=some u) (aA:(xs.length+ys.length)*bytes≤140737488355328) (hm:xs.length+ys.length≤9223372036854775807):
 Z P w0 n l H I (fun r ab=>∃d,aU d e ab f sz r (xs++ys)∧(d=0∨d=k∨H.size<d)∧W (fun b=>b+1=k) H ab):=
 (Z.append h.own B A q aj C aA hm).mono fun r ab ⟨i,V⟩=>by
  obtain⟨d,j,o⟩:=aU.of i;refine⟨d,j,?_,V⟩;rcases o with rfl|⟨g,rfl,E⟩
  ·exact .inl rfl
  ·omega
theorem eg {F : Nat→Prop} {s x : Operand} {t : TypeId} {u : Value} {bytes : Nat} (h : aU k e H f sz v xs) (o : Rd F H f sz u ys) (i : c3 P t e sz bytes) (aA : (xs.length+ys.length)*bytes≤140737488355328) (hm : xs.length+ys.length≤9223372036854775807) (j : I.op= .call {callee:= .builtin .append,args:= #[s,x],argTypes:= #[t,t]} := by exact rfl) (aj : aH l s=some v := by exact rfl) (q : aH l x=some u := by exact rfl) : Z P w0 n l H I (fun r ab=>∃d,aU d e ab f sz r (xs++ys)∧(d=0∨d=k∨H.size<d)∧W (fun b=>b+1=k) H ab) := Z.pR h o j i aj q aA hm
theorem Z.pS{v:Value}{xs ys:List UInt8}{s x:Operand}{t u:TypeId}(h:aU k e H a6 1 v xs)(A:I.op= .call {callee:= .builtin .append,args:= #[s,x],argTypes:= #[t,u]})
 (q:c3 P t e 1 1) (hu:P.underlying u=some .string) (aj:aH l s=some v) (B:aH l x=some (aK ys)) (hm:xs.length+ys.length≤140737488355328):
 Z P w0 n l H I (fun r ab=>∃d,aU d e ab a6 1 r (xs++ys)∧(d=0∨d=k∨H.size<d)∧W (fun b=>b+1=k) H ab):=
 (Z.zX h.own A q hu aj B hm).mono fun r ab ⟨i,V⟩=>by
  obtain⟨d,j,o⟩:=aU.of i;refine⟨d,j,?_,V⟩;rcases o with rfl|⟨g,rfl,C⟩
  ·exact .inl rfl
  ·omega
theorem aU.new{aQ:Nat→Prop}{ab:Heap}{c:Obj}(d:∀b,aQ b→b=H.size)(h:Own aQ e ab f sz v xs)(av:ab=H.push c):aU (H.size+1) e ab f sz v xs:=
 ⟨h.imp (fun b _ aA=>by rw[d b aA]),by rw[av];simp⟩
theorem Z.wV{t:TypeId}{k bytes:Nat}{parts:List (Nat×Operand)}(d:List Value)(zs:List α)(E:I.op= .buildSlice t k parts.toArray)(q:c3 P t e sz bytes)(F:gH l (parts.map (·.2))=some d)(o:parts.map (·.1)=List.range k)(A:d.length=k)(C:k*sz≤16777216)(B:k≤16777216)
 (av:∀x,(f x).length=sz) (i:∀x,∀u∈f x,u.oneCell'=true) (G:d.map (fun v=>v.cells.toList)=zs.map f):
 Z P w0 n l H I (fun r ab=>aU (H.size+1) e ab f sz r zs∧aq H ab∧∃c,ab=H.push c):=
 (Z.lit d zs E q F o A C B av i G).mono fun r ab ⟨i,V,c,j⟩=>⟨aU.new (fun _ e=>e) i j,V,c,j⟩
theorem cS {t : TypeId} {k bytes : Nat} {parts : List (Nat×Operand)} (d : List Value) (zs : List α) (o : c3 P t e sz bytes) (av : ∀x,(f x).length=sz) (i : ∀x,∀u∈f x,u.oneCell'=true) (F : d.map (fun v=>v.cells.toList)=zs.map f) (C : I.op= .buildSlice t k parts.toArray := by exact rfl) (E : gH l (parts.map (·.2))=some d := by exact rfl) (j : parts.map (·.1)=List.range k := by exact rfl) (q : d.length=k := by exact rfl) (B : k*sz≤16777216 := by decide) (A : k≤16777216 := by decide) : Z P w0 n l H I (fun r ab=>aU (H.size+1) e ab f sz r zs∧aq H ab∧∃c,ab=H.push c) := Z.wV d zs C o E j q B A av i F
theorem Z.D6{t e:TypeId}{bytes:Nat}{x c:Operand}{J G:IntKind}{cP:Int}{z:Value}(k:Nat)(z0:α)(B:I.op= .makeSlice t x c)(o:c3 P t e sz bytes)(E:∀w,(zeroValue e).run P w= .ok z w)(F:f z0=z.cells.toList)
 (av:∀x,(f x).length=sz) (d:∀x,∀u∈f x,u.oneCell'=true) (C:aH l x=some (.int J cP)) (j:aH l c=some (.int G cP)) (q:cP=k) (aA:(bytes:Int)*k≤281474976710656) (A:k≤9223372036854775807):
 Z P w0 n l H I (fun r ab=>aU (H.size+1) e ab f sz r (List.replicate k z0)∧aq H ab∧∃K,ab=H.push K):=
 (Z.makeSlice k z0 B o E F av d C j q aA A).mono fun r ab ⟨d,V,c,i⟩=>⟨aU.new (fun _ e=>e) d i,V,c,i⟩
theorem Z.yO{x:Operand}{t u e:TypeId}{ut:TypeDesc}{s:List UInt8}(j:I.op= .convert t u x)(k:P.underlying t=some ut)(hu:P.underlying u=some (.slice e))(he:P.underlying e=some (.int .u8))(o:aH l x=some (aK s))(aA:s.length≤9223372036854775807):
 Z P w0 n l H I (fun r ab=>aU (H.size+1) e ab a6 1 r s∧aq H ab∧ab.size=H.size+1):=
 (Z.GY j k hu he o aA).mono fun r ab ⟨i,V,d⟩=>⟨⟨i.imp (fun b _ aA=>by rw[aA]),by rw[d];exact Nat.le_refl _⟩,V,d⟩
theorem Y.Fb{x i:Operand}{t:TypeId}{a7:IntKind}{aF:Int}(h:aU k e H f sz v xs)(j:Nat)(r:I.op= .indexAddr t x i)(A:∀w,(underlying t).run P w= .ok (.slice e) w)(aj:∀w,(sizeOf e).run P w= .ok sz w)
 (B:aH l x=some v) (d:aH l i=some (.int a7 aF)) (o:aF=j) (q:j<xs.length):Y P w0 n l H I (.pointer (some ⟨gP v,j*sz,none⟩)):=Y.Ff h.own j r A aj B d o q
theorem il {x i : Operand} {t : TypeId} {a7 : IntKind} {aF : Int} (h : aU k e H f sz v xs) (j : Nat) (A : ∀w,(underlying t).run P w= .ok (.slice e) w) (aj : ∀w,(sizeOf e).run P w= .ok sz w) (q : j<xs.length) (r : I.op= .indexAddr t x i := by exact rfl) (B : aH l x=some v := by exact rfl) (d : aH l i=some (.int a7 aF) := by exact rfl) (o : aF=j := by first|rfl|omega) : Y P w0 n l H I (.pointer (some ⟨gP v,j*sz,none⟩)) := Y.Fb h j r A aj B d o q
theorem Y.Fc{x i:Operand}{t q:TypeId}{a7:IntKind}{aF:Int}(h:aU k e H f sz v xs)(j:Nat)(L:I.op= .slice t x none (some i) none)(M:∀w,(underlying t).run P w= .ok (.slice q) w)(aj:∀w,(sizeOf q).run P w= .ok sz w)
 (N:aH l x=some v) (G:aH l i=some (.int a7 aF)) (K:aF=j) (d:j≤xs.length):∃E,(∀ab,Y P w0 n l ab I E)∧aU k e H f sz E (xs.take j):=by
 have run:∀(a:Option Addr) (len cap:Nat),v= .slice a len cap→j≤len→len≤cap→(∀ad,a=some ad→ad.spot=none)→∀ab,Y P w0 n l ab I (.slice a j cap):=by
  rintro a len cap rfl R V A ab ac w B S
  have aN:∀w,(Instr.sliceBounds true len cap none (some (ac.eval i)) none).run P w= .ok (0,j,cap) w:=by
   intro w;have Q:j≤cap:=by omega
   subst K;simp[Instr.sliceBounds,Instr.sliceBound,asIntOf,B.eval G, *]
  have F:(if cap=0 then a else a.map (·.add (0*sz)))=a:=by
   cases a with
   |none=>simp
   |some ad=>simp[add_eq (A ad rfl)];intro _;obtain⟨b,I,s⟩:=ad;have:=A _ rfl;simp at this;rw[this]
  have r:=F;simp only[Nat.zero_mul]at r;simp[execOp,L,B.eval N,Instr.sliceAt,Instr.slice,M,aj,aN,r]
 rcases h.own.ex with⟨rfl,rfl⟩|⟨g,cap,cur,o,T,bz,O,U,W,X⟩
 ·refine⟨.slice none j 0,run none 0 0 rfl (by simpa using d) (Nat.le_refl _) (fun ad e=>by cases e),?_⟩
  have:j=0:=by simpa using d
  subst this
  simpa using h
 ·refine⟨.slice (some ⟨g,0,none⟩) j cap,run _ _ _ o d O (fun ad e=>by rw[←Option.some.inj e]),⟨?_,h.le⟩⟩
  by_cases C:xs=[]
  ·subst C
   have J:j=0:=by simpa using d
   subst J;have:=h.own;rw[o]at this
   simpa using this
  ·have V:=h.own
   rw[o]at V;exact V.front d C
theorem S.xL{x y:Operand}{t:TypeId}{c:Value}(h:aU k e H f sz v xs)(j i:Nat)(z:α)(r:I.op= .store t x y)(A:aH l x=some (.pointer (some ⟨gP v,j*sz+i,none⟩)))(hy:aH l y=some c)(d:c.oneCell'=true)
 (aj:∀w,(sizeOf t).run P w= .ok 1 w) (o:j<xs.length) (q:i<sz) (B:f z=(f xs[j]).set i c):S P w0 n l H I (fun ab=>aU k e ab f sz v (xs.set j z)∧W (fun b=>b+1=k) H ab):=
 (S.own h.own j i z r A hy d aj o q B).mono fun ab ⟨d,V⟩=>⟨⟨d,Nat.le_trans h.le V.size⟩,V.weaken (fun b _ e=>by have:=h.at o;omega)⟩
theorem S.qU{x y:Operand}{t:TypeId}{c:Value}{m:Nat}(h:aU k e H f sz v xs)(j i:Nat)(z:α)(d:List Value)(A:I.op= .store t x y)(B:aH l x=some (.pointer (some ⟨gP v,j*sz+i,none⟩)))(hy:aH l y=some c)(av:c.cells.toList=d)(o:∀u∈d,u.oneCell'=true)
 (aj:∀w,(sizeOf t).run P w= .ok m w) (hm:d.length=m) (q:j<xs.length) (r:i+m≤sz) (C:f z=dU (f xs[j]) i d):S P w0 n l H I (fun ab=>aU k e ab f sz v (xs.set j z)∧W (fun b=>b+1=k) H ab):=
 (S.Fg h.own j i z d A B hy av o aj hm q r C).mono fun ab ⟨o,V⟩=>⟨⟨o,Nat.le_trans h.le V.size⟩,V.weaken (fun b _ e=>by have:=h.at q;omega)⟩
theorem Y.peq{x y:Operand}{t u:TypeId}{p:Option Addr}(i:I.op= .binOp .eql t x y u)(j:P.underlying t=some (.pointer (P.pointee t)))(hm:P.eqGuardType P.depth t=false)(k:aH l x=some (.pointer p))(hy:aH l y=some (.pointer none)):Y P w0 n l H I (.bool p.isNone):=by
 intro a w d o;have h:=run_equal_pointer_nil (w:=w) t p j;simp[execOp,i,d.eval k,d.eval hy,binOp,eqGuard,h]
theorem Y.qX{x y:Operand}{t u:TypeId}{p:Option Addr}(i:I.op= .binOp .neq t x y u)(j:P.underlying t=some (.pointer (P.pointee t)))(hm:P.eqGuardType P.depth t=false)(k:aH l x=some (.pointer p))(hy:aH l y=some (.pointer none)):Y P w0 n l H I (.bool p.isSome):=by
 intro a w d o;have h:=run_equal_pointer_nil (w:=w) t p j;simp[execOp,i,d.eval k,d.eval hy,binOp,eqGuard,h]
theorem Y.pr{x y:Operand}{t u e:TypeId}{p:Option Addr}{k c:Nat}(i:I.op= .binOp .eql t x y u)(j:P.underlying t=some (.slice e))(o:aH l x=some (.slice p k c))(hy:aH l y=some (.slice none 0 0)):Y P w0 n l H I (.bool p.isNone):=by
 intro a w d q;have h:=run_equal_slice_nil (w:=w) t e p k c j;simp[execOp,i,d.eval o,d.eval hy,binOp,eqGuard,h]
theorem Z.uH{a7:Nat}{x:Operand}{t e:TypeId}{v:Value}{xs:List UInt8}(h:aU a7 e H a6 1 v xs)(K:xs≠[])(L:I.op= .convert t t x)(R:P.underlying t=some (.slice e))(he:P.underlying e=some (.int .u8))(S:aH l x=some v):
 Z P w0 n l H I (fun r ab=>r=v∧aU a7 e ab a6 1 v xs∧W (fun b=>b+1=a7) H ab):=by
 intro a w B d;rcases h.own.ex with⟨rfl,rfl⟩|⟨g,cap,cur,A,E,bz,T,U,X,Y⟩
 ·exact absurd rfl K
 ·obtain⟨⟨j,k⟩,bz,N,o⟩:=bz
  simp only at N o;have hw:w.heap[g]?=some (.cells cur e (j,k)):=by rw[d.heap];exact bz
  have O:w.shape? g=some (e,cur.size):=by unfold World.shape?;rw[hw]
  have M:(execOp a.eval I).run P w= .ok (.value v) (w.freeze ⟨g,cur.size,none⟩ 1):=by
   simp[execOp,L,B.eval S,A,convert,run_underlying R,run_underlying he,markStringish,O]
  have C:(w.freeze ⟨g,cur.size,none⟩ 1).heap[g]?=some (.cells cur e (if j==k then(cur.size,cur.size+1)else(min j cur.size,max k (cur.size+1)))):=by
   unfold World.freeze;rw[if_neg (by decide)];simp[Array.getElem?_modify,hw]
  have J:W (fun b=>b+1=a7) H (w.freeze ⟨g,cur.size,none⟩ 1).heap:=by
   unfold World.freeze;rw[if_neg (by decide)];refine⟨by simp[d.heap],fun b aA aa=>?_⟩;simp only[Array.getElem?_modify,d.heap];rw[if_neg (by omega)]
  have Q:(w.freeze ⟨g,cur.size,none⟩ 1).heap.size=H.size:=by
   unfold World.freeze;rw[if_neg (by decide)];simp[d.heap]
  refine⟨v,_,_,M,⟨rfl,?_,?_,?_,?_⟩,rfl,⟨⟨h.own.cells,h.own.one,.inr ⟨g,cap,cur,A,E,⟨_,C,?_⟩,T,U,X,Y⟩⟩,by rw[Q];exact h.le⟩,J⟩
  ·have:=d.os;unfold World.freeze;rw[if_neg (by decide)];exact this
  ·have:=d.tape;unfold World.freeze;rw[if_neg (by decide)];exact this
  ·have:=d.output;unfold World.freeze;rw[if_neg (by decide)];exact this
  ·have:=d.e_;unfold World.freeze;rw[if_neg (by decide)];exact this
  ·by_cases q:j=k
   ·subst q
    simp only[beq_self_eq_true,if_true];refine⟨by simp only;omega,fun i F av=>?_⟩;simp only at av;omega
   ·rw[if_neg (by simpa using q)]
    refine⟨by simp only;omega,fun i F av=>?_⟩;simp only at av;have:=o j;by_cases G:j<cur.size
    ·have:=o j G;omega
    ·omega
end
section
variable {m a b : Nat} {F S : Nat → Prop} {α : Type} {e : TypeId} {J H ab : Heap} {f : α → List Value} {sz : Nat} {v : Value} {l : List α} {cs : List Value}
theorem ax.iv{k n:Nat}(d:∀b,F b→n≤b)(i:k≤n):ax F k:=fun b h e=>by have:=d b h;omega
end
section
variable {P : Program} {w0 : World} {n : Nat} {l : bO} {H : Heap} {I : Oper} {α : Type} {e : TypeId} {f : α → List Value} {sz : Nat}
end
structure kp (F:Nat→Prop) (H:Heap) (ad:Addr) (cs:List Value):Prop where
 O:b8 H ad cs
 f:F ad.block
section
variable {F : Nat → Prop} {H ab : Heap} {ad : Addr} {cs : List Value} {ks : List Nat} {m : Nat}
theorem kp.N(h:kp F H ad cs)(s:aq H ab):kp F ab ad cs:=⟨h.O.N s,h.f⟩
theorem kp.ae(h:kp F H ad cs)(s:W (aB ks) H ab)(d:ay F ks):kp F ab ad cs:=⟨h.O.up s (fun e=>d _ e _ h.f rfl),h.f⟩
end
section
variable {P : Program} {w0 : World} {n : Nat} {l : bO} {H : Heap} {I : Oper} {α : Type} {F : Nat → Prop} {f : α → List Value} {sz : Nat} {v : Value} {xs : List α}
theorem Y.mD{x i:Operand}{t e:TypeId}{k:IntKind}{aF:Int}(h:Rd F H f sz v xs)(j:Nat)(J:I.op= .indexAddr t x i)(K:∀w,(underlying t).run P w= .ok (.slice e) w)(aj:∀w,(sizeOf e).run P w= .ok sz w)
 (L:aH l x=some v) (E:aH l i=some (.int k aF)) (G:aF=j) (d:j<xs.length):∃ad,(∀ab,Y P w0 n l ab I (.pointer (some ad)))∧kp F H ad (f xs[j]):=by
 obtain⟨a,cap,rfl,M,V,C⟩:=h.ex;obtain⟨ad,rfl,q,r,A,B⟩:=C (by intro e;subst e;simp at d);subst G;refine⟨_,?_,B j xs[j] (by simp[d]),by first|exact r|exact A⟩;intro ab ac w o N;simp[execOp,J,o.eval L,o.eval E,Instr.indexAt,asIntOf,K,aj,d,add_eq q]
end
end E

namespace E
section
variable {P : Program} {w0 : World} {Q : Exit → Act → World → Prop} {n : Nat} {l : bO} {H : Heap} {ops : Array Oper} {rest : List Oper} {I : Oper} {m : Bool}
theorem G.t1{x y:Code}(h:∀{K:Exit→Act→World→Prop},(∀{l' ab},G P w0 Q n l' y ab→aR w0 K n l' ab)→G P w0 K n l x H):G P w0 Q n l (.seq x y) H:=G.seq (fun _ cV _=>h (cV _ _))
theorem G.t2{x y:Code}(h:∀{K:Exit→Act→World→Prop},(∀{l' ab},G P w0 Q n l' y ab→aR w0 K n l' ab)→(∀{e l' ab},fH w0 Q e n l' ab→∀(he:e≠.normal:=by first|nofun|simp),fH w0 K e n l' ab)→G P w0 K n l x H):G P w0 Q n l (.seq x y) H:=G.seq (fun _ cV d=>h (cV _ _) (fun q he=>d _ he _ _ q))
theorem G.L{id:Nat}{d:List Oper}{y:Code}(h:∀{K:Exit→Act→World→Prop},(∀{l' ab},G P w0 Q n l' y ab→aR w0 K n l' ab)→o false P w0 d.toArray K n l d H):G P w0 Q n l (.seq (.region id d.toArray false) y) H:=G.seq (fun _ cV _=>G.region (h (cV _ _)))
theorem G.aD{id:Nat}{c:Code}(h:∀{K:Exit→Act→World→Prop},(∀{l' ab},aR w0 Q n l' ab→aR w0 K n l' ab)→(∀{l' ab},aR w0 Q n l' ab→fH w0 K (.exit id) n l' ab)→(∀{e l' ab},fH w0 Q e n l' ab→∀(he:e≠.normal:=by first|nofun|simp)(d:e≠.exit id:=by first|nofun|simp),fH w0 K e n l' ab)→G P w0 K n l c H):G P w0 Q n l (.block id c) H:=G.block (fun _ cV j i=>h (cV _ _) (j _ _) (fun q he d=>i _ he d _ _ q))
theorem G.Gm{c:Code}(h:∀{K:Exit→Act→World→Prop},(∀{l' ab},aR w0 Q n l' ab→aR w0 K n l' ab)→(∀{e l' ab},fH w0 Q e n l' ab→∀(he:e≠.normal:=by first|nofun|simp)(d:∀k,e≠.goto k:=by first|nofun|simp),fH w0 K e n l' ab)→G P w0 K n l c H):G P w0 Q n l (.scope c) H:=G.scope (fun _ cV i=>h (cV _ _) (fun q he d=>i _ he d _ _ q))
theorem G.bc{σ:Type}{c:Code}(ff:σ→bO)(d:σ→Heap→Prop)(μ:σ→Nat)(j:σ)(A:Sub (ff j) l)(k:d j H)(round:∀s H,d s H→∀K:Exit→Act→World→Prop,(∀i ab,d i ab→μ i<μ s→aR w0 K n (ff i) ab)→(∀{e l' ab},fH w0 Q e n l' ab→∀(he:e≠.normal:=by first|nofun|simp),fH w0 K e n l' ab)→G P w0 K n (ff s) c H):G P w0 Q n l (.loop c) H:=G.loop ff d μ j A k (fun s H r K x o=>round s H r K x (fun q he=>o _ he _ _ q))
theorem G.bw{σ:Type}{x y:Code}(ff:σ→bO)(d:σ→Heap→Prop)(h:∀K:Exit→Act→World→Prop,(∀s ab,d s ab→aR w0 K n (ff s) ab)→(∀{e l' ab},fH w0 Q e n l' ab→∀(he:e≠.normal:=by first|nofun|simp),fH w0 K e n l' ab)→G P w0 K n l x H)(hy:∀s ab,d s ab→G P w0 Q n (ff s) y ab):G P w0 Q n l (.seq x y) H:=G.cut ff d (fun K j i=>h K j (fun q he=>i _ he _ _ q)) hy
theorem aG.aN{f:FuncId}{fn:Func}{c:Code}{d:Value→Heap→Prop}(args:List Value)(j:P.funcs[f]?=some fn)(h:∀Q:Exit→Act→World→Prop,(∀{l ab v},d v ab→∀(i:∀a w,Fr n l a→At w0 ab w→(results fn a.tmps).run P w= .ok v w:=by first|exact x6 rfl rfl|exact FR rfl rfl rfl|exact FT rfl rfl rfl rfl),fH w0 Q .ret n l ab)→G P w0 Q n (lN args 0) c H)(aA:fn.body=some c:=by exact rfl)(aC:fn.ntmps=n:=by exact rfl)(k:Nat.ble args.length n=true:=by exact rfl):aG P w0 f args.toArray H d:=aG.enter j aA aC k (fun Q o=>h Q (fun x i=>o .ret (.inr rfl) _ _ _ i x))
theorem o.b1{φ:Addr→Prop}{d:Nat}(hy:∃x,(∀ab,Y P w0 n l ab I (.pointer (some x)))∧φ x)(h:∀x,φ x→o m P w0 ops Q n ((d,.pointer (some x))::l) rest H)(hw:cT ops l I:=by exact cM)(ak:I.dst=some d:=by exact rfl)(aC:Nat.blt d n=true:=by exact rfl):o m P w0 ops Q n l (I::rest) H:=o.e (g:=fun ad:Addr=>Value.pointer (some ad)) hy hw ak aC h
theorem cn{a b:List Value}(h:a=b):Value.agg a.toArray=Value.agg b.toArray:=congrArg (fun z:List Value=>Value.agg z.toArray) h
theorem o.v1{v:Value}{d:Nat}(hy:Y P w0 n l H I v)(h:o m P w0 ops Q n ((d,v)::l) rest H)(hw:cT ops l I:=by exact cM)(ak:I.dst=some d:=by exact rfl)(aC:Nat.blt d n=true:=by exact rfl):o m P w0 ops Q n l (I::rest) H:=o.v hy hw ak aC h
def re(l:bO)(d:Nat):Op→Option bO
 |.move x=>match aH l x with
  |some v=>some ((d,v)::l)
  |none=>none
 |.assign x=>match aH l x with
  |some v=>some ((d,v)::l)
  |none=>none
 |.nilCheck x=>match aH l x with
  |some (.pointer (some ad))=>some ((d,.pointer (some ad))::l)
  |_=>none
 |.pick c x y=>match aH l c with
  |some (.bool true)=>match aH l x with
   |some v=>some ((d,v)::l)
   |none=>none
  |some (.bool false)=>match aH l y with
   |some v=>some ((d,v)::l)
   |none=>none
  |_=>none
 |_=>none
def tM(ops:Array Oper)(n:Nat)(l:bO)(I:Oper):Option bO:=match I.dst with
 |none=>none
 |some d=>match Nat.blt d n with
  |false=>none
  |true=>match I.guard with
   |none=>re l d I.op
   |some (j,b)=>match (ops[j]?).bind (·.dst) with
    |none=>none
    |some e=>match cG l e with
     |some (.bool c)=>match c==b with
      |false=>some ((d,undef)::l)
      |true=>re l d I.op
     |_=>none
theorem yY{d:Nat}{i:bO}(aj:re l d I.op=some i):∃v,i=(d,v)::l∧Y P w0 n l H I v:=by
 unfold re at aj
 repeat' split at aj
 all_goals first|(cases aj;done)|(cases aj;refine ⟨_,rfl,?_⟩;first|exact Y.move (by assumption) (by assumption)|exact Y.assign (by assumption) (by assumption)|exact Y.nilCheck (by assumption) (by assumption)|exact Y.tf (by assumption) (by assumption) (by assumption)|exact Y.te (by assumption) (by assumption) (by assumption))
theorem o.Hc{d:bO}(h:o m P w0 ops Q n d rest H)(aj:tM ops n l I=some d):o m P w0 ops Q n l (I::rest) H:=by
 unfold tM at aj
 repeat' split at aj
 all_goals first|(cases aj;done)|(obtain⟨v,rfl,hy⟩:=yY aj;exact o.v hy (cT.u (by assumption)) (by assumption) (by assumption) h)|(cases aj;exact o.gs (by assumption) (by assumption) (by assumption) (by assumption) (by assumption) (by assumption) h)|(rename_i q;cases eq_of_beq q;obtain⟨v,rfl,hy⟩:=yY aj;exact o.v hy (cT.g (by assumption) (by assumption) (by assumption)) (by assumption) (by assumption) h)
def rf(ops:Array Oper)(n:Nat):Nat→bO→List Oper→Option (bO×List Oper)
 |k+1,l,I::r=>match tM ops n l I with
  |some d=>rf ops n k d r
  |none=>none
 |0,l,r=>some (l,r)
 |_,_,_=>none
theorem o.az{d:bO}{i:List Oper}:∀(k:Nat){l:bO}{rest:List Oper}(h:o m P w0 ops Q n d i H)(aj:rf ops n k l rest=some (d,i):=by exact rfl),o m P w0 ops Q n l rest H
 |0,_,_,h,aj=>by cases aj;exact h
 |k+1,_,[],_,aj=>by cases aj
 |k+1,l,I::r,h,aj=>by
  unfold rf at aj;split at aj
  ·rename_i j e;exact o.Hc (o.az k h aj) e
  ·cases aj
theorem o.aP{d:bO}(k:Nat){l:bO}{rest:List Oper}(h:aR w0 Q n d H)(aj:rf ops n k l rest=some (d,[]):=by exact rfl):o m P w0 ops Q n l rest H:=o.az k (o.nil h) aj
theorem o.aa{x:Operand}{v:Value}{d:Nat}(h:o m P w0 ops Q n ((d,v)::l) rest H)(i:I.op= .move x:=by exact rfl)(j:aH l x=some v:=by exact rfl)(hw:cT ops l I:=by exact cM)(ak:I.dst=some d:=by exact rfl)(aC:Nat.blt d n=true:=by exact rfl):o m P w0 ops Q n l (I::rest) H:=o.v (Y.move i j) hw ak aC h
theorem o.cg{x:Operand}{v:Value}{d:Nat}(h:o m P w0 ops Q n ((d,v)::l) rest H)(i:I.op= .assign x:=by exact rfl)(j:aH l x=some v:=by exact rfl)(hw:cT ops l I:=by exact cM)(ak:I.dst=some d:=by exact rfl)(aC:Nat.blt d n=true:=by exact rfl):o m P w0 ops Q n l (I::rest) H:=o.v (Y.assign i j) hw ak aC h
theorem Y.an{x:Operand}{s:TypeId}{k off d:Nat}{ad:Addr}{cs:List Value}{fs:Array Field}{fd:Field}(h:b8 H ad cs)(j:I.op= .fieldAddr s x k)(hu:∀w,(underlying s).run P w= .ok (.struct fs) w)(i:fs[k]?=some fd)(q:∀w,(sizeOf fd.type).run P w= .ok d w)
 (o:fd.offset=off:=by exact rfl) (A:d≠0:=by decide) (r:aH l x=some (.pointer (some ad)):=by exact rfl):Y P w0 n l H I (.pointer (some (ad.add off))):=Y.fieldAddr h j hu i o q A r
theorem o.g1{d j e:Nat}{b c:Bool}(h:o m P w0 ops Q n ((d,undef)::l) rest H)(i:I.guard=some (j,b):=by exact rfl)(k:(ops[j]?).bind (·.dst)=some e:=by exact rfl)(av:cG l e=some (.bool c):=by exact rfl)(q:(c==b)=false:=by exact rfl)(ak:I.dst=some d:=by exact rfl)(aC:Nat.blt d n=true:=by exact rfl):o m P w0 ops Q n l (I::rest) H:=o.gs i k av q ak aC h
theorem o.ar{v:Value}{d j e:Nat}{b:Bool}(hy:Y P w0 n l H I v)(h:o m P w0 ops Q n ((d,v)::l) rest H)(i:I.guard=some (j,b):=by exact rfl)(k:(ops[j]?).bind (·.dst)=some e:=by exact rfl)(av:cG l e=some (.bool b):=by exact rfl)(ak:I.dst=some d:=by exact rfl)(aC:Nat.blt d n=true:=by exact rfl):o m P w0 ops Q n l (I::rest) H:=o.v hy (cT.g i k av) ak aC h
theorem G.s1{x y:Code}(h:∀{K:Exit→Act→World→Prop},(∀l' ab,G P w0 Q n l' y ab→aR w0 K n l' ab)→G P w0 K n l x H):G P w0 Q n l (.seq x y) H:=G.seq (fun _ cV _=>h cV)
theorem G.s2{x y:Code}(h:∀{K:Exit→Act→World→Prop},(∀l' ab,G P w0 Q n l' y ab→aR w0 K n l' ab)→(∀e,e≠ .normal→∀l' ab,fH w0 Q e n l' ab→fH w0 K e n l' ab)→G P w0 K n l x H):G P w0 Q n l (.seq x y) H:=G.seq (fun _ cV d=>h cV d)
theorem Y.bU{α:Type}{F:Nat→Prop}{f:α→List Value}{sz:Nat}{v:Value}{xs:List α}{x i:Operand}{t e:TypeId}{k:IntKind}{aF:Int}(h:Rd F H f sz v xs)(j:Nat)(r:I.op= .indexAddr t x i)(A:∀w,(underlying t).run P w= .ok (.slice e) w)(aj:∀w,(sizeOf e).run P w= .ok sz w)
 (B:aH l x=some v) (d:aH l i=some (.int k aF)) (o:aF=j:=by first|rfl|omega) (q:j<xs.length:=by first|omega|(simp;omega)|(simp;done)):∃ad,(∀ab,Y P w0 n l ab I (.pointer (some ad)))∧kp F H ad (f xs[j]):=Y.mD h j r A aj B d o q
theorem o.aS{i:Value→Heap→Prop}{d:Nat}(j:E.Z P w0 n l H I i)(h:∀v ab,i v ab→o false P w0 ops Q n ((d,v)::l) rest ab)(hw:cT ops l I:=by exact cM)(ak:I.dst=some d:=by exact rfl)(aC:Nat.blt d n=true:=by exact rfl):o false P w0 ops Q n l (I::rest) H:=o.z j hw ak aC h
theorem o.s1{d:Heap→Prop}(i:E.S P w0 n l H I d)(h:∀ab,d ab→o false P w0 ops Q n l rest ab)(hw:cT ops l I:=by exact cM)(ak:I.dst=none:=by exact rfl):o false P w0 ops Q n l (I::rest) H:=o.s i hw ak h
theorem o.aN{α:Type}{g:α→Value}{φ:α→Prop}{d:Nat}(hy:∃x,(∀ab,Y P w0 n l ab I (g x))∧φ x)(h:∀x,φ x→o m P w0 ops Q n ((d,g x)::l) rest H)(hw:cT ops l I:=by exact cM)(ak:I.dst=some d:=by exact rfl)(aC:Nat.blt d n=true:=by exact rfl):o m P w0 ops Q n l (I::rest) H:=o.e hy hw ak aC h
theorem G.kR{id:Nat}{d:List Oper}{y:Code}(h:∀{K:Exit→Act→World→Prop},(∀l' ab,G P w0 Q n l' y ab→aR w0 K n l' ab)→o false P w0 d.toArray K n l d H):G P w0 Q n l (.seq (.region id d.toArray false) y) H:=G.seq (fun _ cV _=>G.region (h cV))
theorem o.al{x:Operand}{v:Value}{d:Nat}(h:aR w0 Q n ((d,v)::l) H)(i:I.op= .assign x:=by exact rfl)(j:aH l x=some v:=by exact rfl)(hw:cT ops l I:=by exact cM)(ak:I.dst=some d:=by exact rfl)(aC:Nat.blt d n=true:=by exact rfl):o m P w0 ops Q n l [I] H:=o.v (Y.assign i j) hw ak aC (o.nil h)
theorem o.bG{x:Operand}{ad:Addr}{d:Nat}(h:o m P w0 ops Q n ((d,.pointer (some ad))::l) rest H)(i:I.op= .nilCheck x:=by exact rfl)(j:aH l x=some (.pointer (some ad)):=by exact rfl)(hw:cT ops l I:=by exact cM)(ak:I.dst=some d:=by exact rfl)(aC:Nat.blt d n=true:=by exact rfl):o m P w0 ops Q n l (I::rest) H:=o.v (Y.nilCheck i j) hw ak aC h
theorem o.O{c x y:Operand}{v:Value}{d:Nat}(h:o m P w0 ops Q n ((d,v)::l) rest H)(i:I.op= .pick c x y:=by exact rfl)(av:aH l c=some (.bool true):=by exact rfl)(j:aH l x=some v:=by exact rfl)(hw:cT ops l I:=by exact cM)(ak:I.dst=some d:=by exact rfl)(aC:Nat.blt d n=true:=by exact rfl):o m P w0 ops Q n l (I::rest) H:=o.v (Y.tf i av j) hw ak aC h
theorem o.dy{c x y:Operand}{v:Value}{d:Nat}(h:o m P w0 ops Q n ((d,v)::l) rest H)(i:I.op= .pick c x y:=by exact rfl)(av:aH l c=some (.bool false):=by exact rfl)(j:aH l y=some v:=by exact rfl)(hw:cT ops l I:=by exact cM)(ak:I.dst=some d:=by exact rfl)(aC:Nat.blt d n=true:=by exact rfl):o m P w0 ops Q n l (I::rest) H:=o.v (Y.te i av j) hw ak aC h
theorem o.bJ{x:Operand}{v:Value}{d j e:Nat}{b:Bool}(h:o m P w0 ops Q n ((d,v)::l) rest H)(q:I.op= .move x:=by exact rfl)(r:aH l x=some v:=by exact rfl)(i:I.guard=some (j,b):=by exact rfl)(k:(ops[j]?).bind (·.dst)=some e:=by exact rfl)(av:cG l e=some (.bool b):=by exact rfl)(ak:I.dst=some d:=by exact rfl)(aC:Nat.blt d n=true:=by exact rfl):o m P w0 ops Q n l (I::rest) H:=o.v (Y.move q r) (cT.g i k av) ak aC h
end
section
variable {P : Program} {w0 : World} {Q : Exit → Act → World → Prop} {n k : Nat} {dn : List Nat} {l : bO} {H : Heap} {ops : Array Oper} {I : Oper} {bK : Heap → Prop} {X : List Nat}
theorem T.cD{i:Nat}{A:Heap}(x:aq A H)(h:T P w0 ops Q (fun d=>aq H d) X n k dn l H):(X.contains i=true∨aq A H)∧T P w0 ops Q (fun d=>aq A d) X n k dn l H:=⟨.inr x,T.narrow (fun d j=>x.L j) h⟩
theorem T.bZ{i:Nat}{A:Heap}{ks iA:List Nat}(x:W (aB ks) A H)(d:ah ks A.size iA)(h:T P w0 ops Q (fun j=>W (aB iA) H j) X n k dn l H):(X.contains i=true∨W (aB ks) A H)∧T P w0 ops Q (fun j=>W (aB ks) A j) X n k dn l H:=⟨.inr x,T.narrow (fun j o=>x.aL o d) h⟩
theorem T.t1{v:Value}{d:Nat}(i:Nat)(x:ops[i]?=some I)(hy:∀ab,bK ab→Y P w0 n l ab I v)(o:bK H)(h:T P w0 ops Q bK X n k (i::dn) ((d,v)::l) H)
 (q:X.all (fun j=>Nat.beq j i||Region.waitsFor .any ops j i)=true:=by kernel_rfl) (aj:Region.noSelect ops=true:=by kernel_rfl) (r:Region.free .any ops (df ops.size dn) i=true:=by kernel_rfl) (A:(Region.ready .any ops (df ops.size dn)).contains i=true:=by kernel_rfl)
 (hw:cT ops l I:=by exact cM) (ak:I.dst=some d:=by exact rfl) (aC:Nat.blt d n=true:=by exact rfl):T P w0 ops Q bK X n (k+1) dn l H:=T.take i q x aj r A hy hw ak aC o h
theorem T.aa{x:Operand}{v:Value}{d:Nat}(i:Nat)(A:ops[i]?=some I)(o:bK H)(h:T P w0 ops Q bK X n k (i::dn) ((d,v)::l) H)(B:I.op= .move x:=by exact rfl)(E:aH l x=some v:=by exact rfl)
 (q:X.all (fun j=>Nat.beq j i||Region.waitsFor .any ops j i)=true:=by kernel_rfl) (aj:Region.noSelect ops=true:=by kernel_rfl) (r:Region.free .any ops (df ops.size dn) i=true:=by kernel_rfl) (C:(Region.ready .any ops (df ops.size dn)).contains i=true:=by kernel_rfl)
 (hw:cT ops l I:=by exact cM) (ak:I.dst=some d:=by exact rfl) (aC:Nat.blt d n=true:=by exact rfl):T P w0 ops Q bK X n (k+1) dn l H:=T.take i q A aj r C (fun _ _=>Y.move B E) hw ak aC o h
theorem T.bG{x:Operand}{ad:Addr}{d:Nat}(i:Nat)(A:ops[i]?=some I)(o:bK H)(h:T P w0 ops Q bK X n k (i::dn) ((d,.pointer (some ad))::l) H)(B:I.op= .nilCheck x:=by exact rfl)(E:aH l x=some (.pointer (some ad)):=by exact rfl)
 (q:X.all (fun j=>Nat.beq j i||Region.waitsFor .any ops j i)=true:=by kernel_rfl) (aj:Region.noSelect ops=true:=by kernel_rfl) (r:Region.free .any ops (df ops.size dn) i=true:=by kernel_rfl) (C:(Region.ready .any ops (df ops.size dn)).contains i=true:=by kernel_rfl)
 (hw:cT ops l I:=by exact cM) (ak:I.dst=some d:=by exact rfl) (aC:Nat.blt d n=true:=by exact rfl):T P w0 ops Q bK X n (k+1) dn l H:=T.take i q A aj r C (fun _ _=>Y.nilCheck B E) hw ak aC o h
theorem T.b0{v:Value}{d:Nat}(i:Nat)(x:ops[i]?=some I)(hy:∀ab,bK ab→Y P w0 n l ab I v)(hw:cT ops l I)(o:bK H)(h:T P w0 ops Q bK X n k (i::dn) ((d,v)::l) H)
 (q:X.all (fun j=>Nat.beq j i||Region.waitsFor .any ops j i)=true:=by kernel_rfl) (aj:Region.noSelect ops=true:=by kernel_rfl) (r:Region.free .any ops (df ops.size dn) i=true:=by kernel_rfl) (A:(Region.ready .any ops (df ops.size dn)).contains i=true:=by kernel_rfl)
 (ak:I.dst=some d:=by exact rfl) (aC:Nat.blt d n=true:=by exact rfl):T P w0 ops Q bK X n (k+1) dn l H:=T.take i q x aj r A hy hw ak aC o h
theorem T.g1{d j e:Nat}{b c:Bool}(i:Nat)(A:ops[i]?=some I)(x:I.guard=some (j,b))(B:(ops[j]?).bind (·.dst)=some e)(av:cG l e=some (.bool c))(o:bK H)(h:T P w0 ops Q bK X n k (i::dn) ((d,undef)::l) H)
 (q:X.all (fun j=>Nat.beq j i||Region.waitsFor .any ops j i)=true:=by kernel_rfl) (aj:Region.noSelect ops=true:=by kernel_rfl) (r:Region.free .any ops (df ops.size dn) i=true:=by kernel_rfl) (E:(Region.ready .any ops (df ops.size dn)).contains i=true:=by kernel_rfl)
 (C:(c==b)=false:=by exact rfl) (ak:I.dst=some d:=by exact rfl) (aC:Nat.blt d n=true:=by exact rfl):T P w0 ops Q bK X n (k+1) dn l H:=T.gs i q A aj r E x B av C ak aC o h
theorem T.jL{d j e:Nat}{b:Bool}(i:Nat)(A:ops[i]?=some I)(x:I.guard=some (j,b))(B:(ops[j]?).bind (·.dst)=some e)(av:cG l e=some undef)(o:bK H)(h:T P w0 ops Q bK X n k (i::dn) ((d,undef)::l) H)
 (q:X.all (fun j=>Nat.beq j i||Region.waitsFor .any ops j i)=true:=by kernel_rfl) (aj:Region.noSelect ops=true:=by kernel_rfl) (r:Region.free .any ops (df ops.size dn) i=true:=by kernel_rfl) (C:(Region.ready .any ops (df ops.size dn)).contains i=true:=by kernel_rfl)
 (ak:I.dst=some d:=by exact rfl) (aC:Nat.blt d n=true:=by exact rfl):T P w0 ops Q bK X n (k+1) dn l H:=T.sr i q A aj r C x B av ak aC o h
theorem T.aX(i:Nat)(h:dM P w0 ops Q bK X n k i dn l H)(d:Region.ready .any ops (df ops.size dn)=[i]:=by kernel_rfl):T P w0 ops Q bK X n (k+1) dn l H:=T.one d h
end
theorem ao.q{ks:List Nat}{h a7:Nat}(x:U 0 h a7):ao ks h a7:=ao.app ao.z x (Nat.le_refl _)
theorem ao.r{ks:List Nat}{h k a7:Nat}(x:U k h a7)(hm:k∈ks:=by simp):ao ks h a7:=ao.app (ao.root hm) x (Nat.le_refl _)
theorem ah.I{ks:List Nat}{h k:Nat}(d:ao ks h k):ah ks h [k]:=ah.cons d ah.nil
theorem ag.I{a k:Nat}(d:af a k):ag a [k]:=ag.cons d ag.nil
theorem ay.I{F:Nat→Prop}{k:Nat}(d:ax F k):ay F [k]:=ay.cons d ay.nil
theorem W.bx{iA:List Nat}{J H ab:Heap}(x:aq J H)(s:W (aB iA) H ab)(d:ah [] J.size iA):aq J ab:=(W.aL (ks:=[]) (x.kI []) s d).nil
def cE:= @Tryz.isAgg3
def ec:= @Tryz.isAgg4
def ed:= @Tryz.isAgg5
def bR:= @Tryz.isAgg9
def dV:= @Tryz.isAgg24
def cj:= @Tryz.isAgg26
def fU:= @Tryz.isAgg27
def j9:= @Tryz.isAgg29
def eA:= @Tryz.isAgg30
def gz:= @Tryz.isAgg32
def lJ:= @Tryz.isAgg34
def pN:= @Tryz.isAgg35
def jh:= @Tryz.isAgg44
def hT:= @Tryz.isAgg45
def gY:= @Tryz.isAgg47
def ji:= @Tryz.isAgg52
def eI:= @Tryz.isAgg57
def k6:= @Tryz.isAgg60
def um:= @Tryz.isAgg62
def uo:= @Tryz.isAgg64
def iu:= @Tryz.isAgg68
def uq:= @Tryz.isAgg69
def pO:= @Tryz.isAgg71
def pP:= @Tryz.isAgg95
def hg:= @Tryz.isAgg103
def rG:= @Tryz.isAgg104
def oo:= @Tryz.isAgg129
def zA:= @Tryz.isAgg130
def oq:= @Tryz.isAgg168
def zB:= @Tryz.isAgg171
def uh:= @Tryz.isAgg175
def ui:= @Tryz.isAgg177
def uj:= @Tryz.isAgg184
def uk:= @Tryz.isAgg216
def zC:= @Tryz.isAgg230
def pM:= @Tryz.isAgg275
def e1:= @Tryz.isAgg329
def zD:= @Tryz.isAgg335
def rH:= @Tryz.isAgg336
def zE:= @Tryz.isAgg356
def AG:= @Tryz.call11
def u1:= @Tryz.call12
def u2:= @Tryz.call13
def u4:= @Tryz.call14
def oE:= @Tryz.call15
def AZ:= @Tryz.call16
def oF:= @Tryz.call17
def rV:= @Tryz.call18
def p1:= @Tryz.call19
def Be:= @Tryz.call20
def Bf:= @Tryz.call21
def Bg:= @Tryz.call22
def Bk:= @Tryz.call23
def Bm:= @Tryz.call24
def Bu:= @Tryz.call35
def vh:= @Tryz.call37
def Bv:= @Tryz.call38
def rY:= @Tryz.call39
def p2:= @Tryz.call40
def Bw:= @Tryz.call41
def Bx:= @Tryz.call42
def By:= @Tryz.call43
def Bz:= @Tryz.call44
def BA:= @Tryz.call45
def hp:= @Tryz.call46
def kx:= @Tryz.call47
def p3:= @Tryz.call48
def BB:= @Tryz.call49
def BC:= @Tryz.call50
def BD:= @Tryz.call51
def vi:= @Tryz.call52
def vj:= @Tryz.call53
def vk:= @Tryz.call54
def ky:= @Tryz.call55
def BE:= @Tryz.call56
def BF:= @Tryz.call57
def vl:= @Tryz.call58
def ni:= @Tryz.call59
def BG:= @Tryz.call60
def BH:= @Tryz.call61
def BI:= @Tryz.call62
def BJ:= @Tryz.call63
def BK:= @Tryz.call64
def BL:= @Tryz.call78
def vm:= @Tryz.call79
def mq:= @Tryz.call88
def vn:= @Tryz.call89
def rZ:= @Tryz.call90
def vo:= @Tryz.call91
def jF:= @Tryz.call93
def BM:= @Tryz.call98
def kz:= @Tryz.call99
def rU:= @Tryz.call100
def oB:= @Tryz.call101
def nf:= @Tryz.call102
def AB:= @Tryz.call103
def AD:= @Tryz.call104
def AE:= @Tryz.call105
def uV:= @Tryz.call106
def uW:= @Tryz.call107
def uX:= @Tryz.call108
def AF:= @Tryz.call109
def uY:= @Tryz.call110
def uZ:= @Tryz.call111
def AH:= @Tryz.call112
def u0:= @Tryz.call113
def oC:= @Tryz.call114
def AI:= @Tryz.call115
def AJ:= @Tryz.call116
def AK:= @Tryz.call117
def AL:= @Tryz.call118
def oD:= @Tryz.call119
def lO:= @Tryz.call120
def ng:= @Tryz.call121
def AM:= @Tryz.call122
def AN:= @Tryz.call123
def AO:= @Tryz.call124
def AP:= @Tryz.call125
def AQ:= @Tryz.call126
def AR:= @Tryz.call127
def AS:= @Tryz.call128
def AT:= @Tryz.call129
def AU:= @Tryz.call130
def AV:= @Tryz.call131
def AW:= @Tryz.call132
def u3:= @Tryz.call133
def AX:= @Tryz.call134
def AY:= @Tryz.call141
def u5:= @Tryz.call160
def A0:= @Tryz.call165
def u6:= @Tryz.call166
def jE:= @Tryz.call167
def pY:= @Tryz.call168
def A1:= @Tryz.call169
def A2:= @Tryz.call170
def A3:= @Tryz.call171
def A4:= @Tryz.call172
def A5:= @Tryz.call173
def A6:= @Tryz.call174
def A7:= @Tryz.call175
def A8:= @Tryz.call176
def nh:= @Tryz.call177
def A9:= @Tryz.call178
def u7:= @Tryz.call179
def u9:= @Tryz.call180
def lP:= @Tryz.call183
def pZ:= @Tryz.call184
def u_:= @Tryz.call185
def va:= @Tryz.call186
def vb:= @Tryz.call187
def vc:= @Tryz.call188
def p0:= @Tryz.call189
def A_:= @Tryz.call190
def Ba:= @Tryz.call191
def Bb:= @Tryz.call193
def Bc:= @Tryz.call194
def vd:= @Tryz.call195
def Bd:= @Tryz.call196
def ve:= @Tryz.call221
def rW:= @Tryz.call222
def Bh:= @Tryz.call223
def Bi:= @Tryz.call224
def rX:= @Tryz.call225
def vf:= @Tryz.call226
def Bj:= @Tryz.call227
def Bl:= @Tryz.call230
def Bn:= @Tryz.call255
def Bo:= @Tryz.call256
def vg:= @Tryz.call257
def Bp:= @Tryz.call258
def Bq:= @Tryz.call273
def Br:= @Tryz.call277
def kv:= @Tryz.call278
def Bs:= @Tryz.call279
def Bt:= @Tryz.call280
def Gj:= @Tryz.sizeOf2
def b6:= @Tryz.sizeOf3
def dz:= @Tryz.sizeOf4
def cK:= @Tryz.sizeOf5
def bV:= @Tryz.sizeOf9
def dO:= @Tryz.sizeOf24
def bd:= @Tryz.sizeOf26
def e4:= @Tryz.sizeOf27
def dY:= @Tryz.sizeOf29
def dT:= @Tryz.sizeOf30
def fj:= @Tryz.sizeOf32
def l3:= @Tryz.sizeOf34
def q3:= @Tryz.sizeOf35
def h2:= @Tryz.sizeOf44
def gS:= @Tryz.sizeOf45
def ev:= @Tryz.sizeOf47
def dp:= @Tryz.sizeOf52
def c8:= @Tryz.sizeOf57
def lq:= @Tryz.sizeOf60
def iH:= @Tryz.sizeOf62
def mT:= @Tryz.sizeOf64
def cr:= @Tryz.sizeOf68
def Gl:= @Tryz.sizeOf69
def iI:= @Tryz.sizeOf71
def q4:= @Tryz.sizeOf95
def tn:= @Tryz.sizeOf100
def Gi:= @Tryz.sizeOf103
def hQ:= @Tryz.sizeOf129
def ln:= @Tryz.sizeOf168
def mR:= @Tryz.sizeOf170
def mS:= @Tryz.sizeOf171
def ym:= @Tryz.sizeOf175
def yn:= @Tryz.sizeOf177
def lo:= @Tryz.sizeOf183
def l1:= @Tryz.sizeOf184
def l2:= @Tryz.sizeOf213
def q1:= @Tryz.sizeOf216
def Gk:= @Tryz.sizeOf230
def q2:= @Tryz.sizeOf275
def eo:= @Tryz.sizeOf329
def yo:= @Tryz.sizeOf335
def lp:= @Tryz.sizeOf336
def yp:= @Tryz.sizeOf354
def yq:= @Tryz.sizeOf356
def gk:= @Tryz.runUnderlying3
def ju:= @Tryz.runUnderlying5
def dC:= @Tryz.runUnderlying9
def tQ:= @Tryz.runUnderlying22
def y4:= @Tryz.runUnderlying23
def c9:= @Tryz.runUnderlying24
def j2:= @Tryz.runUnderlying26
def fZ:= @Tryz.runUnderlying27
def bN:= @Tryz.runUnderlying29
def cA:= @Tryz.runUnderlying30
def bt:= @Tryz.runUnderlying32
def hF:= @Tryz.runUnderlying44
def h6:= @Tryz.runUnderlying45
def cH:= @Tryz.runUnderlying47
def cv:= @Tryz.runUnderlying52
def dj:= @Tryz.runUnderlying57
def km:= @Tryz.runUnderlying60
def jv:= @Tryz.runUnderlying62
def Hl:= @Tryz.runUnderlying64
def tU:= @Tryz.runUnderlying66
def fr:= @Tryz.runUnderlying68
def jw:= @Tryz.runUnderlying69
def l6:= @Tryz.runUnderlying71
def y8:= @Tryz.runUnderlying83
def rj:= @Tryz.runUnderlying95
def Hk:= @Tryz.runUnderlying100
def hb:= @Tryz.runUnderlying102
def hR:= @Tryz.runUnderlying104
def nY:= @Tryz.runUnderlying108
def jt:= @Tryz.runUnderlying129
def kT:= @Tryz.runUnderlying130
def px:= @Tryz.runUnderlying132
def ri:= @Tryz.runUnderlying168
def mZ:= @Tryz.runUnderlying170
def kl:= @Tryz.runUnderlying173
def py:= @Tryz.runUnderlying177
def ly:= @Tryz.runUnderlying183
def ja:= @Tryz.runUnderlying186
def gj:= @Tryz.runUnderlying206
def kU:= @Tryz.runUnderlying213
def gV:= @Tryz.runUnderlying216
def l4:= @Tryz.runUnderlying223
def y5:= @Tryz.runUnderlying244
def tT:= @Tryz.runUnderlying251
def j3:= @Tryz.runUnderlying275
def y6:= @Tryz.runUnderlying291
def pz:= @Tryz.runUnderlying329
def l5:= @Tryz.runUnderlying335
def fO:= @Tryz.runUnderlying336
def y7:= @Tryz.runUnderlying354
def iL:= @Tryz.runUnderlying356
def zt:= @Tryz.zeroValue5
def HQ:= @Tryz.zeroValue9
def m0:= @Tryz.zeroValue26
def zq:= @Tryz.zeroValue29
def pE:= @Tryz.zeroValue32
def kW:= @Tryz.zeroValue47
def l9:= @Tryz.zeroValue52
def zu:= @Tryz.zeroValue60
def zv:= @Tryz.zeroValue62
def lz:= @Tryz.zeroValue68
def HP:= @Tryz.zeroValue71
def t_:= @Tryz.zeroValue129
def zp:= @Tryz.zeroValue166
def HN:= @Tryz.zeroValue175
def zr:= @Tryz.zeroValue335
def HO:= @Tryz.zeroValue336
end E

namespace E
open Go.MapKept
structure c0 {κ β:Type} (H:Heap) (a1:κ→Value) (fv:β→Value) (b:Nat) (m:List (κ×β)):Prop where
 fi:hn (fun x=>x=b) H a1 fv (.map (some b)) m
section
variable {κ β : Type} {H ab : Heap} {a1 : κ → Value} {fv : β → Value} {b k : Nat} {m : List (κ × β)} {ks : List Nat}
theorem c0.lt(h:c0 H a1 fv b m):b<H.size:=h.fi.Al
theorem c0.up{S:Nat→Prop}(h:c0 H a1 fv b m)(s:W S H ab)(d:¬S b):c0 ab a1 fv b m:=⟨h.fi.up s (fun x _ e V=>d (by rw[←e];exact V))⟩
theorem c0.N(h:c0 H a1 fv b m)(s:aq H ab):c0 ab a1 fv b m:=⟨h.fi.N s⟩
theorem c0.ae(x:c0 H a1 fv b m)(s:W (aB ks) H ab)(d:ag (b+1) ks):c0 ab a1 fv b m:=x.up s (fun V=>d (b+1) V b rfl rfl)
end
section
variable {P : Program} {w0 : World} {n : Nat} {l : bO} {H : Heap} {I : Oper} {κ β : Type} [DecidableEq κ] {a1 : κ → Value} {fv : β → Value} {b : Nat} {m : List (κ × β)} {d : TypeDesc}
theorem Z.nJ(a1:κ→Value)(fv:β→Value){t:TypeId}(i:I.op= .makeMap t none):Z P w0 n l H I (fun r ab=>r= .map (some H.size)∧c0 ab a1 fv H.size ([]:List (κ×β))∧aq H ab∧∃j,ab=H.push j):=by
 intro a w k d;refine⟨.map (some w.heap.size),H.push (.map #[] 0),w.alloc (.map #[] 0),?_,d.alloc _,by rw[d.heap],⟨H.size,#[],0,rfl,rfl,by simp,stamped_empty 0,rfl⟩,aq.pu _ _,_,rfl⟩;simp[execOp,i,Instr.makeMap]
theorem S.l0{t eW j:TypeId}{x i y:Operand}{k:κ}(z:β)(h:c0 H a1 fv b m)(q:kY d a1)(B:I.op= .mapUpdate t x i y)(hm:∀w,(underlying t).run P w= .ok (.map eW j) w)(A:P.underlying eW=some d)
 (C:aH l x=some (.map (some b))) (r:aH l i=some (a1 k)) (hy:aH l y=some (fv z)):S P w0 n l H I (fun ab=>c0 ab a1 fv b (fD m k z)∧W (fun c=>c=b) H ab):=
 (S.mapUpdate h.fi q B hm A C r hy).mono fun ab ⟨o,V⟩=>⟨⟨o⟩,V⟩
end
theorem kJ{κ β:Type}[DecidableEq κ](m:List (κ×β))(k:κ)(b:β)(q:κ):aM (fD m k b) q=if q=k then some b else aM m q:=by
 have j:∀m:List (κ×β),aM (m.map (fun p=>if p.1=k then(p.1,b)else p)) q=if q=k then(aM m q).map (fun _=>b)else aM m q:=by
  intro m
  induction m with
  |nil=>simp[aM]
  |cons p m ih=>
   simp only[List.map_cons];by_cases i:p.1=k
   ·rw[if_pos i]
    by_cases d:q=p.1
    ·have:q=k:=d.trans i
     simp[aM,d,i]
    ·simp only[aM]
     rw[if_neg d,ih,if_neg d]
   ·rw[if_neg i]
    by_cases d:q=p.1
    ·have:¬q=k:=fun e=>i (by rw[←d,e])
     simp[aM,d,i]
    ·simp only[aM]
     rw[if_neg d,ih,if_neg d]
 have V:∀m:List (κ×β),aM (m++[(k,b)]) q=(aM m q).or (if q=k then some b else none):=by
  intro m
  induction m with
  |nil=>simp[aM]
  |cons p m ih=>
   simp only[List.cons_append,aM];split
   ·simp
   ·exact ih
 unfold fD;split
 ·rename_i h
  rw[j];by_cases d:q=k
  ·subst d
   obtain⟨z,n⟩:=Option.isSome_iff_exists.1 h;simp[n]
  ·simp[d]
 ·rename_i h
  rw[V];by_cases d:q=k
  ·subst d
   have:aM m q=none:=by simpa using h
   simp[this]
  ·simp[d]
section
variable {P : Program} {w0 : World} {Q : Exit → Act → World → Prop} {n : Nat} {l : bO} {H : Heap} {ops : Array Oper} {rest : List Oper} {I : Oper}
theorem o.rq{i:Value→Heap→Prop}(A:Z P w0 n l H I i)(hw:cT ops l I)(ak:I.dst=none)
 (h:∀v ab,i v ab→o false P w0 ops Q n l rest ab):o false P w0 ops Q n l (I::rest) H:=by
 intro a w d q;obtain⟨v,ab,j,x,r,k⟩:=A a w d q;have bz:=h v ab k a j d r;simp only[jf]at bz⊢;unfold wpList;rw[if_pos (hw n a d)];refine .inl ?_;unfold Oper.wp;rw[x];show wpList P ops Q rest (a.put I.dst v) j;rw[ak];exact bz
end
section
variable {P : Program} {w0 : World} {Q : Exit → Act → World → Prop} {bK : Heap → Prop} {X : List Nat} {n k : Nat} {l : bO} {H : Heap} {ops : Array Oper} {I : Oper} {dn : List Nat}
end
end E

namespace E
section
variable {P : Program} {w0 : World} {n : Nat} {l : bO} {H : Heap} {I : Oper}
theorem Y.ext{f:FuncId}{fn:Func}{e:Array Value→Sem Value}{args:List Operand}{j:Array TypeId}{i:List Value}{v:Value}(A:I.op= .call {callee:= .value (.func f),args:=args.toArray,argTypes:=j})(q:P.funcs[f]?=some fn)
 (x:(fn.name== "runtime.NumGoroutine")=false) (aA:fn.body.isNone=true) (aC:Extern.findNext fn=none) (he:Extern.find fn=some e) (C:gH l args=some i) (B:∀w,At w0 H w→(e i.toArray).run P w= .ok v w):Y P w0 n l H I v:=by
 intro a w r o;have k:a.eval (.func f)= .func (.func f) #[] #[]:=rfl;have V:=r.jH C;have d:=run_callFunc_extern (P:=P) q x aA aC he i.toArray w;rw[B w o]at d;simp only[Result.andThen]at d;simp[execOp,A,resolve,Deferred.ofValue,k,invoke,V,d]
theorem AA(xs:List UInt8):Lib.bytesOf (xs.map (fun b=>(b.toNat:Int)))=xs:=by
 induction xs with
 |nil=>rfl
 |cons b xs ih=>simp only[Lib.bytesOf,List.map_cons,List.map_map]at ih⊢;rw[ih];simp
end
end E

namespace E
section
variable {P : Program} {w0 : World} {n : Nat} {l : bO} {H : Heap} {I : Oper}
theorem wrap_u8(n:Int):IntKind.u8.wrap n=n%256:=by
 have d:IntKind.u8.signed=false:=rfl;have V:(2^IntKind.u8.bits:Int)=256:=by decide
 simp only[IntKind.wrap,d,V,Bool.false_and,Bool.false_eq_true,if_false]
theorem Hs(x y:UInt8):IntKind.u8.wrap ((x.toNat:Int)+y.toNat)=((x+y).toNat:Int):=by
 rw[wrap_u8,UInt8.toNat_add];omega
theorem HD(a:Nat):IntKind.u8.wrap (a:Int)=((UInt8.ofNat a).toNat:Int):=by
 rw[wrap_u8,UInt8.toNat_ofNat'];omega
theorem Y.ux{x y:Operand}{t u:TypeId}{a b:UInt8}(d:I.op= .binOp .add t x y u)(i:aH l x=some (.int .u8 a.toNat))(hy:aH l y=some (.int .u8 b.toNat)):Y P w0 n l H I (.int .u8 (a+b).toNat):=Y.rK d i hy (Hs a b)
theorem Y.oI{x:Operand}{s d:TypeId}{k:IntKind}{a:Nat}{ds:TypeDesc}(i:I.op= .convert s d x)(aj:∀w,(underlying s).run P w= .ok ds w)(ak:∀w,(underlying d).run P w= .ok (.int .u8) w)(j:aH l x=some (.int k a)):Y P w0 n l H I (.int .u8 (UInt8.ofNat a).toNat):=by
 have h:=Y.conv (P:=P) (w0:=w0) (n:=n) (H:=H) i aj ak j
 rwa[HD]at h
theorem wrap_u32(n:Int):IntKind.u32.wrap n=n%4294967296:=by
 have d:IntKind.u32.signed=false:=rfl;have V:(2^IntKind.u32.bits:Int)=4294967296:=by decide
 simp only[IntKind.wrap,d,V,Bool.false_and,Bool.false_eq_true,if_false]
theorem Hq(x y:UInt32):IntKind.u32.wrap ((x.toNat:Int)+y.toNat)=((x+y).toNat:Int):=by
 rw[wrap_u32,UInt32.toNat_add];omega
theorem zh(a:Nat):IntKind.u32.wrap (a:Int)=((UInt32.ofNat a).toNat:Int):=by
 rw[wrap_u32,UInt32.toNat_ofNat'];omega
theorem pC(x:UInt32):BitVec.ofInt IntKind.u32.bits (x.toNat:Int)=x.toBitVec:=by
 apply BitVec.eq_of_toNat_eq;have:=x.toNat_lt;show(BitVec.ofInt 32 (x.toNat:Int)).toNat=x.toNat;rw[BitVec.toNat_ofInt];omega
theorem rl(x:UInt32):IntKind.u32.wrap (x.toBitVec.toNat:Int)=(x.toNat:Int):=by
 have:=x.toNat_lt;rw[wrap_u32];show((x.toNat:Nat):Int)%_=_;omega
theorem Y.j_{x y:Operand}{t u:TypeId}{a b:UInt32}(d:I.op= .binOp .add t x y u)(i:aH l x=some (.int .u32 a.toNat))(hy:aH l y=some (.int .u32 b.toNat)):Y P w0 n l H I (.int .u32 (a+b).toNat):=Y.rK d i hy (Hq a b)
def mU(x:UInt32)(j:Nat):UInt32:=UInt32.ofNat (x.toNat*2^j)
def jr(x:UInt32)(j:Nat):UInt32:=UInt32.ofNat (x.toNat/2^j)
theorem Gt(x:UInt32)(j:Nat):(jr x j).toNat=x.toNat/2^j:=by
 have:=x.toNat_lt;rw[jr,UInt32.toNat_ofNat'];exact Nat.mod_eq_of_lt (Nat.lt_of_le_of_lt (Nat.div_le_self _ _) this)
theorem Y.q8{x y:Operand}{t u:TypeId}{a7:IntKind}{a:UInt32}{aF:Int}(j:Nat)(k:I.op= .binOp .shl t x y u)(o:aH l x=some (.int .u32 a.toNat))(hy:aH l y=some (.int a7 aF))(d:aF=j)(i:j≤32):Y P w0 n l H I (.int .u32 (mU a j).toNat):=by
 have h:=Y.shl (P:=P) (w0:=w0) (n:=n) (H:=H) k o hy (by omega);rw[d,Int.toNat_natCast,show min j IntKind.u32.bits=j from Nat.min_eq_left i]at h;rw[show IntKind.u32.wrap ((a.toNat:Int)*2^j)=((mU a j).toNat:Int)by rw[mU,←zh];congr 1]at h;exact h
theorem Y.q9{x y:Operand}{t u:TypeId}{a7:IntKind}{a:UInt32}{aF:Int}(j:Nat)(k:I.op= .binOp .shr t x y u)(o:aH l x=some (.int .u32 a.toNat))(hy:aH l y=some (.int a7 aF))(d:aF=j)(i:j≤32):Y P w0 n l H I (.int .u32 (jr a j).toNat):=by
 have h:=Y.shr (P:=P) (w0:=w0) (n:=n) (H:=H) k o hy (by omega);rw[d,Int.toNat_natCast,show min j IntKind.u32.bits=j from Nat.min_eq_left i]at h
 rw[show(a.toNat:Int).fdiv (2^j)=((jr a j).toNat:Int)by
  rw[Gt,Int.fdiv_eq_ediv_of_nonneg _ (by exact Int.le_of_lt (Int.pow_pos (by decide)))];simp]at h
 exact h
theorem Y.EU{x:Operand}{t:TypeId}{a:UInt32}(j:I.op= .unOp .xor t x)(k:aH l x=some (.int .u32 a.toNat)):Y P w0 n l H I (.int .u32 (~~~a).toNat):=by
 intro ac w i o;have d:(if IntKind.u32.signed then(-1:Int)else IntKind.u32.max)=((UInt32.ofNat 4294967295).toNat:Int):=by decide
 have V:(BitVec.ofInt IntKind.u32.bits (if IntKind.u32.signed then(-1:Int)else IntKind.u32.max))^^^(BitVec.ofInt IntKind.u32.bits (a.toNat:Int))=(~~~a).toBitVec:=by
  rw[d,pC,pC];show BitVec.ofNat 32 4294967295^^^a.toBitVec= ~~~a.toBitVec;rw[show BitVec.ofNat 32 4294967295=BitVec.allOnes 32 by decide,BitVec.allOnes_xor]
 simp only[execOp,j,i.eval k,Op.unary,Op.intBits,V,Sem.run_bind,Sem.run_pure,Result.andThen_ok];exact congrArg (fun v=>Result.ok (Next.value (Value.int .u32 v)) w) (rl (~~~a))
theorem Y.ot{x y:Operand}{t u:TypeId}{a b:UInt32}(d:I.op= .binOp .and t x y u)(i:aH l x=some (.int .u32 a.toNat))(hy:aH l y=some (.int .u32 b.toNat)):Y P w0 n l H I (.int .u32 (a&&&b).toNat):=
 Y.bits .and _ d i hy (by simp) (fun w=>by
  simp only[Op.intBits,pC];show(pure (Value.int .u32 (IntKind.u32.wrap ((a&&&b).toBitVec.toNat:Int))):Sem Value).run P w=_;rw[rl];rfl)
theorem Y.qT{x y:Operand}{t u:TypeId}{a b:UInt32}(d:I.op= .binOp .or t x y u)(i:aH l x=some (.int .u32 a.toNat))(hy:aH l y=some (.int .u32 b.toNat)):Y P w0 n l H I (.int .u32 (a|||b).toNat):=
 Y.bits .or _ d i hy (by simp) (fun w=>by
  simp only[Op.intBits,pC];show(pure (Value.int .u32 (IntKind.u32.wrap ((a|||b).toBitVec.toNat:Int))):Sem Value).run P w=_;rw[rl];rfl)
theorem Y.kn{x y:Operand}{t u:TypeId}{a b:UInt32}(d:I.op= .binOp .xor t x y u)(i:aH l x=some (.int .u32 a.toNat))(hy:aH l y=some (.int .u32 b.toNat)):Y P w0 n l H I (.int .u32 (a^^^b).toNat):=
 Y.bits .xor _ d i hy (by simp) (fun w=>by
  simp only[Op.intBits,pC];show(pure (Value.int .u32 (IntKind.u32.wrap ((a^^^b).toBitVec.toNat:Int))):Sem Value).run P w=_;rw[rl];rfl)
theorem Y.p_{x:Operand}{s d:TypeId}{k:IntKind}{a:Nat}{ds:TypeDesc}(i:I.op= .convert s d x)(aj:∀w,(underlying s).run P w= .ok ds w)(ak:∀w,(underlying d).run P w= .ok (.int .u32) w)(j:aH l x=some (.int k a)):Y P w0 n l H I (.int .u32 (UInt32.ofNat a).toNat):=by
 have h:=Y.conv (P:=P) (w0:=w0) (n:=n) (H:=H) i aj ak j
 rwa[zh]at h
theorem wrap_u64(n:Int):IntKind.u64.wrap n=n%18446744073709551616:=by
 have d:IntKind.u64.signed=false:=rfl;have V:(2^IntKind.u64.bits:Int)=18446744073709551616:=by decide
 simp only[IntKind.wrap,d,V,Bool.false_and,Bool.false_eq_true,if_false]
theorem Hr(x y:UInt64):IntKind.u64.wrap ((x.toNat:Int)+y.toNat)=((x+y).toNat:Int):=by
 rw[wrap_u64,UInt64.toNat_add];omega
theorem HM(x y:UInt64):IntKind.u64.wrap ((x.toNat:Int)-y.toNat)=((x-y).toNat:Int):=by
 have:=x.toNat_lt;have:=y.toNat_lt;rw[wrap_u64,UInt64.toNat_sub];omega
theorem HC(x y:UInt64):IntKind.u64.wrap ((x.toNat:Int)*y.toNat)=((x*y).toNat:Int):=by
 rw[wrap_u64,UInt64.toNat_mul];rfl
theorem zi(a:Nat):IntKind.u64.wrap (a:Int)=((UInt64.ofNat a).toNat:Int):=by
 rw[wrap_u64,UInt64.toNat_ofNat'];omega
theorem zf(x:UInt64):BitVec.ofInt IntKind.u64.bits (x.toNat:Int)=x.toBitVec:=by
 apply BitVec.eq_of_toNat_eq;have:=x.toNat_lt;show(BitVec.ofInt 64 (x.toNat:Int)).toNat=x.toNat;rw[BitVec.toNat_ofInt];omega
theorem ze(x:UInt64):IntKind.u64.wrap (x.toBitVec.toNat:Int)=(x.toNat:Int):=by
 have:=x.toNat_lt;rw[wrap_u64];show((x.toNat:Nat):Int)%_=_;omega
theorem Y.zL{x y:Operand}{t u:TypeId}{a b:UInt64}(d:I.op= .binOp .add t x y u)(i:aH l x=some (.int .u64 a.toNat))(hy:aH l y=some (.int .u64 b.toNat)):Y P w0 n l H I (.int .u64 (a+b).toNat):=Y.rK d i hy (Hr a b)
theorem Y.GZ{x y:Operand}{t u:TypeId}{a b:UInt64}(d:I.op= .binOp .sub t x y u)(i:aH l x=some (.int .u64 a.toNat))(hy:aH l y=some (.int .u64 b.toNat)):Y P w0 n l H I (.int .u64 (a-b).toNat):=Y.G0 d i hy (HM a b)
theorem Y.En{x y:Operand}{t u:TypeId}{a b:UInt64}(d:I.op= .binOp .mul t x y u)(i:aH l x=some (.int .u64 a.toNat))(hy:aH l y=some (.int .u64 b.toNat)):Y P w0 n l H I (.int .u64 (a*b).toNat):=Y.Eo d i hy (HC a b)
def tt(x:UInt64)(j:Nat):UInt64:=UInt64.ofNat (x.toNat*2^j)
def iJ(x:UInt64)(j:Nat):UInt64:=UInt64.ofNat (x.toNat/2^j)
theorem tu(x:UInt64)(j:Nat):(iJ x j).toNat=x.toNat/2^j:=by
 have:=x.toNat_lt;rw[iJ,UInt64.toNat_ofNat'];exact Nat.mod_eq_of_lt (Nat.lt_of_le_of_lt (Nat.div_le_self _ _) this)
theorem Y.H2{x y:Operand}{t u:TypeId}{a7:IntKind}{a:UInt64}{aF:Int}(j:Nat)(k:I.op= .binOp .shl t x y u)(o:aH l x=some (.int .u64 a.toNat))(hy:aH l y=some (.int a7 aF))(d:aF=j)(i:j≤64):Y P w0 n l H I (.int .u64 (tt a j).toNat):=by
 have h:=Y.shl (P:=P) (w0:=w0) (n:=n) (H:=H) k o hy (by omega);rw[d,Int.toNat_natCast,show min j IntKind.u64.bits=j from Nat.min_eq_left i]at h;rw[show IntKind.u64.wrap ((a.toNat:Int)*2^j)=((tt a j).toNat:Int)by rw[tt,←zi];congr 1]at h;exact h
theorem Y.pq{x y:Operand}{t u:TypeId}{a7:IntKind}{a:UInt64}{aF:Int}(j:Nat)(k:I.op= .binOp .shr t x y u)(o:aH l x=some (.int .u64 a.toNat))(hy:aH l y=some (.int a7 aF))(d:aF=j)(i:j≤64):Y P w0 n l H I (.int .u64 (iJ a j).toNat):=by
 have h:=Y.shr (P:=P) (w0:=w0) (n:=n) (H:=H) k o hy (by omega);rw[d,Int.toNat_natCast,show min j IntKind.u64.bits=j from Nat.min_eq_left i]at h
 rw[show(a.toNat:Int).fdiv (2^j)=((iJ a j).toNat:Int)by
  rw[tu,Int.fdiv_eq_ediv_of_nonneg _ (by exact Int.le_of_lt (Int.pow_pos (by decide)))];simp]at h
 exact h
theorem Y.zR{x y:Operand}{t u:TypeId}{a b:UInt64}(d:I.op= .binOp .and t x y u)(i:aH l x=some (.int .u64 a.toNat))(hy:aH l y=some (.int .u64 b.toNat)):Y P w0 n l H I (.int .u64 (a&&&b).toNat):=
 Y.bits .and _ d i hy (by simp) (fun w=>by
  simp only[Op.intBits,zf];show(pure (Value.int .u64 (IntKind.u64.wrap ((a&&&b).toBitVec.toNat:Int))):Sem Value).run P w=_;rw[ze];rfl)
theorem Y.E9{x y:Operand}{t u:TypeId}{a b:UInt64}(d:I.op= .binOp .or t x y u)(i:aH l x=some (.int .u64 a.toNat))(hy:aH l y=some (.int .u64 b.toNat)):Y P w0 n l H I (.int .u64 (a|||b).toNat):=
 Y.bits .or _ d i hy (by simp) (fun w=>by
  simp only[Op.intBits,zf];show(pure (Value.int .u64 (IntKind.u64.wrap ((a|||b).toBitVec.toNat:Int))):Sem Value).run P w=_;rw[ze];rfl)
theorem Y.hq{x:Operand}{s d:TypeId}{k:IntKind}{a:Nat}{ds:TypeDesc}(i:I.op= .convert s d x)(aj:∀w,(underlying s).run P w= .ok ds w)(ak:∀w,(underlying d).run P w= .ok (.int .u64) w)(j:aH l x=some (.int k a)):Y P w0 n l H I (.int .u64 (UInt64.ofNat a).toNat):=by
 have h:=Y.conv (P:=P) (w0:=w0) (n:=n) (H:=H) i aj ak j
 rwa[zi]at h
theorem b8.at{ad:Addr}{cs:List Value}{c:Value}(h:b8 H ad cs)(j:Nat)(av:cs[j]?=some c):b8 H ⟨ad.block,ad.off+j,none⟩ [c]:=
 ⟨rfl,fun i d ak=>by
  match i,ak with
  |0,ak=>simp only[List.getElem?_cons_zero,Option.some.injEq]at ak;subst ak;exact h.cells j _ av⟩
theorem Y.ow{x i:Operand}{t e:TypeId}{len:Nat}{k:IntKind}{aF:Int}{ad:Addr}{cs:List Value}(h:b8 H ad cs)(j:Nat)(A:I.op= .indexAddr t x i)(B:∀w,(underlying t).run P w= .ok (.array len e) w)(aj:∀w,(sizeOf e).run P w= .ok 1 w)
 (C:aH l x=some (.pointer (some ad))) (o:aH l i=some (.int k aF)) (q:aF=j) (r:j<len):Y P w0 n l H I (.pointer (some ⟨ad.block,ad.off+j,none⟩)):=by
 subst q;intro ac w d E;have:=add_eq h.spot j;simp[execOp,A,d.eval C,d.eval o,Instr.indexAt,asIntOf,Instr.sureAddr,B,aj,r,this]
theorem eH {x i : Operand} {t e : TypeId} {len : Nat} {k : IntKind} {aF : Int} {ad : Addr} {cs : List Value} (h : b8 H ad cs) (j : Nat) (A : ∀w,(underlying t).run P w= .ok (.array len e) w) (aj : ∀w,(sizeOf e).run P w= .ok 1 w) (r : I.op= .indexAddr t x i := by exact rfl) (B : aH l x=some (.pointer (some ad)) := by exact rfl) (d : aH l i=some (.int k aF) := by exact rfl) (o : aF=j := by first|rfl|omega) (q : j<len := by first|omega|(simp;omega)|(simp;done)) : Y P w0 n l H I (.pointer (some ⟨ad.block,ad.off+j,none⟩)) := Y.ow h j r A aj B d o q
theorem Y.rO{x i:Operand}{t e:TypeId}{len:Nat}{k:IntKind}{aF:Int}{cs:Array Value}{c:Value}(j:Nat)(B:I.op= .index t x i)(C:∀w,(underlying t).run P w= .ok (.array len e) w)(aj:∀w,(sizeOf e).run P w= .ok 1 w)(o:∀w,(isAgg e).run P w= .ok false w)
 (E:aH l x=some (.agg cs)) (q:aH l i=some (.int k aF)) (r:aF=j) (A:j<len) (av:cs[j]?=some c):Y P w0 n l H I c:=by
 subst r;intro ac w d F;simp[execOp,B,d.eval E,d.eval q,Instr.index,asIntOf,C,aj,o,A,part,av]
theorem Y.yx{α:Type}{F:Nat→Prop}{f:α→List Value}{x:Operand}{A o:Option Operand}{t e:TypeId}{len:Nat}{ad:Addr}{cs:List Value}{xs:List α}(h:b8 H ad cs)(M:F ad.block)(aA:ad.block<H.size)(ae:xs.length=len)(N:∀(i:Nat) (x:α),xs[i]?=some x→cs[i]?=(f x)[0]?∧(f x).length=1)(i j:Nat)
 (J:I.op= .slice t x A o none) (d:∀w,(underlying t).run P w= .ok (.array len e) w∨∃C,(underlying t).run P w= .ok (.pointer C) w∧(underlying C).run P w= .ok (.array len e) w) (aj:∀w,(sizeOf e).run P w= .ok 1 w) (L:aH l x=some (.pointer (some ad)))
 (Q:A=none∧i=0∨∃p k aF,A=some p∧aH l p=some (.int k aF)∧aF=(i:Int)) (O:o=none∧j=len∨∃p k aF,o=some p∧aH l p=some (.int k aF)∧aF=(j:Int)) (X:i≤j) (Z:j≤len) (hm:len≤maxLen):
 (∀ab,Y P w0 n l ab I (.slice (some (if len=i then ad else⟨ad.block,ad.off+i,none⟩)) (j-i) (len-i)))∧Rd F H f 1 (.slice (some (if len=i then ad else⟨ad.block,ad.off+i,none⟩)) (j-i) (len-i)) ((xs.take j).drop i):=by
 constructor
 ·intro ab ac w B W
  have aN:∀w,(Instr.sliceBounds false len len (A.map ac.eval) (o.map ac.eval) none).run P w= .ok (i,j,len) w:=by
   intro w
   rcases Q with⟨rfl,rfl⟩|⟨p,k,aF,rfl,E,rfl⟩<;>rcases O with⟨rfl,rfl⟩|⟨ag,a7,af,rfl,U,rfl⟩<;>
    simp[Instr.sliceBounds,Instr.sliceBound,asIntOf,B.eval, *]
  have G:=add_eq h.spot i;rcases d w with d|⟨C,d,T⟩
  ·simp[execOp,J,B.eval L,Instr.sliceAt,Instr.sureAddr,d,aj,aN,G]
  ·simp[execOp,J,B.eval L,Instr.sliceAt,Instr.slice,asAddr,d,T,aj,aN,G]
 ·have hlen:((xs.take j).drop i).length=j-i:=by simp;omega
  refine⟨_,_,by rw[hlen],by rw[hlen];omega,by omega,fun R=>?_⟩
  have aa:i<j:=by
   apply Decidable.byContradiction;intro av;exact R (List.eq_nil_of_length_eq_zero (by rw[hlen];omega))
  rw[if_neg (by omega)];refine⟨_,rfl,rfl,M,aA,fun q y hy=>⟨rfl,fun r c K=>?_⟩⟩;rw[List.getElem?_drop,List.getElem?_take]at hy;split at hy
  ·obtain⟨E,V⟩:=N (i+q) y hy
   have S:r=0:=by have:=(List.getElem?_eq_some_iff.1 K).1;omega
   subst S;have:=h.cells (i+q) c (by rw[E];exact K)
   simpa[Nat.add_assoc]using this
  ·cases hy
theorem Y.ps{α:Type}{F:Nat→Prop}{f:α→List Value}{x:Operand}{o d:Option Operand}{t e:TypeId}{len:Nat}{ad:Addr}{cs:List Value}{xs:List α}(h:b8 H ad cs)(A:F ad.block)(aA:ad.block<H.size)(N:xs.length=len)(B:∀(i:Nat) (x:α),xs[i]?=some x→cs[i]?=(f x)[0]?∧(f x).length=1)(i j:Nat)
 (K:I.op= .slice t x o d none) (L:∀w,(underlying t).run P w= .ok (.array len e) w∨∃q,(underlying t).run P w= .ok (.pointer q) w∧(underlying q).run P w= .ok (.array len e) w) (aj:∀w,(sizeOf e).run P w= .ok 1 w) (M:aH l x=some (.pointer (some ad)))
 (J:o=none∧i=0∨∃p k aF,o=some p∧aH l p=some (.int k aF)∧aF=(i:Int)) (C:d=none∧j=len∨∃p k aF,d=some p∧aH l p=some (.int k aF)∧aF=(j:Int)) (E:i≤j) (G:j≤len) (hm:len≤maxLen):
 ∃r,(∀ab,Y P w0 n l ab I r)∧Rd F H f 1 r ((xs.take j).drop i):=
 ⟨_,Y.yx h A aA N B i j K L aj M J C E G hm⟩
theorem Gb{P:Program}(d:Nat){t e:TypeId}{len:Nat}{k:IntKind}{f:Nat→Int}{xs ys:List Int}(E:P.underlying t=some (.array len e))(he:P.underlying e=some (.int k))(aj:∀w,(sizeOf e).run P w= .ok 1 w)(A:∀w,(isAgg e).run P w= .ok false w)(F:xs.length=len)(hy:ys.length=len)(w:World):
 (Op.equalIn (d+2) t (.agg (xs.map (Value.int k)).toArray) (.agg (ys.map (Value.int k)).toArray)).run P w= .ok (decide (xs=ys)) w:=by
 have key:∀(m i:Nat),i+m=len→xs.take i=ys.take i→∀body:Nat→Option Bool×Unit→Sem (ForInStep (Option Bool×Unit)),
  (∀j (o:j<xs.length) (V:j<ys.length) r,(body j r).run P w= .ok (if xs[j]=ys[j]then .yield (none,())else .done (some false,())) w)→
  (forIn (List.range' i m) (none,()) body).run P w= .ok (if xs=ys then(none,())else(some false,())) w:=by
  intro m
  induction m with
  |zero=>
   intro i B n body _;rw[List.take_of_length_le (by omega),List.take_of_length_le (by omega)]at n
   simp[n]
  |succ m ih=>
   intro i B n body aA;rw[List.range'_succ,List.forIn_cons,Sem.run_bind,aA i (by omega) (by omega)];by_cases h:xs[i]'(by omega)=ys[i]'(by omega)
   ·simp only[h,if_true,Result.andThen_ok]
    exact ih (i+1) (by omega) (by rw[List.take_succ_eq_append_getElem (show i<xs.length by omega),List.take_succ_eq_append_getElem (show i<ys.length by omega),n,h]) body aA
   ·have C:xs≠ys:=fun e=>h (by subst e;rfl)
    simp only[h,if_false,Result.andThen_ok,C];rfl
 unfold Op.equalIn;simp only[Sem.run_bind,run_underlying E,Result.andThen_ok,aj];rw[Std.Legacy.Range.forIn_eq_forIn_range'];simp only[Std.Legacy.Range.size,Nat.sub_zero,Nat.add_sub_cancel,Nat.div_one];rw[key len 0 (by omega) rfl _ (fun j o V r=>?_)]
 ·by_cases h:xs=ys<;>simp[h,Result.andThen]
 ·have x:∀(zs:List Int) (h:j<zs.length),(part e (zs.map (Value.int k)).toArray (j*1)).run P w= .ok (.int k zs[j]) w:=fun zs h=>by simp[part,A,h]
  have q:(Op.equalIn (d+1) e (.int k xs[j]) (.int k ys[j])).run P w= .ok (xs[j]==ys[j]) w:=run_equalIn_int w d e k k _ _ he;simp only[Sem.run_bind,x xs o,x ys V,Result.andThen_ok,q];by_cases h:xs[j]=ys[j]<;>simp[h]
abbrev su(l:List UInt8):Value:= .agg (l.map (fun b=>Value.int .u8 b.toNat)).toArray
theorem gR{P:Program}(d:Nat){t e:TypeId}{len:Nat}{xs ys:List UInt8}(n:P.underlying t=some (.array len e))(he:P.underlying e=some (.int .u8))(aj:∀w,(sizeOf e).run P w= .ok 1 w)(i:∀w,(isAgg e).run P w= .ok false w)(o:xs.length=len)(hy:ys.length=len)(w:World):
 (Op.equalIn (d+2) t (su xs) (su ys)).run P w= .ok (decide (xs=ys)) w:=by
 have h:=Gb (P:=P) d (k:= .u8) (f:=fun _=>0) (xs:=xs.map (fun b=>(b.toNat:Int))) (ys:=ys.map (fun b=>(b.toNat:Int))) n he aj i (by simpa using o) (by simpa using hy) w;rw[List.map_map,List.map_map]at h
 have j:(xs.map (fun b=>(b.toNat:Int))=ys.map (fun b=>(b.toNat:Int)))↔xs=ys:=
  ⟨fun e=>(List.map_inj_right (fun a b h=>UInt8.toNat_inj.1 (by omega))).1 e,fun e=>by rw[e]⟩
 rw[decide_eq_decide.2 j]at h;exact h
end
section
variable {P : Program} {w0 : World} {n : Nat} {l : bO} {H : Heap} {I : Oper}
theorem Z.copy{α:Type}{F:Nat→Prop}{f:α→List Value}{d x:Operand}{t t2 e A:TypeId}{b off o L:Nat}{u:Value}{cs:List Value}{ys:List α}(K:Var e H b cs)(G:Rd F H f 1 u ys)(C:∀x,(f x).length=1)(aa:∀x,∀u∈f x,u.oneCell'=true)(Y:I.op= .call {callee:= .builtin .copy,args:= #[d,x],argTypes:= #[t,t2]})
 (af:P.underlying t=some (.slice A)) (aj:∀w,(sizeOf A).run P w= .ok 1 w) (ak:aH l d=some (.slice (some ⟨b,off,none⟩) o L)) (ag:aH l x=some u) (ah:off+o≤cs.length) (k:Nat) (T:k=min ys.length o):
 Z P w0 n l H I (fun r ab=>r= .int .i64 k∧Var e ab b (dU cs off ((ys.take k).flatMap f))∧W (fun g=>g=b) H ab):=by
 intro a w B i;obtain⟨M,Q,R⟩:=id K.row;have hlen:((ys.take k).flatMap f).length=k:=by rw[length_flatMap C,Nat.mul_one,List.length_take];omega
 have N:∀c∈(ys.take k).flatMap f,c.oneCell'=true:=by
  intro c av;obtain⟨y,_,hy⟩:=List.mem_flatMap.1 av;exact aa y c hy
 obtain⟨ad,cap,rfl,_,_,O⟩:=id G.ex;have U:Nat.min ys.length o=k:=T.symm
 have S:(Builtin.firstCells 1 k (.slice ad ys.length cap)).run P w= .ok ((ys.take k).flatMap f).toArray w:=by
  cases ad with
  |none=>
   have q:ys=[]:=by
    apply Decidable.byContradiction;intro X;obtain⟨ad,aC,_⟩:=O X;cases aC
   subst q
   simp[Builtin.firstCells]
  |some ad=>
   have ae:=G.ll C rfl i
   exact run_firstCells_some (P:=P) w 1 k ad ys.length cap _ (by rw[hlen,Nat.mul_one]) (fun j v E=>ae j v (by
    have q:ys.flatMap f=(ys.take k).flatMap f++(ys.drop k).flatMap f:=by rw[←List.flatMap_append,List.take_append_drop]
    rw[q,List.getElem?_append_left (List.getElem?_eq_some_iff.1 E).1];exact E))
 have J:=mQ P b off e M ((ys.take k).flatMap f) 0 cs.toArray w (by rw[i.heap];exact Q) R (by rw[hlen];simp;omega) N;simp only[Nat.add_zero]at J;refine⟨_,_,w.setRow b (dU cs off ((ys.take k).flatMap f)).toArray,?_,i.row _ _,rfl,⟨q7 i K.row (by simp[dU,hlen];omega)⟩,po i _ _⟩;simp[execOp,Y,B.eval ak,B.eval ag,resolve,invoke,builtin,Builtin.copy_,run_underlying af,Builtin.lenOf,aj,U,S,J,dU,goInt]
end
section
variable {P : Program} {w0 : World} {H : Heap} {n : Nat} {l : bO}
theorem yi{ty:TypeId}{ad:Addr}{cs:List Value}{k:Nat}{w:World}(d:At w0 H w)(h:b8 H ad cs)(n:∀w,(isAgg ty).run P w= .ok true w)(aj:∀w,(sizeOf ty).run P w= .ok k w)(i:cs.length=k):(loadVar ty ad).run P w= .ok (.agg cs.toArray) w:=by
 have:=run_loadCellsFrom (P:=P) (w:=w) h.spot k 0 cs #[] i (fun j c e=>by rw[d.cell];simpa using h.cells j c e);simp[loadVar,n,aj,loadCells,this]
theorem kk{fn:Func}{p:Nat}{ty:TypeId}{ad:Addr}{cs:List Value}{k:Nat}(h:fn.results= #[.cell p ty])(e:cG l p=some (.pointer (some ad)))(q:b8 H ad cs)(r:∀w,(isAgg ty).run P w= .ok true w)(aj:∀w,(sizeOf ty).run P w= .ok k w)(o:cs.length=k):
 ∀a w,Fr n l a→At w0 H w→(results fn a.tmps).run P w= .ok (.agg cs.toArray) w:=by
 intro a w j i;have d:=j.get p _ e;have V:=yi (P:=P) i q r aj o;simp only[results,h];simp[d,asAddr,V]
theorem x7{fn:Func}{p u:Nat}{ty:TypeId}{ad:Addr}{cs:List Value}{k:Nat}{v:Value}(h:fn.results= #[.cell p ty,.tmp u])(e:cG l p=some (.pointer (some ad)))(x:b8 H ad cs)(A:∀w,(isAgg ty).run P w= .ok true w)(aj:∀w,(sizeOf ty).run P w= .ok k w)(r:cs.length=k)(i:cG l u=some v):
 ∀a w,Fr n l a→At w0 H w→(results fn a.tmps).run P w= .ok (.tuple #[.agg cs.toArray,v]) w:=by
 intro a w d q;have j:=d.get p _ e;have o:=d.get u _ i;have V:=yi (P:=P) q x A aj r;simp only[results,h];simp[j,o,asAddr,V]
end
end E

namespace E
def gx(P:Program)(w0:World)(v:Value)(args:List Value)(H:Heap)(i:Value→Heap→Prop):Prop:=
 ∃f caps,v= .func (.func f) #[] caps∧(∀(d:Array Value) (w:World),(callFunc f d).run P w= .ok (.enter f d) w)∧aG P w0 f (args.toArray++caps) H i
section
variable {P : Program} {w0 : World} {Q : Exit → Act → World → Prop} {n : Nat} {l : bO} {H : Heap} {ops : Array Oper} {rest : List Oper} {I : Oper}
theorem gx.of{f:FuncId}{caps:List Value}{args:List Value}{d:Value→Heap→Prop}(j:∀(i:Array Value) (w:World),(callFunc f i).run P w= .ok (.enter f i) w)(h:aG P w0 f (args++caps).toArray H d):gx P w0 (.func (.func f) #[] caps.toArray) args H d:=
 ⟨f,caps.toArray,rfl,j,by simpa using h⟩
theorem o.mr{k:Value→Heap→Prop}{d:Nat}{c:Operand}{cZ:Value}{args:List Operand}{x:Array TypeId}{i:List Value}(J:I.op= .call {callee:= .value c,args:=args.toArray,argTypes:=x})
 (G:aH l c=some cZ) (L:gH l args=some i) (hw:cT ops l I) (ak:I.dst=some d) (aC:Nat.blt d n=true) (av:gx P w0 cZ i H k)
 (h:∀v ab,k v ab→o false P w0 ops Q n ((d,v)::l) rest ab):o false P w0 ops Q n l (I::rest) H:=by
 intro a w j B;simp only[jf];obtain⟨f,caps,rfl,E,F⟩:=av
 have K:(execOp a.eval I).run P w= .ok (.enter f (i.toArray++caps)) w:=by
  have V:=j.jH L;have N:(args.toArray.map a.eval)=i.toArray:=by rw[List.map_toArray,V]
  simp[execOp,J,resolve,Deferred.ofValue,j.eval G,invoke,E,V]
 unfold wpList;rw[if_pos (hw n a j)];refine .inl ?_;unfold Oper.wp;rw[K];show Calls P f (i.toArray++caps) w _;refine(F w B).mono ?_;rintro e M ⟨r,ab,rfl,C,A⟩;have q:=j.put aC r;rw[←ak]at q;exact h r ab A _ M q C
theorem Y.makeFunc{f:FuncId}{caps:List Operand}{d:List Value}(j:I.op= .makeFunc (.func f) #[] caps.toArray)(k:gH l caps=some d):Y P w0 n l H I (.func (.func f) #[] d.toArray):=by
 intro a w i o;have V:=i.jH k;simp[execOp,j,Instr.makeFunc,V]
theorem Y.kP{x y:Operand}{t u:TypeId}{a7:IntKind}{a:Nat}{aF:Int}(j:Nat)(k:I.op= .binOp .shl t x y u)(o:aH l x=some (.int .i64 a))(hy:aH l y=some (.int a7 aF))(d:aF=j)(i:j≤64)(aA:a*2^j≤9223372036854775807):Y P w0 n l H I (.int .i64 ((a*2^j:Nat):Int)):=by
 have h:=Y.shl (P:=P) (w0:=w0) (n:=n) (H:=H) k o hy (by omega);rw[d,Int.toNat_natCast,show min j IntKind.i64.bits=j from Nat.min_eq_left i]at h;rw[show((a:Int)*2^j)=((a*2^j:Nat):Int)by simp,IntWalk.i64_in _ (by omega)]at h;exact h
theorem Y.p9{x:Operand}{s d:TypeId}{b:UInt8}{ds:TypeDesc}(i:I.op= .convert s d x)(aj:∀w,(underlying s).run P w= .ok ds w)(ak:∀w,(underlying d).run P w= .ok (.int .i64) w)(j:aH l x=some (.int .u8 b.toNat)):Y P w0 n l H I (.int .i64 (b.toNat:Nat)):=
 Y.vz i aj ak j (IntWalk.i64_in _ (by have:=b.toNat_lt;omega))
theorem xy{a:Nat}(h:a≤9223372036854775807):(BitVec.ofInt IntKind.i64.bits (a:Int)).toNat=a:=by
 show(BitVec.ofInt 64 (a:Int)).toNat=a;rw[BitVec.toNat_ofInt];omega
theorem Y.s_{x y:Operand}{t u:TypeId}{a b:Nat}(i:I.op= .binOp .or t x y u)(j:aH l x=some (.int .i64 a))(hy:aH l y=some (.int .i64 b))(d:a≤9223372036854775807)(V:b≤9223372036854775807):Y P w0 n l H I (.int .i64 ((a|||b:Nat):Int)):=by
 refine Y.bits .or _ i j hy (by simp) (fun w=>?_);have k:a|||b<2^63:=Nat.or_lt_two_pow (by omega) (by omega)
 have e:(BitVec.ofInt IntKind.i64.bits (a:Int)|||BitVec.ofInt IntKind.i64.bits (b:Int)).toNat=a|||b:=by
  rw[BitVec.toNat_or,xy d,xy V]
 show(pure (Value.int .i64 (IntKind.i64.wrap ((BitVec.ofInt IntKind.i64.bits (a:Int)|||BitVec.ofInt IntKind.i64.bits (b:Int)).toNat:Int))):Sem Value).run P w=_;rw[e,IntWalk.i64_in _ (by omega)];rfl
end
end E

namespace E
open Go.MapKept
abbrev cw:={l:List UInt8//l.length=32}
def bX(x:cw):List Value:=x.1.map (fun b=>Value.int .u8 b.toNat)
def bs(x:cw):Value:= .agg (bX x).toArray
theorem bC:∀x,(bX x).length=32:=fun x=>by simp[bX,x.2]
theorem jk:∀x,∀u∈bX x,u.oneCell'=true:=fun x u hu=>by
 obtain⟨b,_,rfl⟩:=List.mem_map.1 hu;rfl
theorem rk(x:cw):bs x=su x.1:=rfl
def bq:cw:=⟨List.replicate 32 0,by simp⟩
instance:Inhabited cw:=⟨bq⟩
theorem bytes_inj{xs ys:List UInt8}(h:xs.map (fun b=>Value.int .u8 (b.toNat:Int))=ys.map (fun b=>Value.int .u8 (b.toNat:Int))):xs=ys:=by
 refine(List.map_inj_right (fun a b h=>?_)).1 h;simp only[Value.int.injEq,true_and]at h;exact UInt8.toNat_inj.1 (by omega)
theorem Hp{x y:cw}(h:bs x=bs y):x=y:=by
 unfold bs bX at h;simp only[Value.agg.injEq]at h;exact Subtype.ext (bytes_inj (by simpa using congrArg Array.toList h))
theorem o_{α β:Type}{f:α→β}:∀{l:List α},(l.map f).Nodup→∀{x y:α},x∈l→y∈l→f x=f y→x=y
 |[],_,_,_,h,_,_=>by cases h
 |a::l,aC,x,y,j,hy,e=>by
  simp only[List.map_cons,List.nodup_cons]at aC;rcases List.mem_cons.1 j with rfl|d<;>rcases List.mem_cons.1 hy with rfl|i
  ·rfl
  ·exact(aC.1 (List.mem_map.2 ⟨y,i,e.symm⟩)).elim
  ·exact(aC.1 (List.mem_map.2 ⟨x,d,e⟩)).elim
  ·exact o_ aC.2 d i e
structure m2 {κ:Type} [DecidableEq κ] (P:Program) (eW:TypeId) (a1:κ→Value):Prop where
 Hn:∃len e,P.underlying eW=some (.array len e)
 check:∀em k w,(Instr.checkKey em 10000 eW (a1 k)).run P w= .ok () w
 eq:∀a b w,(Op.equal eW (a1 a) (a1 b)).run P w= .ok (decide (a=b)) w
 same:∀k,Instr.sameBits 10000 (a1 k) (a1 k)=true
 inj:∀a b,a1 a=a1 b→a=b
theorem yh{P:Program}{w:World}{α:Type}:∀(l:List α) (body:α→PUnit→Sem (ForInStep PUnit)),(∀a∈l,(body a ()).run P w= .ok (.yield ()) w)→(forIn l () body).run P w= .ok () w
 |[],body,h=>by simp
 |a::l,body,h=>by
  rw[List.forIn_cons,Sem.run_bind,h a (.head _)];simp only[Result.andThen_ok];exact yh l body (fun b aA=>h b (.tail _ aA))
theorem Dz{P:Program}{t e:TypeId}(n:P.underlying t=some (.array 32 e))(he:P.underlying e=some (.int .u8))(aj:∀w,(sizeOf e).run P w= .ok 1 w)(o:∀w,(isAgg e).run P w= .ok false w):m2 P t bs:=by
 refine⟨⟨_,_,n⟩,fun em k w=>?_,fun a b w=>?_,fun k=>?_,fun a b h=>Hp h⟩
 ·show(Instr.checkKey em (9999+1) t (bs k)).run P w=_
  unfold Instr.checkKey bs;simp only[Sem.run_bind,run_underlying n,Result.andThen_ok];rw[Std.Legacy.Range.forIn_eq_forIn_range'];refine(congrArg (fun r=>Result.andThen r _) (yh _ _ (fun i q=>?_))).trans rfl
  have d:i<32:=by
   simp[Std.Legacy.Range.size]at q;omega
  have j:=bC k;have A:(part e (bX k).toArray (i*1)).run P w= .ok ((bX k)[i]'(by rw[j];exact d)) w:=by simp[part,o,j,d]
  have B:∀b:UInt8,(Instr.checkKey em (9998+1) e (Value.int .u8 b.toNat)).run P w= .ok () w:=by
   intro b;unfold Instr.checkKey;simp[run_underlying he]
  have C:(bX k)[i]'(by rw[j];exact d)=Value.int .u8 ((k.1[i]'(by rw[k.2];exact d)).toNat:Int):=by simp[bX]
  simp only[Sem.run_bind,aj,A,C,Result.andThen_ok];rw[B];simp
 ·have h:=gR (P:=P) (Op.maxDepth-2) (xs:=a.1) (ys:=b.1) n he aj o a.2 b.2 w
  rw[show decide (a=b)=decide (a.1=b.1)from decide_eq_decide.2 Subtype.ext_iff];exact h
 ·unfold bs
  show Instr.sameBits (9999+1) _ _=true;unfold Instr.sameBits;simp only[beq_self_eq_true,Bool.true_and,List.all_eq_true];intro p x;obtain⟨i,E,V⟩:=List.mem_iff_getElem.1 x;rw[List.getElem_zip]at V;subst V;simp[bX,Instr.sameBits]
section
variable {P : Program} {w0 : World} {n : Nat} {l : bO} {H : Heap} {I : Oper}
variable {κ β : Type} [DecidableEq κ] {aQ : Nat → Prop} {a1 : κ → Value} {fv : β → Value} {v : Value} {m : List (κ × β)} {eW : TypeId} {b : Nat}
theorem wc{k:κ}{w:World}(r:m2 P eW a1):∀(es:List MapEntry) (m:List (κ×β)) (i:Nat),es.map (fun e=>(e.key,e.val))=m.map (fun p=>(a1 p.1,fv p.2))→
 (aM m k=none∧(Instr.findAsking eW (a1 k) es i).run P w= .ok none w∧∀x∈es,x.key≠a1 k)∨∃j e b,aM m k=some b∧(Instr.findAsking eW (a1 k) es i).run P w= .ok (some (i+j,fv b)) w∧es[j]?=some e∧e.key=a1 k∧e.val=fv b
 |[],m,i,h=>by
  have:m=[]:=by cases m<;>simp_all
  subst this
  exact .inl ⟨rfl,by simp[Instr.findAsking],by simp⟩
 |e::es,m,i,h=>by
  match m,h with
  |(a,c)::m,h=>
   simp only[List.map_cons,List.cons.injEq,Prod.mk.injEq]at h;obtain⟨⟨o,V⟩,H⟩:=h;have d:=r.eq k a w;rw[←o]at d;by_cases n:k=a
   ·subst n
    simp only[decide_true]at d;exact .inr ⟨0,e,c,by simp[aM],by simp[Instr.findAsking,d,V],rfl,o,V⟩
   ·simp only[n,decide_false]at d
    rcases wc (k:=k) (w:=w) r es m (i+1) H with⟨B,C,E⟩|⟨j,G,F,B,C,E,J,K⟩
    ·refine .inl ⟨?_,by simp[Instr.findAsking,d,C],?_⟩
     ·simp only[aM,n,if_false];exact B
     ·intro x A
      cases A with
      |head=>intro q;exact n (r.inj _ _ (by rw[←q,o]))
      |tail _ A=>exact E x A
    ·refine .inr ⟨j+1,G,F,?_,?_,by simpa using E,J,K⟩
     ·simp only[aM,n,if_false];exact B
     ·simp[Instr.findAsking,d,C];omega
theorem yg{k:κ}{w:World}(d:m2 P eW a1)(es:List MapEntry):(Instr.findKey eW (a1 k) es).run P w=(Instr.findAsking eW (a1 k) es 0).run P w:=by
 obtain⟨len,e,hu⟩:=d.Hn
 cases es with
 |nil=>simp[Instr.findKey,run_underlying hu,Instr.findNow,Instr.findAsking]
 |cons x es=>
  have:Instr.findNow (.array len e) (a1 k) (x::es) 0=none:=by
   unfold Instr.findNow Instr.sameNow;rfl
  simp[Instr.findKey,run_underlying hu,this]
theorem Gh{k:κ}{w:World}(d:m2 P eW a1):(Instr.keyThatStays (a1 k) (a1 k)).run P w= .ok (a1 k) w:=by
 simp[Instr.keyThatStays,d.same]
theorem kf{r:Nat}(i:Obj):W (fun c=>c=r) H (H.setIfInBounds r i):=⟨by simp,fun b aA d=>by simp[Ne.symm d]⟩
theorem xg{k:κ}{b:β}{key:Value}(r:∀a b,a1 a=a1 b→a=b)(A:key=a1 k):∀(es:List MapEntry) (m:List (κ×β)) (j:Nat) (e:MapEntry),es.map (fun e=>(e.key,e.val))=m.map (fun p=>(a1 p.1,fv p.2))→(es.map (·.key)).Nodup→es[j]?=some e→e.key=a1 k→
 (es.modify j (fun e=>{e with key:=key,val:=fv b})).map (fun e=>(e.key,e.val))=(m.map (fun p=>if p.1=k then(p.1,b)else p)).map (fun p=>(a1 p.1,fv p.2))
 |[],_,_,_,_,_,h,_=>by simp at h
 |x::es,m,j,e,h,aC,d,he=>by
  match m,h with
  |(a,c)::m,h=>
   simp only[List.map_cons,List.cons.injEq,Prod.mk.injEq]at h;obtain⟨⟨i,V⟩,n⟩:=h;simp only[List.map_cons,List.nodup_cons]at aC
   cases j with
   |zero=>
    simp only[List.getElem?_cons_zero,Option.some.injEq]at d;subst d;have o:a=k:=r _ _ (by rw[←i,he]);subst o;simp only[List.modify_zero_cons,List.map_cons,if_true,A];congr 1;rw[n,List.map_map];apply List.map_congr_left;intro p C
    have:p.1≠a:=by
     intro e;apply aC.1;have:(a1 p.1,fv p.2)∈es.map (fun e=>(e.key,e.val)):=by rw[n];exact List.mem_map.2 ⟨p,C,rfl⟩
     obtain⟨y,hy,B⟩:=List.mem_map.1 this;simp only[Prod.mk.injEq]at B;exact List.mem_map.2 ⟨y,hy,by rw[B.1,e,i]⟩
    simp[this]
   |succ j=>
    simp only[List.getElem?_cons_succ]at d
    have o:a≠k:=by
     intro q;subst q;apply aC.1;rw[i,←he];exact List.mem_map.2 ⟨e,List.mem_of_getElem? d,rfl⟩
    simp only[List.modify_succ_cons,List.map_cons,o,if_false,i,V];rw[xg r A es m j e n aC.2 d he]
theorem S.xX{t U:TypeId}{x i y:Operand}{k:κ}(z:β)(h:c0 H a1 fv b m)(d:m2 P eW a1)(R:I.op= .mapUpdate t x i y)(hm:∀w,(underlying t).run P w= .ok (.map eW U) w)
 (T:aH l x=some (.map (some b))) (O:aH l i=some (a1 k)) (hy:aH l y=some (fv z)):S P w0 n l H I (fun ab=>c0 ab a1 fv b (fD m k z)∧W (fun c=>c=b) H ab):=by
 intro ac w o q;obtain⟨r,es,clock,aa,V,M,C,E⟩:=h.fi.ex;obtain rfl:=V;have A:w.heap[r]?=some (.map es clock):=by rw[q.heap];exact M
 have Y:=(Array.getElem?_eq_some_iff.1 M).1;have N:∀F,(H.setIfInBounds r F)[r]?=some F:=fun F=>by simp[Y]
 rcases wc (k:=k) (w:=w) d es.toList m 0 E with⟨G,J,B⟩|⟨j,L,Z,G,J,B,K,ae⟩
 ·refine⟨H.setIfInBounds r (.map (es.push {key:=a1 k,val:=fv z,born:=clock}) (clock+1)),{w with heap:=H.setIfInBounds r (.map (es.push {key:=a1 k,val:=fv z,born:=clock}) (clock+1))},?_,q.set,⟨⟨r,_,_,rfl,rfl,N _,stamped_push C B,?_⟩⟩,kf _⟩
  ·simp[execOp,R,o.eval T,o.eval O,o.eval hy,Instr.mapUpdate,hm,MapKept.run_getObj_map A,d.check,yg d,J,MapKept.run_setObj_map _ A,q.heap]
  ·simp[fD,G,E]
 ·have Q:es[j]?=some L:=by simpa using B
  have X:∀e,es[j]?=some e→({e with key:=a1 k,val:=fv z}:MapEntry).key=e.key:=fun e he=>by rw[Q]at he;cases he;exact K.symm
  refine⟨H.setIfInBounds r (.map (es.modify j fun e=>{e with key:=a1 k,val:=fv z}) clock),{w with heap:=H.setIfInBounds r (.map (es.modify j fun e=>{e with key:=a1 k,val:=fv z}) clock)},?_,q.set,⟨⟨r,_,_,rfl,rfl,N _,stamped_modify C _ _ (fun _ _=>rfl) (fun e _ he=>X e he),?_⟩⟩,kf _⟩
  ·simp[execOp,R,o.eval T,o.eval O,o.eval hy,Instr.mapUpdate,hm,MapKept.run_getObj_map A,d.check,yg d,J,Q,K,Gh d,MapKept.run_setObj_map _ A,q.heap]
  ·have:=xg (fv:=fv) (b:=z) d.inj rfl es.toList m j L E C.2.2 B K
   rw[Array.toList_modify,this];simp[fD,G]
def eu(m:List (κ×β))(k:κ):List (κ×β):=m.filter (fun p=>decide (p.1≠k))
theorem jm(m:List (κ×β))(k q:κ):aM (eu m k) q=if q=k then none else aM m q:=by
 induction m with
 |nil=>simp[eu,aM]
 |cons p m ih=>
  unfold eu at ih⊢;by_cases i:p.1=k
  ·rw[List.filter_cons_of_neg (by simp[i]),ih]
   by_cases d:q=k
   ·simp[d]
   ·rw[if_neg d,if_neg d];simp only[aM];rw[if_neg (fun e=>d (e.trans i))]
  ·rw[List.filter_cons_of_pos (by simp[i])]
   simp only[aM];by_cases d:q=p.1
   ·rw[if_pos d,if_pos d,if_neg (fun e=>i (d.symm.trans e))]
   ·rw[if_neg d,if_neg d,ih]
theorem o6{m:List (κ×β)}{k:κ}{z:β}(h:aM m k=some z):(k,z)∈m:=by
 induction m with
 |nil=>cases h
 |cons p m ih=>
  simp only[aM]at h;split at h
  ·rename_i e;cases h;rw[e];exact .head _
  ·exact .tail _ (ih h)
theorem w8{m:List (κ×β)}{k:κ}(h:aM m k=none):∀p∈m,p.1≠k:=by
 induction m with
 |nil=>simp
 |cons p m ih=>
  simp only[aM]at h;split at h
  ·cases h
  ·rename_i i
   intro q d e
   cases d with
   |head=>exact i e.symm
   |tail _ d=>exact ih h q d e
theorem lV{m:List (κ×β)}(aC:(m.map (·.1)).Nodup){k:κ}{z:β}(h:(k,z)∈m):aM m k=some z:=by
 induction m with
 |nil=>cases h
 |cons p m ih=>
  simp only[List.map_cons,List.nodup_cons]at aC;simp only[aM]
  cases h with
  |head=>simp
  |tail _ h=>
   rw[if_neg ?_]
   ·exact ih aC.2 h
   ·intro e
    exact aC.1 (List.mem_map.2 ⟨(k,z),h,e⟩)
theorem gQ{m:List (κ×β)}{k:κ}:(aM m k).isSome=true↔k∈m.map (·.1):=by
 constructor
 ·intro h
  obtain⟨z,j⟩:=Option.isSome_iff_exists.1 h;exact List.mem_map.2 ⟨_,o6 j,rfl⟩
 ·intro h
  obtain⟨p,i,e⟩:=List.mem_map.1 h
  cases d:aM m k with
  |some z=>rfl
  |none=>exact absurd e (w8 d p i)
theorem vS{k:κ}(r:∀a b,a1 a=a1 b→a=b):∀(es:List MapEntry) (m:List (κ×β)) (j:Nat) (e:MapEntry),es.map (fun e=>(e.key,e.val))=m.map (fun p=>(a1 p.1,fv p.2))→(es.map (·.key)).Nodup→es[j]?=some e→e.key=a1 k→
 (es.eraseIdx j).map (fun e=>(e.key,e.val))=(eu m k).map (fun p=>(a1 p.1,fv p.2))
 |[],_,_,_,_,_,h,_=>by simp at h
 |x::es,m,j,e,h,aC,d,he=>by
  match m,h with
  |(a,c)::m,h=>
   simp only[List.map_cons,List.cons.injEq,Prod.mk.injEq]at h;obtain⟨⟨i,V⟩,n⟩:=h;simp only[List.map_cons,List.nodup_cons]at aC
   cases j with
   |zero=>
    simp only[List.getElem?_cons_zero,Option.some.injEq]at d;subst d;have o:a=k:=r _ _ (by rw[←i,he]);subst o
    have hm:eu ((a,c)::m) a=m:=by
     unfold eu;rw[List.filter_cons_of_neg (by simp)];apply List.filter_eq_self.2;intro p B;simp only[decide_eq_true_eq];intro e;apply aC.1;have:(a1 p.1,fv p.2)∈es.map (fun e=>(e.key,e.val)):=by rw[n];exact List.mem_map.2 ⟨p,B,rfl⟩
     obtain⟨y,hy,A⟩:=List.mem_map.1 this;simp only[Prod.mk.injEq]at A;exact List.mem_map.2 ⟨y,hy,by rw[A.1,e,i]⟩
    rw[hm]
    simpa using n
   |succ j=>
    simp only[List.getElem?_cons_succ]at d
    have o:a≠k:=by
     intro q;subst q;apply aC.1;rw[i,←he];exact List.mem_map.2 ⟨e,List.mem_of_getElem? d,rfl⟩
    have hm:eu ((a,c)::m) k=(a,c)::eu m k:=by
     unfold eu;rw[List.filter_cons_of_pos (by simp[o])]
    rw[hm];simp only[List.eraseIdx_cons_succ,List.map_cons,i,V];rw[vS r es m j e n aC.2 d he]
theorem c0.le(h:c0 H a1 fv b m):b+1≤H.size:=h.lt
structure hx (H:Heap) (a1:κ→Value) (fv:β→Value) (b:Nat) (m:List (κ×β)) (es:Array MapEntry) (clock:Nat):Prop where
 at_:H[b]?=some (.map es clock)
 st:Stamped es clock
 eq:es.toList.map (fun e=>(e.key,e.val))=m.map (fun p=>(a1 p.1,fv p.2))
theorem c0.raw(h:c0 H a1 fv b m):∃es clock,hx H a1 fv b m es clock:=by
 obtain⟨r,es,clock,k,V,d,i,j⟩:=h.fi.ex;obtain rfl:=V;exact⟨es,clock,d,i,j⟩
section
variable {es : Array MapEntry} {clock : Nat} {ab : Heap}
theorem hx.mp(h:hx H a1 fv b m es clock):c0 H a1 fv b m:=⟨⟨b,es,clock,rfl,rfl,h.at_,h.st,h.eq⟩⟩
theorem hx.lt(h:hx H a1 fv b m es clock):b<H.size:=h.mp.lt
theorem hx.up{S:Nat→Prop}(h:hx H a1 fv b m es clock)(s:W S H ab)(d:¬S b):hx ab a1 fv b m es clock:=⟨by rw[s.same b h.lt d];exact h.at_,h.st,h.eq⟩
theorem hx.N(h:hx H a1 fv b m es clock)(s:aq H ab):hx ab a1 fv b m es clock:=h.up s (fun e=>e)
theorem hx.ae{ks:List Nat}(h:hx H a1 fv b m es clock)(s:W (aB ks) H ab)(d:ag (b+1) ks):hx ab a1 fv b m es clock:=h.up s (fun V=>d (b+1) V b rfl rfl)
theorem hx.fi(h:hx H a1 fv b m es clock):hn (fun x=>x=b) H a1 fv (.map (some b)) m:=h.mp.fi
end
structure hG (H:Heap) (b r:Nat) (a1:κ→Value) (es:Array MapEntry) (clock:Nat) (dn:List κ):Prop where
 ex:∃hk:List MapEntry,H[b]?=some (.mapIter (some r) clock (hk.map (·.born)).toArray clock)∧(∀e∈hk,e∈es.toList)∧hk.map (·.key)=dn.map a1
section
variable {es : Array MapEntry} {clock r : Nat} {ab : Heap} {dn : List κ}
theorem hG.lt(h:hG H b r a1 es clock dn):b<H.size:=by
 obtain⟨hk,d,_⟩:=h.ex;exact(Array.getElem?_eq_some_iff.1 d).1
theorem hG.up{S:Nat→Prop}(h:hG H b r a1 es clock dn)(s:W S H ab)(i:¬S b):hG ab b r a1 es clock dn:=by
 obtain⟨hk,d,V⟩:=h.ex;exact⟨hk,by rw[s.same b h.lt i];exact d,V⟩
theorem hG.N(h:hG H b r a1 es clock dn)(s:aq H ab):hG ab b r a1 es clock dn:=h.up s (fun e=>e)
theorem hG.ae{ks:List Nat}(h:hG H b r a1 es clock dn)(s:W (aB ks) H ab)(d:ag (b+1) ks):hG ab b r a1 es clock dn:=h.up s (fun V=>d (b+1) V b rfl rfl)
theorem Z.tg{t i:TypeId}{x:Operand}(h:hx H a1 fv b m es clock)(o:I.op= .range t x)(hm:∀w,(underlying t).run P w= .ok (.map eW i) w)(q:aH l x=some (.map (some b))):
 Z P w0 n l H I (fun v ab=>v= .pointer (some ⟨H.size,0,none⟩)∧hG ab H.size b a1 es clock ([]:List κ)∧aq H ab∧∃r,ab=H.push r):=by
 intro ac w k d;have j:w.heap[b]?=some (.map es clock):=by rw[d.heap];exact h.at_
 refine⟨.pointer (some ⟨w.heap.size,0,none⟩),H.push (.mapIter (some b) clock #[] clock),w.alloc (.mapIter (some b) clock #[] clock),?_,d.alloc _,by rw[d.heap],⟨[],by simp,by simp,rfl⟩,aq.pu _ _,_,rfl⟩;simp[execOp,o,k.eval q,Instr.range,hm,MapKept.run_getObj_map j]
def mJ(q:Bool)(a c:Value):Value:= .tuple (if q then #[.bool true,a,c]else #[.bool false])
theorem Y.se{x:Operand}{q:Bool}{a c:Value}(i:I.op= .extract x 0)(j:aH l x=some (mJ q a c)):Y P w0 n l H I (.bool q):=by
 intro ac w d k;cases q<;>simp[execOp,i,d.eval j,mJ,Instr.extract]
theorem yt(n:∀a b,a1 a=a1 b→a=b){m:List (κ×β)}{hk:List MapEntry}(aj:Stamped es clock)(j:∀e∈hk,e∈es.toList)(ak:hk.map (·.key)=dn.map a1){e:MapEntry}(he:e∈es.toList){a:κ}(i:e.key=a1 a):e.born∈hk.map (·.born)↔a∈dn:=by
 have q:∀x∈es.toList,∀y∈es.toList,x.born=y.born→x=y:=fun x d y hy aA=>o_ aj.2.1 d hy aA;have r:∀x∈es.toList,∀y∈es.toList,x.key=y.key→x=y:=fun x d y hy aA=>o_ aj.2.2 d hy aA;constructor
 ·intro h
  obtain⟨y,hy,aA⟩:=List.mem_map.1 h;have:=q y (j y hy) e he aA;subst this;have V:y.key∈dn.map a1:=by rw[←ak];exact List.mem_map.2 ⟨y,hy,rfl⟩
  obtain⟨c,av,k⟩:=List.mem_map.1 V;rw[n _ _ (i.symm.trans k.symm)];exact av
 ·intro h
  have V:a1 a∈hk.map (·.key):=by rw[ak];exact List.mem_map.2 ⟨a,h,rfl⟩
  obtain⟨y,hy,o⟩:=List.mem_map.1 V;have:=r y (j y hy) e he (o.trans i.symm);subst this;exact List.mem_map.2 ⟨y,hy,rfl⟩
theorem Z.s0{x:Operand}[Inhabited κ][Inhabited β](h:hG H b r a1 es clock dn)(d:hx H a1 fv r m es clock)(L:∀a b,a1 a=a1 b→a=b)(N:I.op= .next x false)(i:aH l x=some (.pointer (some ⟨b,0,none⟩))):
 Z P w0 n l H I (fun v ab=>∃(q:Bool) (a:κ) (c:β) (o:List κ),v=mJ q (a1 a) (fv c)∧hG ab b r a1 es clock o∧(q=true→(a,c)∈m∧a∉dn∧o=dn++[a])∧(q=false→(∀p∈m,p.1∈dn)∧o=dn)∧W (fun g=>g=b) H ab):=by
 intro ac w K j;obtain⟨hk,O,V,A⟩:=h.ex;have Q:w.heap[b]?=some (.mapIter (some r) clock (hk.map (·.born)).toArray clock):=by rw[j.heap];exact O
 have X:w.heap[r]?=some (.map es clock):=by rw[j.heap];exact d.at_
 have hold:∀x∈es.toList,x.born<clock:=d.st.1;have U:=h.lt
 have af:∀e∈es.toList,∃a c,(a,c)∈m∧e.key=a1 a∧e.val=fv c:=by
  intro e he;have:(e.key,e.val)∈m.map (fun p=>(a1 p.1,fv p.2)):=by rw[←d.eq];exact List.mem_map.2 ⟨e,he,rfl⟩
  obtain⟨p,E,F⟩:=List.mem_map.1 this;simp only[Prod.mk.injEq]at F;exact⟨p.1,p.2,E,F.1.symm,F.2.symm⟩
 rcases run_next_at (P:=P) w I.type b r clock clock _ es clock Q X hold (Nat.le_refl _)with⟨T,G⟩|⟨e,he,ar,aa,G⟩
 ·refine⟨.tuple #[.bool false],H,w,by simp[execOp,N,K.eval i,G],j,false,default,default,dn,rfl,h,by simp,fun _=>⟨fun p E=>?_,rfl⟩,W.refl _ _⟩
  have:(a1 p.1,fv p.2)∈es.toList.map (fun e=>(e.key,e.val)):=by rw[d.eq];exact List.mem_map.2 ⟨p,E,rfl⟩
  obtain⟨e,he,J⟩:=List.mem_map.1 this;simp only[Prod.mk.injEq]at J;have aj:=all_seen es _ T e he;refine(yt (m:=m) L d.st V A he J.1).1 ?_
  simpa using aj
 ·obtain⟨B,M⟩:=mem_left he
  obtain⟨a,c,R,C,Y⟩:=af e B
  have k:At w0 H ar:=by
   rcases aa with rfl|rfl
   ·exact j
   ·exact j.drew
  refine⟨.tuple #[.bool true,e.key,e.val],H.setIfInBounds b (.mapIter (some r) clock ((hk.map (·.born)).toArray.push e.born) clock),_,by simp[execOp,N,K.eval i,G];rfl,?_,true,a,c,dn++[a],by rw[C,Y];rfl,⟨hk++[e],?_,?_,?_⟩,fun _=>⟨R,?_,rfl⟩,by simp,kf _⟩
  ·exact⟨by simp[ChangeMaps.setBlock,k.heap],k.os,k.tape,k.output,k.e_⟩
  ·simp[U]
  ·intro x i
   rcases List.mem_append.1 i with h|h
   ·exact V x h
   ·simp only[List.mem_singleton]at h;subst h;exact B
  ·simp[A,C]
  ·intro S
   have:=(yt (m:=m) L d.st V A B C).2 S;simp at M;simp at this;obtain⟨x,i,ae⟩:=this;exact M x i ae
theorem Y.sd{x:Operand}{a:κ}{c:β}(h:hG H b r a1 es clock (dn++[a]))(i:hx H a1 fv r m es clock)(S:∀a b,a1 a=a1 b→a=b)(F:(a,c)∈m)(O:I.op= .entry x)(d:aH l x=some (.pointer (some ⟨b,0,none⟩))):Y P w0 n l H I (.tuple #[a1 a,fv c]):=by
 intro ac w K q;obtain⟨hk,C,V,o⟩:=h.ex;have E:w.heap[b]?=some (.mapIter (some r) clock (hk.map (·.born)).toArray clock):=by rw[q.heap];exact C
 have M:w.heap[r]?=some (.map es clock):=by rw[q.heap];exact i.at_
 have N:hk≠[]:=by intro e;subst e;simp at o
 obtain⟨e,he⟩:∃e,hk.getLast?=some e:=by
  rw[List.getLast?_eq_some_getLast N];exact⟨_,rfl⟩
 have J:e∈hk:=List.mem_of_getLast? he
 have A:e.key=a1 a:=by
  have:=congrArg List.getLast? o
  simpa[he]using this
 have j:=V e J;have G:(hk.map (·.born)).toArray.back?=some e.born:=by simp[he]
 have L:es.find? (fun x=>x.born==e.born)=some e:=by
  rw[←Array.find?_toList]
  obtain⟨x,d⟩:∃x,es.toList.find? (fun x=>x.born==e.born)=some x:=by
   rw[←Option.isSome_iff_exists,List.find?_isSome];exact⟨e,j,by simp⟩
  have R:=List.mem_of_find?_eq_some d;have B:=List.find?_some d;simp only[beq_iff_eq]at B;rw[d,o_ i.st.2.1 R j B]
 have Q:e.val=fv c:=by
  have:(a1 a,fv c)∈es.toList.map (fun e=>(e.key,e.val)):=by rw[i.eq];exact List.mem_map.2 ⟨_,F,rfl⟩
  obtain⟨y,hy,k⟩:=List.mem_map.1 this;simp only[Prod.mk.injEq]at k;have:=o_ i.st.2.2 hy j (k.1.trans A.symm);rw[←this];exact k.2
 simp[execOp,O,K.eval d,Instr.entry,getObj,Sem.run,E,M,G,L,A,Q]
end
end
section
variable {P : Program} {w0 : World} {n : Nat} {l : bO} {H : Heap} {I : Oper}
end
section
variable {P : Program} {w0 : World} {Q : Exit → Act → World → Prop} {n : Nat} {l : bO} {H : Heap} {ops : Array Oper} {rest : List Oper} {I : Oper}
end
section
variable {P : Program} {w0 : World} {Q : Exit → Act → World → Prop} {n k i : Nat} {dn : List Nat} {l : bO} {H : Heap} {ops : Array Oper} {I : Oper} {bK : Heap → Prop} {X : List Nat}
theorem dM.mr{x:Value→Heap→Prop}{d:Nat}{c:Operand}{cZ:Value}{args:List Operand}{C:Array TypeId}{j:List Value}(L:ops[i]?=some I)(M:I.op= .call {callee:= .value c,args:=args.toArray,argTypes:=C})
 (K:aH l c=some cZ) (O:gH l args=some j) (hw:cT ops l I) (ak:I.dst=some d) (aC:Nat.blt d n=true) (av:gx P w0 cZ j H x)
 (h:∀v ab,x v ab→(X.contains i=true∨bK ab)∧T P w0 ops Q bK X n k (i::dn) ((d,v)::l) ab):dM P w0 ops Q bK X n k i dn l H:=by
 intro a w o F;obtain⟨f,caps,rfl,G,J⟩:=av
 have N:(execOp a.eval I).run P w= .ok (.enter f (j.toArray++caps)) w:=by
  have V:=o.jH O;have S:(args.toArray.map a.eval)=j.toArray:=by rw[List.map_toArray,V]
  simp[execOp,M,resolve,Deferred.ofValue,o.eval K,invoke,G,V]
 unfold wpOp;simp only[L];rw[if_pos (hw n a o)];refine .inl ?_;unfold Oper.wp;rw[N];show Calls P f (j.toArray++caps) w _;refine(J w F).mono ?_;rintro e R ⟨r,ab,rfl,A,E⟩;obtain⟨q,V⟩:=h r ab E;have B:=o.put aC r;rw[←ak]at B;exact⟨q.imp id (fun q=>⟨ab,A,q⟩),V _ R B A⟩
end
end E

namespace E
section
variable {P : Program} {w0 : World} {n : Nat} {l : bO} {H : Heap} {I : Oper}
theorem ye{F:Nat→Prop}{v:Value}{xs:List UInt8}(h:Rd F H a6 1 v xs){w:World}(o:At w0 H w):(Extern.Bytes.bytesOf v).run P w= .ok ⟨xs.toArray⟩ w:=by
 obtain⟨ad,cap,rfl,_,_,n⟩:=id h.ex
 cases ad with
 |none=>
  have A:xs=[]:=by
   apply Decidable.byContradiction;intro q;obtain⟨ad,aC,_⟩:=n q;cases aC
  subst A
  rfl
 |some ad=>
  have r:=h.ll et rfl o
  have i:=Lib.run_loadBytesX (P:=P) w (xs.map (fun b=>(b.toNat:Int))) ad .empty (fun j x d=>by
   apply r;rw[oP];rw[List.getElem?_map]at d⊢
   cases k:xs[j]? with
   |none=>simp[k]at d
   |some y=>simp[k]at d⊢;exact d)
  rw[AA,List.length_map]at i
  have he:(⟨ByteArray.empty.data++xs.toArray⟩:ByteArray)=⟨xs.toArray⟩:=by
   apply ByteArray.ext;show(#[]:Array UInt8)++xs.toArray=xs.toArray;simp
  rw[he]at i;exact i
theorem Y.compare{F aQ:Nat→Prop}{f:FuncId}{fn:Func}{args:List Operand}{i:Array TypeId}{u v:Value}{xs ys:List UInt8}(h:Rd F H a6 1 u xs)(V:Rd aQ H a6 1 v ys)(q:I.op= .call {callee:= .value (.func f),args:=args.toArray,argTypes:=i})(k:P.funcs[f]?=some fn)
 (o:(fn.name== "runtime.NumGoroutine")=false) (aA:fn.body.isNone=true) (aC:Extern.findNext fn=none) (he:Extern.find fn=some Extern.BytealgCompare.compare) (r:gH l args=some [u,v]):Y P w0 n l H I (.int .i64 (Lib.compareBytes xs ys)):=by
 refine Y.ext q k o aA aC he r (fun w d=>?_);have aN:=ye (P:=P) h d;have j:=ye (P:=P) V d;change Sem.run P (do pure (goInt (Extern.BytealgCompare.cmp (←Extern.Bytes.bytesOf u) (←Extern.Bytes.bytesOf v)))) w=_;simp only[Sem.run_bind,aN,j,Sem.run_pure,Result.andThen];rw[Lib.cmp_eq];rfl
end
end E

namespace E
section
variable {h k gg : Nat} {ks : List Nat} {aQ F : Nat → Prop} {J H ab : Heap}
theorem U.z{a:Nat}(x:U 0 h k):U a h k:=by unfold U at*;omega
end
section
variable {κ β : Type} [DecidableEq κ] {a1 : κ → Value} {fv : β → Value} {b m r : Nat} {l : List (κ × β)} {es : Array MapEntry} {clock : Nat} {dn : List κ} {H ab : Heap}
end
section
variable {κ α : Type} {aQ : Nat → Prop} {e : TypeId} {H ab : Heap} {f : α → List Value} {sz : Nat} {val : κ → Value} {dR : κ → List α} {ks : List Nat}
end
end E

namespace E
abbrev l_(ro:Option Nat):Fence:={Fence.wide with round:=ro}
structure hd (H:Heap) (b:Nat) (r:Loop):Prop where
 at_:H[b]?=some (.loop r)
structure iM (H:Heap) (b:Nat):Prop where
 at_:H[b]?=some (.deferred (some []))
section
variable {H ab : Heap} {b : Nat} {r : Loop} {ks : List Nat}
theorem hd.lt(h:hd H b r):b<H.size:=(Array.getElem?_eq_some_iff.1 h.at_).1
theorem hd.up{S:Nat→Prop}(h:hd H b r)(s:W S H ab)(d:¬S b):hd ab b r:=⟨by rw[s.same b h.lt d];exact h.at_⟩
theorem hd.N(h:hd H b r)(s:aq H ab):hd ab b r:=h.up s (fun e=>e)
theorem hd.ae(h:hd H b r)(s:W (aB ks) H ab)(d:ag (b+1) ks):hd ab b r:=h.up s (fun V=>d (b+1) V b rfl rfl)
theorem iM.lt(h:iM H b):b<H.size:=(Array.getElem?_eq_some_iff.1 h.at_).1
theorem iM.up{S:Nat→Prop}(h:iM H b)(s:W S H ab)(d:¬S b):iM ab b:=⟨by rw[s.same b h.lt d];exact h.at_⟩
theorem iM.N(h:iM H b)(s:aq H ab):iM ab b:=h.up s (fun e=>e)
theorem iM.ae(h:iM H b)(s:W (aB ks) H ab)(d:ag (b+1) ks):iM ab b:=h.up s (fun V=>d (b+1) V b rfl rfl)
end
theorem Var.le{e:TypeId}{H:Heap}{b:Nat}{cs:List Value}(h:Var e H b cs):b+1≤H.size:=h.lt
def eT(ro:Option Nat)(P:Program)(w0:World)(ops:Array Oper)(Q:Exit→Act→World→Prop)(n:Nat)(l:bO)(rest:List Oper)(H:Heap):Prop:=
 ∀a w,Fr n l a→At w0 H w→wpListIn (l_ ro) 0 P ops Q rest a w
def om(P:Program)(w0:World)(bc:Nat)(args:List Value)(H:Heap)(d:Value→Heap→Prop):Prop:=
 ∀w,At w0 H w→YieldAt (l_ none) 0 P bc args.toArray w (fun e i=>∃r ab,e= .returned r∧At w0 ab i∧d r ab)
section
variable {ro : Option Nat} {P : Program} {w0 : World} {Q : Exit → Act → World → Prop} {n : Nat} {l : bO} {H : Heap} {ops : Array Oper} {rest : List Oper} {I : Oper}
theorem eT.nil(h:aR w0 Q n l H):eT ro P w0 ops Q n l [] H:=fun a w i d=>h a w i d
theorem eT.v{v:Value}{d:Nat}(hy:Y P w0 n l H I v)(o:∀c,I.op≠ .defer c)(hw:cT ops l I)(ak:I.dst=some d)(aC:Nat.blt d n=true)(h:eT ro P w0 ops Q n ((d,v)::l) rest H):eT ro P w0 ops Q n l (I::rest) H:=by
 intro a w i j;have k:=i.put aC v;rw[←ak]at k;unfold wpListIn;rw[if_pos (hw n a i)];refine⟨fun _ _=>trivial,?_⟩;rw[Oper.semAt_eq _ _ _ o,hy a w i j];exact h _ w k j
theorem eT.z{R:Value→Heap→Prop}{d:Nat}(A:Z P w0 n l H I R)(r:∀c,I.op≠ .defer c)(hw:cT ops l I)(ak:I.dst=some d)(aC:Nat.blt d n=true)(h:∀v ab,R v ab→eT ro P w0 ops Q n ((d,v)::l) rest ab):eT ro P w0 ops Q n l (I::rest) H:=by
 intro a w i o;obtain⟨v,ab,B,x,q,k⟩:=A a w i o;have j:=i.put aC v;rw[←ak]at j;unfold wpListIn;rw[if_pos (hw n a i)];refine⟨fun _ _=>trivial,?_⟩;rw[Oper.semAt_eq _ _ _ r,x];exact h v ab k _ B j q
theorem eT.s{i:Heap→Prop}(A:S P w0 n l H I i)(r:∀c,I.op≠ .defer c)(hw:cT ops l I)(ak:I.dst=none)(h:∀ab,i ab→eT ro P w0 ops Q n l rest ab):eT ro P w0 ops Q n l (I::rest) H:=by
 intro a w d o;obtain⟨ab,j,x,q,k⟩:=A a w d o;unfold wpListIn;rw[if_pos (hw n a d)];refine⟨fun _ _=>trivial,?_⟩;rw[Oper.semAt_eq _ _ _ r,x];show wpListIn (l_ ro) 0 P ops Q rest (a.put I.dst undef) j;rw[ak];exact h ab k a j d q
theorem eT.round{k:Value→Heap→Prop}{d bc:Nat}{c:Operand}{args:List Operand}{A:Array TypeId}{j:List Value}(o:I.op= .call {callee:= .value c,args:=args.toArray,argTypes:=A})
 (F:aH l c=some (.func (.yield bc) #[] #[])) (J:gH l args=some j) (hw:cT ops l I) (ak:I.dst=some d) (aC:Nat.blt d n=true) (av:om P w0 bc j H k)
 (h:∀v ab,k v ab→eT none P w0 ops Q n ((d,v)::l) rest ab):eT none P w0 ops Q n l (I::rest) H:=by
 intro a w i C;obtain⟨fn,tmps,assign,body,hy,G⟩:=av w C
 have he:(execOp a.eval I).run P w= .ok (.round bc fn tmps assign body) w:=by
  have V:=i.jH J;have L:(args.toArray.map a.eval)=j.toArray:=by rw[List.map_toArray,V]
  simp[execOp,o,resolve,Deferred.ofValue,i.eval F,invoke,V,hy]
 unfold wpListIn;rw[if_pos (hw n a i)];refine⟨fun _ _=>trivial,?_⟩;rw[Oper.semAt_eq _ _ _ (by intro c e;rw[o]at e;cases e),he,Oper.uponIn_round];refine⟨fun q=>(by cases q),?_⟩;refine G.mono ?_;rintro e K ⟨r,ab,rfl,E,B⟩;have x:=i.put aC r;rw[←ak]at x;exact h r ab B _ K x E
theorem G.FL{id:Nat}{d:List Oper}(h:eT none P w0 d.toArray Q n l d H):G P w0 Q n l (.region id d.toArray false) H:=
 fun a w j i=>wpIn_wide.1 (wpIn_region_lit (h a w j i))
theorem eT.mono{i:Exit→Act→World→Prop}(o:∀e a w,Q e a w→i e a w){id:Nat}{d:List Oper}(h:eT ro P w0 d.toArray Q n l d H){a:Act}{w:World}(k:Fr n l a)(j:At w0 H w):(Code.region id d.toArray false).wpIn (l_ ro) 0 P i a w:=
 Code.wpIn_mono o (wpIn_region_lit (h a w k j))
theorem om.of{r:Loop}{x:Value}{p bc Z aa ab:Nat}{A aZ:List Oper}{C:Value→Heap→Prop}(R:hd H bc r)(o:r.state= .ready)(G:r.pending=none)(J:r.params= #[p])(K:r.assign= .region Z A.toArray false)(L:r.body= .block aa (.region ab aZ.toArray false))
 (O:Fr n l {tmps:=r.tmps.setIfInBounds p x,defers:=[]})
 (h:eT (some bc) P w0 A.toArray (fun e cg ar=>e= .normal∧∃q d,Fr n q cg∧At w0 d ar∧hd d bc r∧
  eT (some bc) P w0 aZ.toArray (fun e a3 B=>e= .normal∧∃i,At w0 i B∧hd i bc {r with state:= .busy}∧C (.bool true) (i.setIfInBounds bc (.loop r))) n q aZ (d.setIfInBounds bc (.loop {r with state:= .busy}))) n l A H):
 om P w0 bc [x] H C:=by
 intro w E;have U:w.heap[bc]?=some (.loop r):=by rw[E.heap];exact R.at_
 refine⟨r.fn,r.tmps.setIfInBounds p x,r.assign,r.body,?_,?_⟩
 ·have:=run_yield (P:=P) (args:= #[x]) U (by rw[J];rfl)
  rw[J]at this
  simpa using this
 ·refine roundIn_of_wpIn (F:=l_ none) trivial ?_
  rw[K,L];refine eT.mono (ro:=some bc) ?_ h O E;rintro e cg ar ⟨rfl,q,d,Q,j,S,aA⟩;have W:ar.heap[bc]?=some (.loop r):=by rw[j.heap];exact S.at_
  refine⟨_,run_beginRound (P:=P) W o,?_⟩
  have N:At w0 (d.setIfInBounds bc (.loop {r with state:= .busy})) (ar.putObj bc (.loop {r with state:= .busy})):=by
   unfold World.putObj;rw[j.heap];exact j.set
  refine wpIn_block ?_;refine eT.mono (ro:=some bc) ?_ aA Q N;rintro e a3 B ⟨rfl,i,k,T,M⟩;have X:B.heap[bc]?=some (.loop {r with state:= .busy}):=by rw[k.heap];exact T.at_
  refine⟨_,_,run_endRound (P:=P) none X,.bool true,i.setIfInBounds bc (.loop r),rfl,?_,M⟩
  have Y:({({r with state:= .busy}:Loop)with state:=if(none:Option Code).isNone then .ready else .done,pending:=none}:Loop)=r:=by
   cases r;simp only at o G;subst o G;rfl
  rw[Y];unfold World.putObj;rw[k.heap];exact k.set
end
end E

namespace eY
open E Go.RowKit
theorem aG.still{P:Program}{w0:World}{f:FuncId}{args:Array Value}{H:Heap}{v:Value}(h:∀w,At w0 H w→Calls P f args w fun e i=>e= .returned v∧i=w):aG P w0 f args H (fun r j=>r=v∧aq H j):=
 fun w d=>(h w d).mono (fun e i ⟨he,hw⟩=>⟨v,H,he,by rw[hw];exact d,rfl,aq.refl _⟩)
abbrev dP(m:Int)(H:Heap):Prop:=kp (fun b=>b=0) H ⟨0,0,none⟩ [.int .i64 m]
theorem dP.cell{m:Int}{H:Heap}{w0 w:World}(h:dP m H)(d:At w0 H w):w.cell? ⟨0,0,none⟩=some (.int .i64 m):=by
 have:=h.O.cells 0 (.int .i64 m) rfl;rw[d.cell];exact this
theorem r2(s sub:List UInt8)(bb:Int)(w0:World)(J:Heap)(aI:dP bb J)(aj:s.length<4294967281):aG Tryz.prog w0 166 #[aK s,aK sub] J (fun r d=>r= .bool (Lib.contains s sub)∧aq J d):=
 aG.still (fun w i=>by
  have h:Calls Tryz.prog 166 #[aK s,aK sub] w fun e j=>e= .returned (.bool (Lib.contains s sub))∧j=w:=Any.strings_Contains Tryz.lays144 ⟨s.toArray⟩ ⟨sub.toArray⟩ bb w (by simpa[ByteArray.size]using aj) (aI.cell i);exact h)
def sp(cur:List UInt8):List UInt8→List (List UInt8)
 |[]=>[cur]
 |c::l=>if c=47 then cur::sp [] l else sp (cur++[c]) l
theorem tA:∀(s cur:List UInt8),∃p eP,Lib.splitK [47] 0 (s.count 47) s=p::eP∧sp cur s=(cur++p)::eP
 |[],cur=>⟨[],[],rfl,by simp[sp]⟩
 |c::l,cur=>by
  by_cases h:c=47
  ·subst h
   obtain⟨p,eP,d,V⟩:=tA l [];refine⟨[],p::eP,?_,by rw[sp,if_pos rfl,V];simp⟩;have q:Lib.index (47::l) [47]=0:=by simp[Lib.index]
   rw[List.count_cons_self,Lib.splitK,q]
   simpa using d
  ·obtain⟨p,eP,d,V⟩:=tA l (cur++[c])
   refine⟨c::p,eP,?_,by rw[sp,if_neg h,V];simp⟩;have av:(c::l).count 47=l.count 47:=by rw[List.count_cons];simp[h]
   rw[av];have B:((47:UInt8)==c)=false:=by simpa using fun e:(47:UInt8)=c=>h e.symm
   have A:([47]:List UInt8).isPrefixOf (c::l)=false:=by rw[List.isPrefixOf,B];rfl
   cases o:l.count 47 with
   |zero=>rw[o,Lib.splitK]at d;obtain⟨rfl,rfl⟩:=List.cons.inj d;rfl
   |succ k=>
    rw[o,Lib.splitK]at d;rw[Lib.splitK,Lib.index,A];by_cases hm:Lib.index l [47]= -1
    ·simp[hm]at d⊢;exact d
    ·obtain⟨j,i⟩:∃j:Nat,Lib.index l [47]=j:=by
      have:=Lib.index_ge l [47];exact⟨(Lib.index l [47]).toNat,by omega⟩
     have n:¬((j:Int)= -1):=by omega
     have r:¬((j:Int)+1= -1):=by omega
     have x:((j:Int)+1).toNat=j+1:=by omega
     simp[i,n]at d;simp[i,n,r,x,d]
theorem GI(s:List UInt8):Lib.splitK [47] 0 (s.count 47) s=sp [] s:=by
 obtain⟨p,eP,d,V⟩:=tA s [];rw[d,V];simp
theorem vX:∀l:List ByteArray,l.map Value.string=(l.map (·.data.toList)).flatMap fy
 |[]=>rfl
 |x::l=>by
  have e:Value.string x=aK x.data.toList:=by cases x;simp[aK]
  simp[vX l,e]
set_option maxRecDepth 100000 in
theorem Dq:(Tryz.prog.info? 9).map (fun i=>(i.zero,i.size,i.bytes))=some (some (.string ByteArray.empty),1,16):=by kernel_rfl
theorem GH(s:List UInt8)(bb:Int)(w0:World)(J:Heap)(aI:dP bb J)(aj:s.length<4294967281):aG Tryz.prog w0 127 #[aK s,aK [47]] J (fun r j=>∃o:Value,∃n:Nat,r=o∧(aU n 9 j fy 1 o (sp [] s))∧(U 0 J.size n)∧aq J j):=by
 intro w i;have h:Calls Tryz.prog 127 #[aK s,aK [47]] w fun e q=>e= .returned (.slice (some ⟨w.heap.size,0,none⟩) (Lib.countB ⟨s.toArray⟩ ⟨#[47]⟩+1) (Lib.countB ⟨s.toArray⟩ ⟨#[47]⟩+1))∧q=w.alloc (.cells ((Lib.splitB ⟨#[47]⟩ 0 (Lib.countB ⟨s.toArray⟩ ⟨#[47]⟩) ⟨s.toArray⟩).map Value.string).toArray 9):=Any.strings_Split Tryz.lays146 Dq ⟨s.toArray⟩ ⟨#[47]⟩ bb w (by simpa[ByteArray.size]using aj) (aI.cell i) (by decide);refine h.mono ?_;rintro e q ⟨rfl,rfl⟩;have k:Lib.countB ⟨s.toArray⟩ ⟨#[47]⟩=s.count 47:=by show Lib.count s [47]=_;exact Lib.count_one 47 s
 have d:(Lib.splitB ⟨#[47]⟩ 0 (Lib.countB ⟨s.toArray⟩ ⟨#[47]⟩) ⟨s.toArray⟩).map (·.data.toList)=sp [] s:=by
  rw[Lib.splitB_data,k];exact GI s
 have hlen:(sp [] s).length=Lib.countB ⟨s.toArray⟩ ⟨#[47]⟩+1:=by
  rw[←d,List.length_map];exact Lib.splitB_all ⟨#[47]⟩ (by decide) 0 _ ⟨s.toArray⟩ rfl
 have bz:=i.heap;have hle:s.count 47≤s.length:=List.count_le_length;refine⟨_,_,rfl,i.alloc _,_,J.size+1,rfl,?_,by unfold U;omega,aq.pu _ _⟩;refine⟨⟨mx,ns,.inr ⟨w.heap.size,Lib.countB ⟨s.toArray⟩ ⟨#[47]⟩+1,((Lib.splitB ⟨#[47]⟩ 0 (Lib.countB ⟨s.toArray⟩ ⟨#[47]⟩) ⟨s.toArray⟩).map Value.string).toArray,by rw[hlen],by rw[bz],.of (by rw[bz];simp),by rw[hlen];exact Nat.le_refl _,by rw[k];unfold maxLen;omega,?_,?_⟩⟩,by simp⟩
 ·rw[List.size_toArray,List.length_map,Nat.mul_one];have:=congrArg List.length d;rw[List.length_map]at this;omega
 ·have:(sp [] s).length*1=((Lib.splitB ⟨#[47]⟩ 0 (Lib.countB ⟨s.toArray⟩ ⟨#[47]⟩) ⟨s.toArray⟩).map Value.string).length:=by
   rw[List.length_map,Nat.mul_one,←d,List.length_map]
  show(List.map Value.string _).take _=_;rw[this,List.take_length,vX,d]
end eY

namespace fm
open E Go.RowKit eY
theorem jl(s:List UInt8)(c:UInt8)(w0:World)(J:Heap):aG Tryz.prog w0 167 #[aK s,.int .u8 c.toNat] J (fun r d=>r= .int .i64 (Lib.indexByte s c)∧aq J d):=
 aG.still (fun w j=>by
  have h:Calls Tryz.prog 167 #[aK s,.int .u8 c.toNat] w fun e i=>e= .returned (.int .i64 (Lib.indexByte s ((c.toNat:Int)).toNat.toUInt8))∧i=w:=Any.strings_IndexByte Tryz.lays137 ⟨s.toArray⟩ c.toNat w;have e:((c.toNat:Int)).toNat.toUInt8=c:=by simp
  rw[e]at h;exact h)
theorem wD(s p:List UInt8)(w0:World)(J:Heap):aG Tryz.prog w0 195 #[aK s,aK p] J (fun r d=>r= .bool (p.isPrefixOf s)∧aq J d):=
 aG.still (fun w j=>by
  have h:Calls Tryz.prog 195 #[aK s,aK p] w fun e i=>e= .returned (.bool (Lib.hasPrefix s p))∧i=w:=Any.strings_HasPrefix Tryz.lays99 ⟨s.toArray⟩ ⟨p.toArray⟩ w;exact h)
theorem ou{α:Type}{l:List α}{p:α→Bool}{j:Nat}(h:(l.take j).any p=false)(d:j<l.length)(V:p l[j]=false):(l.take (j+1)).any p=false:=by
 rw[List.take_succ_eq_append_getElem d,List.any_append,h];simpa using V
theorem mj{α:Type}{l:List α}{p:α→Bool}{j:Nat}(d:j<l.length)(h:p l[j]=true):l.any p=true:=List.any_eq_true.2 ⟨l[j],List.getElem_mem d,h⟩
def cp(c:UInt8):Bool:=decide ((97≤c.toNat∧c.toNat≤122)∨(65≤c.toNat∧c.toNat≤90)∨(48≤c.toNat∧c.toNat≤57)∨c.toNat=46∨c.toNat=95∨c.toNat=45∨c.toNat=47)
theorem c2{c:UInt8}(h:(97≤c.toNat∧c.toNat≤122)∨(65≤c.toNat∧c.toNat≤90)∨(48≤c.toNat∧c.toNat≤57)∨c.toNat=46∨c.toNat=95∨c.toNat=45∨c.toNat=47):Value.bool true= .bool (cp c):=by rw[cp,decide_eq_true h]
theorem ek{c:UInt8}(h:¬((97≤c.toNat∧c.toNat≤122)∨(65≤c.toNat∧c.toNat≤90)∨(48≤c.toNat∧c.toNat≤57)∨c.toNat=46∨c.toNat=95∨c.toNat=45∨c.toNat=47)):Value.bool false= .bool (cp c):=by rw[cp,decide_eq_false h]
theorem lS(c:UInt8):0≤Lib.indexByte [46,95,45,47] c↔(c.toNat=46∨c.toNat=95∨c.toNat=45∨c.toNat=47):=by
 have h:∀n:Fin 256,(decide (0≤Lib.indexByte [46,95,45,47] (UInt8.ofNat n.val))=decide (n.val=46∨n.val=95∨n.val=45∨n.val=47)):=by decide+kernel
 have:=h ⟨c.toNat,c.toNat_lt⟩;simp only[UInt8.ofNat_toNat]at this;exact decide_eq_decide.1 this
def ki(s:List UInt8):Bool:=decide (s≠[]∧(s.getD 0 0).toNat≠46∧(s.getD 0 0).toNat≠45∧(s.getD (s.length-1) 0).toNat≠46)&& !Lib.contains s [46,46]
theorem ic{l:List UInt8}{i:Nat}(h:i<l.length):l.getD i 0=l[i]:=by simp[List.getD,h]
theorem Fk{s:List UInt8}(h:s≠[]∧(s.getD 0 0).toNat≠46∧(s.getD 0 0).toNat≠45∧(s.getD (s.length-1) 0).toNat≠46):Value.bool (!Lib.contains s [46,46])= .bool (ki s):=by rw[ki,decide_eq_true h,Bool.true_and]
theorem qW{s:List UInt8}(h:¬(s≠[]∧(s.getD 0 0).toNat≠46∧(s.getD 0 0).toNat≠45∧(s.getD (s.length-1) 0).toNat≠46)):Value.bool false= .bool (ki s):=by rw[ki,decide_eq_false h,Bool.false_and]
def cU(s:List UInt8):Int:=if s.length>60∨(s.any (fun c=> !cp c))=true then 7 else if(sp [] s).any (fun p=> !ki p)=true then 7 else 0
theorem tx:∀{s cur x:List UInt8},x∈sp cur s→x.length≤cur.length+s.length
 |[],cur,x,h=>by simp[sp]at h;subst h;simp
 |c::l,cur,x,h=>by
  rw[sp]at h;split at h
  ·rcases List.mem_cons.1 h with h|h
   ·subst h;omega
   ·have:=tx h;simp only[List.length_nil,List.length_cons]at*;omega
  ·have:=tx h;simp only[List.length_append,List.length_cons,List.length_nil]at*;omega
theorem Gu(c:UInt8)(w0:World)(J:Heap)
 :
 aG Tryz.prog w0 125 #[.int .u8 c.toNat] J (fun r af=>r= .bool (cp c)∧aq J af):=by
 refine aG.aN [.int .u8 c.toNat] Tryz.func125 ?_;intro aQ q;have i:aq J J:=W.refl _ _;refine G.L (fun ag=>?_);refine o.al ?_;refine ag (G.t2 (fun x F=>G.aD (fun _ A H=>G.t2 (fun aw B=>G.aD (fun O N C=>G.aD (fun ah a5 ad=>G.aD (fun _ a9 ac=>G.t2 (fun E am=>G.t2 (fun R aP=>G.L (fun X=>?_))))))))));refine o.aa ?_;refine o.v1 dq ?_;refine o.aa ?_;refine o.bp (d:=6) rfl (fun g6=>?_) (fun g6=>?_)
 ·
  refine o.bJ ?_;refine o.ar eF ?_;refine o.aP 2 ?_;refine X ?_;refine aW (fun du=>?_) (fun du=>?_)
  ·
   refine G.exit (aP (am (a9 ?_)));refine ah (O (aw (G.t2 (fun _ ai=>G.L (fun al=>?_)))));refine o.al ?_;refine al ?_;refine G.ret (ai (H (F (q ?_))));exact⟨by first|exact c2 (by omega)|(rw[cp];exact cQ (by rw[k];omega)),i⟩
  ·
   refine G.skip (R (G.t2 (fun Y an=>G.L (fun Z=>?_))));refine o.aa ?_;refine o.v1 dq ?_;refine o.aa ?_;refine o.bp (d:=13) rfl (fun P=>?_) (fun P=>?_)
   ·
    refine o.bJ ?_;refine o.ar eF ?_;refine o.aP 2 ?_;refine Z ?_;refine aW (fun Q=>?_) (fun Q=>?_)
    ·
     refine G.exit (an (am (ac (a5 ?_))));refine O (aw (G.t2 (fun _ ar=>G.L (fun au=>?_))));refine o.al ?_;refine au ?_;refine G.ret (ar (H (F (q ?_))));exact⟨by first|exact c2 (by omega)|(rw[cp];exact cQ (by rw[k];omega)),i⟩
    ·
     refine G.skip (Y (G.L (fun aa=>?_)));refine o.aa ?_;refine o.v1 dq ?_;refine o.aa ?_;refine o.bp (d:=20) rfl (fun K=>?_) (fun K=>?_)
     ·
      refine o.bJ ?_;refine o.ar eF ?_;refine o.aP 2 ?_;refine aa ?_;refine aW (fun ap=>?_) (fun ap=>?_)
      ·
       refine G.exit (am (ac (ad (N ?_))));refine aw (G.t2 (fun _ ay=>G.L (fun az=>?_)));refine o.al ?_;refine az ?_;refine G.ret (ay (H (F (q ?_))));exact⟨by first|exact c2 (by omega)|(rw[cp];exact cQ (by rw[k];omega)),i⟩
      ·
       refine G.skip (E ?_);refine G.exit (ac (ad (C (B (A ?_)))));refine x (G.L (fun aB=>?_));refine o.aa ?_;refine aV jE (jl [46,95,45,47] c w0 _) (fun L M n=>?_);obtain⟨rfl,j⟩:=n;have i:=i.L j;have aR:=j.size;have k:=lS c;refine o.v1 dq ?_;refine o.al ?_;refine aB ?_;refine G.ret (q ?_);exact⟨by first|exact c2 (by omega)|(rw[cp];exact cQ (by rw[k];omega)),i⟩
     ·
      refine o.aP 4 ?_;refine aa ?_;refine dK ?_;refine G.skip (E ?_);refine G.exit (ac (ad (C (B (A ?_)))));refine x (G.L (fun aC=>?_));refine o.aa ?_;refine aV jE (jl [46,95,45,47] c w0 _) (fun L M n=>?_);obtain⟨rfl,j⟩:=n;have i:=i.L j;have aS:=j.size;have k:=lS c;refine o.v1 dq ?_;refine o.al ?_;refine aC ?_;refine G.ret (q ?_);exact⟨by first|exact c2 (by omega)|(rw[cp];exact cQ (by rw[k];omega)),i⟩
   ·
    refine o.aP 4 ?_;refine Z ?_;refine dK ?_;refine G.skip (Y (G.L (fun ab=>?_)));refine o.aa ?_;refine o.v1 dq ?_;refine o.aa ?_;refine o.bp (d:=20) rfl (fun K=>?_) (fun K=>?_)
    ·
     refine o.bJ ?_;refine o.ar eF ?_;refine o.aP 2 ?_;refine ab ?_;refine aW (fun ap=>?_) (fun ap=>?_)
     ·
      refine G.exit (am (ac (ad (N ?_))));refine aw (G.t2 (fun _ aD=>G.L (fun aF=>?_)));refine o.al ?_;refine aF ?_;refine G.ret (aD (H (F (q ?_))));exact⟨by first|exact c2 (by omega)|(rw[cp];exact cQ (by rw[k];omega)),i⟩
     ·
      refine G.skip (E ?_);refine G.exit (ac (ad (C (B (A ?_)))));refine x (G.L (fun aH=>?_));refine o.aa ?_;refine aV jE (jl [46,95,45,47] c w0 _) (fun L M n=>?_);obtain⟨rfl,j⟩:=n;have i:=i.L j;have aT:=j.size;have k:=lS c;refine o.v1 dq ?_;refine o.al ?_;refine aH ?_;refine G.ret (q ?_);exact⟨by first|exact c2 (by omega)|(rw[cp];exact cQ (by rw[k];omega)),i⟩
    ·
     refine o.aP 4 ?_;refine ab ?_;refine dK ?_;refine G.skip (E ?_);refine G.exit (ac (ad (C (B (A ?_)))));refine x (G.L (fun aI=>?_));refine o.aa ?_;refine aV jE (jl [46,95,45,47] c w0 _) (fun L M n=>?_);obtain⟨rfl,j⟩:=n;have i:=i.L j;have bT:=j.size;have k:=lS c;refine o.v1 dq ?_;refine o.al ?_;refine aI ?_;refine G.ret (q ?_);exact⟨by first|exact c2 (by omega)|(rw[cp];exact cQ (by rw[k];omega)),i⟩
 ·
  refine o.aP 4 ?_;refine X ?_;refine dK ?_;refine G.skip (R (G.t2 (fun ae aJ=>G.L (fun S=>?_))));refine o.aa ?_;refine o.v1 dq ?_;refine o.aa ?_;refine o.bp (d:=13) rfl (fun P=>?_) (fun P=>?_)
  ·
   refine o.bJ ?_;refine o.ar eF ?_;refine o.aP 2 ?_;refine S ?_;refine aW (fun Q=>?_) (fun Q=>?_)
   ·
    refine G.exit (aJ (am (ac (a5 ?_))));refine O (aw (G.t2 (fun _ aK=>G.L (fun aL=>?_))));refine o.al ?_;refine aL ?_;refine G.ret (aK (H (F (q ?_))));exact⟨by first|exact c2 (by omega)|(rw[cp];exact cQ (by rw[k];omega)),i⟩
   ·
    refine G.skip (ae (G.L (fun T=>?_)));refine o.aa ?_;refine o.v1 dq ?_;refine o.aa ?_;refine o.bp (d:=20) rfl (fun K=>?_) (fun K=>?_)
    ·
     refine o.bJ ?_;refine o.ar eF ?_;refine o.aP 2 ?_;refine T ?_;refine aW (fun ap=>?_) (fun ap=>?_)
     ·
      refine G.exit (am (ac (ad (N ?_))));refine aw (G.t2 (fun _ aM=>G.L (fun aN=>?_)));refine o.al ?_;refine aN ?_;refine G.ret (aM (H (F (q ?_))));exact⟨by first|exact c2 (by omega)|(rw[cp];exact cQ (by rw[k];omega)),i⟩
     ·
      refine G.skip (E ?_);refine G.exit (ac (ad (C (B (A ?_)))));refine x (G.L (fun aO=>?_));refine o.aa ?_;refine aV jE (jl [46,95,45,47] c w0 _) (fun L M n=>?_);obtain⟨rfl,j⟩:=n;have i:=i.L j;have be:=j.size;have k:=lS c;refine o.v1 dq ?_;refine o.al ?_;refine aO ?_;refine G.ret (q ?_);exact⟨by first|exact c2 (by omega)|(rw[cp];exact cQ (by rw[k];omega)),i⟩
    ·
     refine o.aP 4 ?_;refine T ?_;refine dK ?_;refine G.skip (E ?_);refine G.exit (ac (ad (C (B (A ?_)))));refine x (G.L (fun a0=>?_));refine o.aa ?_;refine aV jE (jl [46,95,45,47] c w0 _) (fun L M n=>?_);obtain⟨rfl,j⟩:=n;have i:=i.L j;have b5:=j.size;have k:=lS c;refine o.v1 dq ?_;refine o.al ?_;refine a0 ?_;refine G.ret (q ?_);exact⟨by first|exact c2 (by omega)|(rw[cp];exact cQ (by rw[k];omega)),i⟩
  ·
   refine o.aP 4 ?_;refine S ?_;refine dK ?_;refine G.skip (ae (G.L (fun U=>?_)));refine o.aa ?_;refine o.v1 dq ?_;refine o.aa ?_;refine o.bp (d:=20) rfl (fun K=>?_) (fun K=>?_)
   ·
    refine o.bJ ?_;refine o.ar eF ?_;refine o.aP 2 ?_;refine U ?_;refine aW (fun ap=>?_) (fun ap=>?_)
    ·
     refine G.exit (am (ac (ad (N ?_))));refine aw (G.t2 (fun _ cg=>G.L (fun a2=>?_)));refine o.al ?_;refine a2 ?_;refine G.ret (cg (H (F (q ?_))));exact⟨by first|exact c2 (by omega)|(rw[cp];exact cQ (by rw[k];omega)),i⟩
    ·
     refine G.skip (E ?_);refine G.exit (ac (ad (C (B (A ?_)))));refine x (G.L (fun a3=>?_));refine o.aa ?_;refine aV jE (jl [46,95,45,47] c w0 _) (fun L M n=>?_);obtain⟨rfl,j⟩:=n;have i:=i.L j;have aX:=j.size;have k:=lS c;refine o.v1 dq ?_;refine o.al ?_;refine a3 ?_;refine G.ret (q ?_);exact⟨by first|exact c2 (by omega)|(rw[cp];exact cQ (by rw[k];omega)),i⟩
   ·
    refine o.aP 4 ?_;refine U ?_;refine dK ?_;refine G.skip (E ?_);refine G.exit (ac (ad (C (B (A ?_)))));refine x (G.L (fun a4=>?_));refine o.aa ?_;refine aV jE (jl [46,95,45,47] c w0 _) (fun L M n=>?_);obtain⟨rfl,j⟩:=n;have i:=i.L j;have aZ:=j.size;have k:=lS c;refine o.v1 dq ?_;refine o.al ?_;refine a4 ?_;refine G.ret (q ?_);exact⟨by first|exact c2 (by omega)|(rw[cp];exact cQ (by rw[k];omega)),i⟩
theorem BZ(c:UInt8)(w0:World)(J:Heap)
 :
 aG Tryz.prog w0 124 #[.int .u8 c.toNat] J (fun r i=>r= .bool (!cp c)∧aq J i):=by
 refine aG.aN [.int .u8 c.toNat] Tryz.func124 ?_;intro x n;have d:aq J J:=W.refl _ _;refine G.L (fun j=>?_);refine o.al ?_;refine j (G.L (fun k=>?_));refine o.aa ?_;refine aV AP (Gu c w0 _) ?_;rintro v4 q ⟨rfl,ac⟩;have d:=d.L ac;refine o.v1 eG ?_;refine o.al ?_;refine k ?_;refine G.ret (n ?_);exact⟨rfl,d⟩
theorem Dk(v cX:Value)(l:List UInt8)(p:UInt8→Bool)(w0:World)(J:Heap)
 (d:bM J a6 1 v l) (ai:∀(x:UInt8) (ab:Heap),aq J ab→x∈l→gx Tryz.prog w0 cX [.int .u8 x.toNat] ab (fun r q=>r= .bool (p x)∧aq ab q)):
 aG Tryz.prog w0 190 #[v,cX] J (fun r q=>∃n:Int,r= .int .i64 n∧((0≤n↔l.any p=true)∧ -1≤n∧n≤9223372036854775807)∧aq J q):=by
 refine aG.aN [v,cX] Tryz.func190 ?_;intro an F;have i:aq J J:=W.refl _ _;have d:=d.b2;have aI:=d.len;refine G.L (fun R=>?_);refine o.al ?_;refine R (G.t2 (fun aw am=>G.L (fun S=>?_)));refine o.aa ?_;refine o.v1 (bf d dj) ?_;refine o.aa (o.nil (S ?_));refine G.aD (fun _ ap T=>?_)
 refine G.bc (fun(j:(Nat))=>[(0,v),(1,cX),(7,.int .i64 l.length),(8,.int .i64 j)])
  (fun(j:(Nat)) (H:Heap)=>(j≤l.length)∧((l.take j).any p=false)∧aq J H)
  (fun(j:(Nat))=>l.length-j) 0 ⟨rfl,rfl,rfl,rfl,trivial⟩ ?_ ?_
 ·
  exact⟨(by omega),rfl,W.refl _ _⟩
 intro j ay U al X E;obtain⟨aH,C,k⟩:=U;have d:=d.N k;have i:=i.L k;have az:=k.size;refine G.L (fun Z=>?_);refine o.v1 bH (o.nil (Z ?_));refine G.t2 (fun aa ae=>?_);refine aW (fun ah=>?_) (fun ah=>?_)
 ·
  refine G.skip (aa (G.t2 (fun af ag=>G.aD (fun K _ L=>G.L (fun ac=>?_)))));refine o.aP 2 ?_;refine ac (G.L (fun N=>?_));refine o.az 3 ?_;refine o.b1 (Y.bU d (j) rfl dj cK rfl rfl) fun ar O=>?_;refine o.v1 (au O.O ed) ?_;refine o.mr rfl rfl rfl cM rfl rfl (ai l[j] _ i (List.getElem_mem (by omega))) (fun aB aC M=>?_);obtain⟨rfl,A⟩:=M;have i:=i.L A;have k:=k.L A;have aD:=A.size;refine o.nil (N ?_);refine cL (fun B=>?_) (fun B=>?_)
  ·
   refine G.L (fun P=>?_);refine o.aP 2 ?_;refine P ?_;refine G.ret (L (ag (E (T (am (F ?_))))));exact⟨j,rfl,⟨⟨fun _=>mj (j:=j) (by omega) (by simpa using B),fun _=>by omega⟩,by omega,by omega⟩,i⟩
  ·
   refine G.skip (K (af (G.region ?_)));refine o.v1 bD ?_;refine o.aa (o.nil ?_);refine aR.sub (X (j+1) _ ?_ ?_) ⟨rfl,rfl,(aF (by omega)),(aF (by omega)),trivial⟩
   ·exact⟨(by omega),ou C (by omega) (by simpa using B),k⟩
   ·first|omega|(simp only;omega)|(simp;omega)
 ·
  refine G.exit (ae (E (ap ?_)));refine aw (G.L (fun Q=>?_));refine o.al ?_;refine Q ?_;refine G.ret (F ?_);exact⟨-1,rfl,⟨⟨fun h=>by omega,fun h=>by rw[List.take_of_length_le (by omega),h]at C;cases C⟩,by omega,by omega⟩,i⟩
theorem Cd(v cX:Value)(l:List UInt8)(p:UInt8→Bool)(w0:World)(J:Heap)
 (d:bM J a6 1 v l) (B:∀(x:UInt8) (ab:Heap),aq J ab→x∈l→gx Tryz.prog w0 cX [.int .u8 x.toNat] ab (fun r i=>r= .bool (p x)∧aq ab i)):
 aG Tryz.prog w0 123 #[v,cX] J (fun r i=>r= .bool (l.any p)∧aq J i):=by
 refine aG.aN [v,cX] Tryz.func123 ?_;intro F C;have j:aq J J:=W.refl _ _;have d:=d.b2;have H:=d.len;refine G.L (fun q=>?_);refine o.al ?_;refine q (G.L (fun A=>?_));refine o.az 2 ?_;refine aV A_ (Dk _ cX l p w0 _ d.any B) ?_;rintro K E ⟨n7,rfl,n,ac⟩;have j:=j.L ac;refine o.v1 dq ?_;refine o.al ?_;refine A ?_;refine G.ret (C ?_);exact⟨by cases k:l.any p with|true=>(rw[decide_eq_true (n.1.2 k)])|false=>(rw[decide_eq_false (fun h=>by rw[n.1.1 h]at k;cases k)]),j⟩
theorem Dm(v cX:Value)(l:List (List UInt8))(p:List UInt8→Bool)(w0:World)(J:Heap)
 (d:bM J fy 1 v l) (ai:∀(x:List UInt8) (ab:Heap),aq J ab→x∈l→gx Tryz.prog w0 cX [aK x] ab (fun r q=>r= .bool (p x)∧aq ab q)):
 aG Tryz.prog w0 191 #[v,cX] J (fun r q=>∃n:Int,r= .int .i64 n∧((0≤n↔l.any p=true)∧ -1≤n∧n≤9223372036854775807)∧aq J q):=by
 refine aG.aN [v,cX] Tryz.func191 ?_;intro an F;have i:aq J J:=W.refl _ _;have d:=d.b2;have aI:=d.len;refine G.L (fun R=>?_);refine o.al ?_;refine R (G.t2 (fun aw am=>G.L (fun S=>?_)));refine o.aa ?_;refine o.v1 (bf d jw) ?_;refine o.aa (o.nil (S ?_));refine G.aD (fun _ ap T=>?_)
 refine G.bc (fun(j:(Nat))=>[(0,v),(1,cX),(7,.int .i64 l.length),(8,.int .i64 j)])
  (fun(j:(Nat)) (H:Heap)=>(j≤l.length)∧((l.take j).any p=false)∧aq J H)
  (fun(j:(Nat))=>l.length-j) 0 ⟨rfl,rfl,rfl,rfl,trivial⟩ ?_ ?_
 ·
  exact⟨(by omega),rfl,W.refl _ _⟩
 intro j ay U al X E;obtain⟨aH,C,k⟩:=U;have d:=d.N k;have i:=i.L k;have az:=k.size;refine G.L (fun Z=>?_);refine o.v1 bH (o.nil (Z ?_));refine G.t2 (fun aa ae=>?_);refine aW (fun ah=>?_) (fun ah=>?_)
 ·
  refine G.skip (aa (G.t2 (fun af ag=>G.aD (fun K _ L=>G.L (fun ac=>?_)))));refine o.aP 2 ?_;refine ac (G.L (fun N=>?_));refine o.az 3 ?_;refine o.b1 (Y.bU d (j) rfl jw bV rfl rfl) fun ar O=>?_;refine o.v1 (au O.O bR) ?_;refine o.mr rfl rfl rfl cM rfl rfl (ai l[j] _ i (List.getElem_mem (by omega))) (fun aB aC M=>?_);obtain⟨rfl,A⟩:=M;have i:=i.L A;have k:=k.L A;have aD:=A.size;refine o.nil (N ?_);refine cL (fun B=>?_) (fun B=>?_)
  ·
   refine G.L (fun P=>?_);refine o.aP 2 ?_;refine P ?_;refine G.ret (L (ag (E (T (am (F ?_))))));exact⟨j,rfl,⟨⟨fun _=>mj (j:=j) (by omega) (by simpa using B),fun _=>by omega⟩,by omega,by omega⟩,i⟩
  ·
   refine G.skip (K (af (G.region ?_)));refine o.v1 bD ?_;refine o.aa (o.nil ?_);refine aR.sub (X (j+1) _ ?_ ?_) ⟨rfl,rfl,(aF (by omega)),(aF (by omega)),trivial⟩
   ·exact⟨(by omega),ou C (by omega) (by simpa using B),k⟩
   ·first|omega|(simp only;omega)|(simp;omega)
 ·
  refine G.exit (ae (E (ap ?_)));refine aw (G.L (fun Q=>?_));refine o.al ?_;refine Q ?_;refine G.ret (F ?_);exact⟨-1,rfl,⟨⟨fun h=>by omega,fun h=>by rw[List.take_of_length_le (by omega),h]at C;cases C⟩,by omega,by omega⟩,i⟩
theorem Cf(v cX:Value)(l:List (List UInt8))(p:List UInt8→Bool)(w0:World)(J:Heap)
 (d:bM J fy 1 v l) (B:∀(x:List UInt8) (ab:Heap),aq J ab→x∈l→gx Tryz.prog w0 cX [aK x] ab (fun r i=>r= .bool (p x)∧aq ab i)):
 aG Tryz.prog w0 126 #[v,cX] J (fun r i=>r= .bool (l.any p)∧aq J i):=by
 refine aG.aN [v,cX] Tryz.func126 ?_;intro F C;have j:aq J J:=W.refl _ _;have d:=d.b2;have H:=d.len;refine G.L (fun q=>?_);refine o.al ?_;refine q (G.L (fun A=>?_));refine o.az 2 ?_;refine aV Ba (Dm _ cX l p w0 _ d.any B) ?_;rintro K E ⟨n7,rfl,n,ac⟩;have j:=j.L ac;refine o.v1 dq ?_;refine o.al ?_;refine A ?_;refine G.ret (C ?_);exact⟨by cases k:l.any p with|true=>(rw[decide_eq_true (n.1.2 k)])|false=>(rw[decide_eq_false (fun h=>by rw[n.1.1 h]at k;cases k)]),j⟩
theorem Fl(s:List UInt8)(bb:Int)(w0:World)(J:Heap)
 (aI:dP bb J) (N:bk (fun b=>b=0) J.size) (aj:s.length≤1000):
 aG Tryz.prog w0 129 #[aK s] J (fun r A=>r= .bool (ki s)∧aq J A):=by
 refine aG.aN [aK s] Tryz.func129 ?_;intro H n;have j:aq J J:=W.refl _ _;refine G.L (fun ac=>?_);refine o.al ?_;refine ac (G.L (fun k=>?_));refine o.aa ?_;refine o.v1 (Y.iZ rfl rfl rfl) ?_;refine o.aa ?_;refine o.bp (d:=5) rfl (fun g5=>?_) (fun g5=>?_)
 ·
  have F:0<s.length:=List.length_pos_iff.2 g5;have q:=ic (l:=s) (i:=0) F;have aN:=ic (l:=s) (i:=s.length-1) (by omega);refine o.bJ ?_;refine o.ar (jc (0) dC) ?_;refine o.ar da ?_;refine o.az 2 ?_;refine o.bp (d:=10) rfl (fun ad=>?_) (fun ad=>?_)
  ·
   refine o.bJ ?_;refine o.ar (jc (0) dC) ?_;refine o.ar da ?_;refine o.az 2 ?_;refine o.bp (d:=15) rfl (fun B=>?_) (fun B=>?_)
   ·
    refine o.az 2 ?_;refine o.ar (fu dC) ?_;refine o.ar (Y.cast (v2:= .int .i64 ((s.length-1:Nat):Int)) fG (fh (by omega))) ?_;refine o.ar (jc (s.length-1) dC) ?_;refine o.ar da ?_;refine o.az 2 ?_;refine o.bp (d:=23) rfl (fun C=>?_) (fun C=>?_)
    ·
     refine o.bJ ?_;refine o.call rfl u6 rfl bo rfl rfl (r2 s [46,46] bb w0 _ aI (by omega)) (fun K L E=>?_);obtain⟨rfl,x⟩:=E;have j:=j.L x;have M:=x.size;refine o.ar eG ?_;refine o.aP 2 ?_;refine k ?_;refine G.ret (n ?_);exact⟨Fk ⟨g5,by rw[q];omega,by rw[q];omega,by rw[aN];omega⟩,j⟩
    ·
     refine o.aP 5 ?_;refine k ?_;refine G.ret (n ?_);exact⟨qW (fun h=>by have V:=h.2.2.2;rw[aN]at V;omega),j⟩
   ·
    refine o.aP 13 ?_;refine k ?_;refine G.ret (n ?_);exact⟨qW (fun h=>by have V:=h.2.2.1;rw[q]at V;omega),j⟩
  ·
   refine o.aP 18 ?_;refine k ?_;refine G.ret (n ?_);exact⟨qW (fun h=>by have V:=h.2.1;rw[q]at V;omega),j⟩
 ·
  refine o.aP 23 ?_;refine k ?_;refine G.ret (n ?_);exact⟨qW (fun h=>g5 h.1),j⟩
theorem B0(s:List UInt8)(bb:Int)(w0:World)(J:Heap)
 (aI:dP bb J) (n:bk (fun b=>b=0) J.size) (aj:s.length≤1000):
 aG Tryz.prog w0 128 #[aK s] J (fun r i=>r= .bool (!ki s)∧aq J i):=by
 refine aG.aN [aK s] Tryz.func128 ?_;intro A q;have d:aq J J:=W.refl _ _;refine G.L (fun j=>?_);refine o.al ?_;refine j (G.L (fun k=>?_));refine o.aa ?_;refine aV AT (Fl s bb w0 _ aI (n.mono (by omega)) aj) ?_;rintro v4 x ⟨rfl,ac⟩;have d:=d.L ac;refine o.v1 eG ?_;refine o.al ?_;refine k ?_;refine G.ret (q ?_);exact⟨rfl,d⟩
theorem p7(s:List UInt8)(bb:Int)(w0:World)(J:Heap)
 (aI:dP bb J) (U:bk (fun b=>b=0) J.size) (aj:s.length≤9223372036854775807):
 aG Tryz.prog w0 48 #[aK s] J (fun r j=>r= .int .i64 (cU s)∧aq J j):=by
 refine aG.aN [aK s] Tryz.func48 ?_;intro ab k;have i:aq J J:=W.refl _ _;refine G.L (fun H=>?_);refine o.al ?_;refine H (G.t2 (fun K C=>G.L (fun E=>?_)));refine o.aa ?_;refine o.v1 (fu dC) ?_;refine o.v1 eX ?_;refine o.aa ?_;refine o.bp (d:=6) rfl (fun g6=>?_) (fun g6=>?_)
 ·
  refine o.az 4 ?_;refine o.nil (E ?_);refine G.h9 rfl ?_;refine G.L (fun L=>?_);refine o.al ?_;refine L ?_;refine G.ret (C (k ?_));exact⟨by first|(rw[cU,if_pos (.inl (by omega))])|(rw[cU,if_pos (.inr (by assumption))])|(rw[cU,if_neg (by rintro(h|h);omega;simp_all),if_pos (by assumption)])|(rw[cU,if_neg (by rintro(h|h);omega;simp_all),if_neg (by simp_all)]),i⟩
 ·
  refine o.bJ ?_;refine o.z (Z.yO rfl Tryz.underlying9 Tryz.underlying57 Tryz.underlying5 rfl (by omega)) bo rfl rfl ?_;rintro az Y ⟨aw,q,am⟩;have aI:=aI.N q;have i:=i.L q;have ae:=q.size;refine o.call rfl AN rfl bo rfl rfl (Cd _ (.func (.func 124) #[] #[]) s (fun c=> !cp c) w0 _ aw.rd.any (fun x j _ _=>gx.of (caps:=[]) AO (BZ x w0 j))) ?_;rintro v9 aa ⟨rfl,A⟩;have aI:=aI.N A;have i:=i.L A;have af:=A.size;refine o.dy ?_;refine o.nil (E ?_);refine cL (fun M=>?_) (fun M=>?_)
  ·
   refine G.L (fun ap=>?_);refine o.al ?_;refine ap ?_;refine G.ret (C (k ?_));exact⟨by first|(rw[cU,if_pos (.inl (by omega))])|(rw[cU,if_pos (.inr (by assumption))])|(rw[cU,if_neg (by rintro(h|h);omega;simp_all),if_pos (by assumption)])|(rw[cU,if_neg (by rintro(h|h);omega;simp_all),if_neg (by simp_all)]),i⟩
  ·
   refine G.skip (K (G.t2 (fun N O=>G.L (fun P=>?_))));refine o.aa ?_;refine aV AR (GH s bb w0 _ aI (by omega)) (fun ag ah Q=>?_);obtain⟨aB,ay,rfl,B,au,n⟩:=Q;have aI:=aI.N n;have i:=i.L n;have ai:=n.size;have ac:=B.le;refine aV AQ (Cf _ (.func (.func 128) #[] #[]) (sp [] s) (fun p=> !ki p) w0 _ B.rd.any (fun x j aC X=>gx.of (caps:=[]) AS (B0 x bb w0 j (aI.N aC) (U.mono (by have:=aC.size;omega)) (by have:=tx X;simp only[List.length_nil]at this;omega)))) (fun al an R=>?_);obtain⟨rfl,ad⟩:=R;have i:=i.L ad;have ar:=ad.size;refine o.nil (P ?_);refine cL (fun S=>?_) (fun S=>?_)
   ·
    refine G.L (fun T=>?_);refine o.al ?_;refine T ?_;refine G.ret (O (k ?_));exact⟨by first|(rw[cU,if_pos (.inl (by omega))])|(rw[cU,if_pos (.inr (by assumption))])|(rw[cU,if_neg (by rintro(h|h);omega;simp_all),if_pos (by assumption)])|(rw[cU,if_neg (by rintro(h|h);omega;simp_all),if_neg (by simp_all)]),i⟩
   ·
    refine G.skip (N (G.L (fun F=>?_)));refine o.al ?_;refine F ?_;refine G.ret (k ?_);exact⟨by first|(rw[cU,if_pos (.inl (by omega))])|(rw[cU,if_pos (.inr (by assumption))])|(rw[cU,if_neg (by rintro(h|h);omega;simp_all),if_pos (by assumption)])|(rw[cU,if_neg (by rintro(h|h);omega;simp_all),if_neg (by simp_all)]),i⟩
end fm

namespace fw
open E Go.RowKit eY fm
def oR(s:List UInt8)(i:Nat):Prop:=i=0∨(s.getD (i-1) 0).toNat=47
def qB(s:List UInt8)(i:Nat):Prop:=i+1=s.length∨(s.getD (i+1) 0).toNat=47
def nP(s:List UInt8)(i:Nat):Prop:=cp (s.getD i 0)=true∧¬((s.getD i 0).toNat=47∧(oR s i∨i+1=s.length))∧¬(oR s i∧((s.getD i 0).toNat=46∨(s.getD i 0).toNat=45))∧¬(qB s i∧(s.getD i 0).toNat=46)∧¬((s.getD i 0).toNat=46∧0<i∧(s.getD (i-1) 0).toNat=46)
def scan(p:Nat):List UInt8→Prop
 |[]=>p≠47∧p≠46
 |c::l=>cp c=true∧(c.toNat=47→p≠47∧p≠46)∧(p=47→c.toNat≠46∧c.toNat≠45)∧¬(c.toNat=46∧p=46)∧scan c.toNat l
def qR(p:Nat)(c:UInt8)(l:List UInt8):Prop:=cp c=true∧¬(c.toNat=47∧(p=47∨l.length=0))∧¬(p=47∧(c.toNat=46∨c.toNat=45))∧¬((l.length=0∨(l.getD 0 0).toNat=47)∧c.toNat=46)∧¬(c.toNat=46∧p=46)
def mM(p:Nat):List UInt8→Prop
 |[]=>True
 |c::l=>qR p c l∧mM c.toNat l
theorem tp:∀(l:List UInt8) (p:Nat),scan p l↔mM p l∧(l.length=0→p≠47∧p≠46)∧(l.length≠0→(l.getD 0 0).toNat=47→p≠46)
 |[],p=>by simp[scan,mM]
 |c::l,p=>by
  have ih:=tp l c.toNat;simp only[scan,mM,qR,List.length_cons,List.getD_cons_zero];rw[ih];constructor
  ·rintro⟨k,V,d,j,n,i,q⟩
   refine⟨⟨⟨k,?_,?_,?_,j⟩,n⟩,fun h=>by omega,fun _ h=>(V h).2⟩
   ·rintro⟨a,b|b⟩
    ·exact(V a).1 b
    ·exact(i b).1 a
   ·rintro⟨a,b|b⟩
    ·exact(d a).1 b
    ·exact(d a).2 b
   ·rintro⟨a|a,b⟩
    ·exact(i a).2 b
    ·by_cases o:l.length=0
     ·exact(i o).2 b
     ·exact q o a b
  ·rintro⟨⟨⟨k,V,d,j,n⟩,i⟩,_,r⟩
   refine⟨k,fun a=>⟨fun b=>V ⟨a,.inl b⟩,r (by omega) a⟩,fun a=>⟨fun b=>d ⟨a,.inl b⟩,fun b=>d ⟨a,.inr b⟩⟩,n,i,fun a=>⟨fun b=>V ⟨b,.inr a⟩,fun b=>j ⟨.inl a,b⟩⟩,fun _ a b=>j ⟨.inr a,b⟩⟩
def mL(p:Nat)(s:List UInt8)(i:Nat):Prop:=qR (if i=0 then p else(s.getD (i-1) 0).toNat) (s.getD i 0) (s.drop (i+1))
theorem s6:∀(s:List UInt8) (p:Nat),mM p s↔∀i,i<s.length→mL p s i
 |[],p=>by simp[mM]
 |c::l,p=>by
  have ih:=s6 l c.toNat;rw[mM,ih];constructor
  ·rintro⟨j,V⟩ i d
   cases i with
   |zero=>simpa[mL]using j
   |succ i=>
    have:=V i (by simpa using d);unfold mL at this⊢
    cases i with
    |zero=>simpa using this
    |succ i=>simpa using this
  ·intro h
   refine⟨by simpa[mL]using h 0 (by simp),fun i d=>?_⟩;have:=h (i+1) (by simpa using d);unfold mL at this⊢
   cases i with
   |zero=>simpa using this
   |succ i=>simpa using this
theorem xz{s:List UInt8}{i:Nat}(x:i<s.length):mL 47 s i↔nP s i:=by
 have q:(s.drop (i+1)).length=0↔i+1=s.length:=by rw[List.length_drop];omega
 have o:(s.drop (i+1)).getD 0 0=s.getD (i+1) 0:=by simp[List.getD]
 unfold mL nP qR oR qB;rw[q,o];by_cases d:i=0
 ·rw[if_pos d]
  simp only[d,true_or,true_and,and_true];constructor
  ·rintro⟨j,V,k,n,_⟩;exact⟨j,V,k,n,fun h=>by omega⟩
  ·rintro⟨j,V,k,n,_⟩;exact⟨j,V,k,n,fun h=>by omega⟩
 ·rw[if_neg d]
  have r:0<i:=by omega
  simp only[d,false_or,r,true_and]
def df(cur:List UInt8):Nat:=match cur.getLast? with|none=>47|some c=>c.toNat
theorem D5(cur:List UInt8)(c:UInt8):df (cur++[c])=c.toNat:=by simp[df]
def dd:List UInt8→Bool
 |[]=>false
 |c::l=>(decide (c.toNat=46)&&(match l.head? with|none=>false|some d=>decide (d.toNat=46)))||dd l
theorem sV{c:UInt8}:(46==c)=decide (c.toNat=46):=by
 have:(46=c)↔(c.toNat=46):=⟨fun h=>by rw[←h];rfl,fun h=>by apply UInt8.toNat.inj;rw[h];rfl⟩;by_cases h:46=c
 ·rw[decide_eq_true (this.1 h)];simpa using h
 ·rw[decide_eq_false (fun e=>h (this.2 e))];simpa using h
theorem vB:∀l:List UInt8,Lib.contains l [46,46]=dd l
 |[]=>by decide
 |c::l=>by
  have ih:=vB l;unfold Lib.contains at ih⊢;have j:=Lib.index_ge l [46,46]
  have i:([46,46]:List UInt8).isPrefixOf (c::l)=(decide (c.toNat=46)&&(match l.head? with|none=>false|some d=>decide (d.toNat=46))):=by
   cases l with
   |nil=>rw[List.isPrefixOf,sV];simp
   |cons d l=>rw[List.isPrefixOf,List.isPrefixOf,sV,sV];simp
  rw[Lib.index,i,dd]
  cases h:(decide (c.toNat=46)&&(match l.head? with|none=>false|some d=>decide (d.toNat=46)))with
  |true=>simp
  |false=>
   rw[if_neg (by simp),Bool.false_or,←ih];by_cases hm:Lib.index l [46,46]= -1
   ·rw[if_pos (by rw[hm];rfl),hm]
   ·rw[if_neg (by simpa using hm)];exact decide_eq_decide.2 (by omega)
theorem vD:∀(l:List UInt8) (c:UInt8),dd (l++[c])=(dd l||(decide (df l=46)&&decide (c.toNat=46)))
 |[],c=>by simp[dd,df]
 |[d],c=>by
  have i:df [d]=d.toNat:=rfl;have V:dd [d]=false:=by simp[dd]
  have j:dd ([d]++[c])=(decide (d.toNat=46)&&decide (c.toNat=46)||dd [c]):=rfl;have k:dd [c]=false:=by simp[dd]
  rw[i,V,j,k,Bool.or_false,Bool.false_or]
 |d::e::l,c=>by
  have ih:=vD (e::l) c;have i:df (d::e::l)=df (e::l):=by simp[df]
  have V:dd (d::e::l)=(decide (d.toNat=46)&&decide (e.toNat=46)||dd (e::l)):=rfl;have j:dd (d::e::l++[c])=(decide (d.toNat=46)&&decide (e.toNat=46)||dd (e::l++[c])):=rfl;rw[i,V,j,ih,Bool.or_assoc]
def lZ(cur:List UInt8):Prop:=(cur≠[]→(cur.getD 0 0).toNat≠46∧(cur.getD 0 0).toNat≠45)∧dd cur=false
theorem w1{s:List UInt8}(h:s≠[]):df s=(s.getD (s.length-1) 0).toNat:=by
 have:s.getLast?=some (s.getD (s.length-1) 0):=by
  rw[List.getLast?_eq_getElem?,List.getD_eq_getElem?_getD];have:=List.length_pos_iff.2 h;rw[List.getElem?_eq_getElem (by omega)];rfl
 unfold df;rw[this]
theorem xR{cur:List UInt8}(j:∀c∈cur,c.toNat≠47):ki cur=true↔lZ cur∧df cur≠47∧df cur≠46:=by
 unfold ki lZ;rw[vB,Bool.and_eq_true,decide_eq_true_eq];by_cases i:cur=[]
 ·subst i;simp[df]
 ·rw[w1 i]
  have hm:cur.getD (cur.length-1) 0∈cur:=by
   have:=List.length_pos_iff.2 i;rw[ic (by omega)];exact List.getElem_mem _
  have:=j _ hm;simp only[i,ne_eq,not_false_eq_true,true_and,forall_const,Bool.not_eq_true'];constructor
  ·rintro⟨⟨a,b,c⟩,d⟩;exact⟨⟨⟨a,b⟩,d⟩,this,c⟩
  ·rintro⟨⟨⟨a,b⟩,d⟩,_,c⟩;exact⟨⟨a,b,c⟩,d⟩
theorem Fq{cur:List UInt8}{c:UInt8}(i:∀c∈cur,c.toNat≠47):lZ (cur++[c])↔lZ cur∧(df cur=47→c.toNat≠46∧c.toNat≠45)∧¬(c.toNat=46∧df cur=46):=by
 unfold lZ;rw[vD]
 cases cur with
 |nil=>simp[dd,df]
 |cons d l=>
  have hm:df (d::l)≠47:=by
   rw[w1 (by simp)];refine i _ ?_;rw[ic (by simp)];exact List.getElem_mem _
  simp only[List.cons_append,ne_eq,reduceCtorEq,not_false_eq_true,List.getD_cons_zero,forall_const,Bool.or_eq_false_iff,Bool.and_eq_false_iff,decide_eq_false_iff_not,hm,false_implies,true_and];constructor
  ·rintro⟨a,b,c⟩;exact⟨⟨a,b⟩,fun h=>by rcases c with c|c;exact c h.2;exact c h.1⟩
  ·rintro⟨⟨a,b⟩,c⟩
   refine⟨a,b,?_⟩;by_cases h:df (d::l)=46
   ·exact .inr (fun e=>c ⟨e,h⟩)
   ·exact .inl h
theorem EG{c:UInt8}:c=47↔c.toNat=47:=⟨fun h=>by rw[h];rfl,fun h=>by apply UInt8.toNat.inj;rw[h];rfl⟩
theorem C3:cp 47=true:=by decide
theorem tz:∀(s cur:List UInt8),(∀c∈cur,c.toNat≠47)→(((∀p∈sp cur s,ki p=true)∧(∀c∈s,cp c=true))↔(lZ cur∧scan (df cur) s))
 |[],cur,h=>by
  simp only[sp,List.mem_singleton,forall_eq,List.not_mem_nil,false_implies,implies_true,and_true,scan]
  exact xR h
 |c::l,cur,h=>by
  by_cases av:c=47
  ·subst av
   have ih:=tz l [] (fun c h=>by cases h);have o:df []=47:=rfl;have q:lZ []:=⟨fun h=>absurd rfl h,rfl⟩;rw[o]at ih;have t47:(47:UInt8).toNat=47:=rfl;simp only[sp,if_true,List.mem_cons,forall_eq_or_imp,scan,C3,t47,true_and,ne_eq,forall_const];have:=xR h;constructor
   ·rintro⟨⟨a,b⟩,d⟩
    obtain⟨j,i,k⟩:=this.1 a;exact⟨j,⟨i,k⟩,fun _=>⟨by decide,by decide⟩,fun e=>by omega,(ih.1 ⟨b,d⟩).2⟩
   ·rintro⟨a,⟨b,d⟩,_,_,e⟩
    obtain⟨j,i⟩:=ih.2 ⟨q,e⟩;exact⟨⟨this.2 ⟨a,b,d⟩,j⟩,i⟩
  ·have aC:c.toNat≠47:=fun e=>av (EG.2 e)
   have V:∀d∈cur++[c],d.toNat≠47:=by
    intro d ak;rcases List.mem_append.1 ak with ak|ak
    ·exact h d ak
    ·rw[List.mem_singleton]at ak;rw[ak];exact aC
   have ih:=tz l (cur++[c]) V;rw[D5,Fq h]at ih;simp only[sp,if_neg av,List.mem_cons,forall_eq_or_imp,scan];constructor
   ·rintro⟨a,b,d⟩
    obtain⟨⟨j,i,k⟩,n⟩:=ih.1 ⟨a,d⟩;exact⟨j,b,fun e=>absurd e aC,i,k,n⟩
   ·rintro⟨a,b,_,i,k,n⟩
    obtain⟨r,x⟩:=ih.2 ⟨⟨a,i,k⟩,n⟩;exact⟨r,b,x⟩
theorem mv(s:List UInt8):cU s=0↔s.length≤60∧scan 47 s:=by
 have h:=tz s [] (fun c h=>by cases h);have o:lZ []:=⟨fun h=>absurd rfl h,rfl⟩;rw[show df []=47 from rfl]at h;unfold cU;constructor
 ·intro d
  split at d
  ·cases d
  ·rename_i k
   split at d
   ·cases d
   ·rename_i V
    refine⟨by omega,(h.1 ⟨fun p j=>?_,fun c av=>?_⟩).2⟩
    ·simp only[List.any_eq_true,not_exists,not_and,Bool.not_eq_true',Bool.not_eq_false]at V
     exact V p j
    ·have i:¬(s.any (fun c=> !cp c))=true:=fun e=>k (.inr e)
     simp only[List.any_eq_true,not_exists,not_and,Bool.not_eq_true',Bool.not_eq_false]at i;exact i c av
 ·rintro⟨k,V⟩
  obtain⟨i,n⟩:=h.2 ⟨o,V⟩;rw[if_neg,if_neg]
  ·intro e
   obtain⟨p,j,e⟩:=List.any_eq_true.1 e;rw[i p j]at e;cases e
  ·rintro(e|e)
   ·omega
   ·obtain⟨c,av,e⟩:=List.any_eq_true.1 e
    rw[n c av]at e;cases e
theorem p8(s:List UInt8):cU s=0∨cU s=7:=by
 unfold cU;split
 ·exact .inr rfl
 ·split
  ·exact .inr rfl
  ·exact .inl rfl
theorem Fx{s:List UInt8}(j:¬s.length<1)(V:¬s.length>60)(h:∀i,i<s.length→nP s i):cU s=0:=by
 refine(mv s).2 ⟨by omega,(tp s 47).2 ⟨(s6 s 47).2 (fun i d=>(xz d).2 (h i d)),fun e=>by omega,fun _ _=>by decide⟩⟩
theorem pf{s:List UInt8}{i:Nat}(j:i<s.length)(h:¬nP s i):cU s=7:=by
 rcases p8 s with d|d
 ·obtain⟨_,V⟩:=(mv s).1 d
  exact absurd ((xz j).1 ((s6 s 47).1 ((tp s 47).1 V).1 i j)) h
 ·exact d
theorem B8{s:List UInt8}(h:s.length<1):cU s=7:=by
 have:s=[]:=List.length_eq_zero_iff.1 (by omega);subst this;decide+kernel
theorem B7{s:List UInt8}(h:s.length>60):cU s=7:=by unfold cU;rw[if_pos (.inl h)]
theorem E1{s:List UInt8}{i:Nat}{fb aZ n o q r:Bool}(F:cp (s.getD i 0)=true)(E:fb=true↔oR s i)(G:aZ=true↔qB s i)(d:n=true↔((s.getD i 0).toNat=47∧(fb=true∨i+1=s.length)))(j:o=true↔(fb=true∧((s.getD i 0).toNat=46∨(s.getD i 0).toNat=45)))
 (k:q=true↔(aZ=true∧(s.getD i 0).toNat=46)) (x:r=true↔((s.getD i 0).toNat=46∧0<i∧(s.getD (i-1) 0).toNat=46)) (A:n=false) (B:o=false) (du:q=false) (C:r=false):nP s i:=by
 subst A B du C;simp only[Bool.false_eq_true,false_iff]at d j k x;rw[E]at d j;rw[G]at k;exact⟨F,d,j,k,x⟩
end fw
end Go.Proofs.YtfjmpninmdjcaaaGreatDoor
