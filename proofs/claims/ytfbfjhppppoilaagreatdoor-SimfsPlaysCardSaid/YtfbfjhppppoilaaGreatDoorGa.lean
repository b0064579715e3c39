/-
  Contracts of functions of the program, and plain laws: put together of several texts.
-/
import Derived.WalkKit
import Derived.StillTail
import Derived.OrdersHeld
import Derived.Deep.RegionHeld3
import Derived.MapKept
import Derived.Lib.ConvBytes
import Derived.Lib.AppendStr
import Derived.Laws.Pointers
import Derived.Laws.Cover3
import Derived.Test.YtfbfjhppppoilaaGreatDoorRows
import Derived.Lib.BytesEntry
import Derived.Maps.RangeRun
import Derived.RangeFuncLeaves
import Derived.RangeFuncRecord
import Derived.RangeFuncSeq
import Derived.TacticsIn
import Derived.Lib.SplitLaws
import Derived.Test.YtfbfjhppppoilaaGreatDoorShelf
import Derived.Test.YtfbfjhppppoilaaGreatDoorMcl
import Derived.Lib.Bytealg
import Derived.ProofKit
import Derived.OpenShut
import Derived.ShutString
import Derived.ChangeOld
import Derived.Below
import Derived.JoinedCond
import Derived.Deep.Slices
import Derived.ChangeSame
import Derived.Lib.AppendZerosOnto
set_option linter.unusedVariables false
set_option linter.unusedSimpArgs false
set_option linter.unusedSectionVars false
set_option linter.defProp false

namespace Go.Proofs.YtfbfjhppppoilaaGreatDoor.E
abbrev Heap := Array Obj
abbrev FL := List (Nat × Value)
def lk : FL → Nat → Option Value
 | [], _ => none
 | (s, v) :: l, t => match Nat.beq s t with
   | true => some v
   | false => lk l t
structure Fr (n : Nat) (l : FL) (a : Act) : Prop where
 defers : a.defers = []
 size : a.tmps.size = n
 get : ∀ t v, lk l t = some v → a.tmps[t]? = some v
def opv (l : FL) : Operand → Option Value
 | .tmp t => lk l t
 | .const v => some v
 | .global g => some (.pointer (some ⟨g, 0, none⟩))
 | .func f => some (.func (.func f) #[] #[])
def opvs (l : FL) : List Operand → Option (List Value)
 | [] => some []
 | x :: r => match opv l x, opvs l r with
   | some v, some vs => some (v :: vs)
   | _, _ => none
theorem Fr.eval {n : Nat} {l : FL} {a : Act} (h : Fr n l a) {x : Operand} {v : Value} (e : opv l x = some v) : a.eval x = v := by
 cases x with
 | tmp t => have := h.get t v e; simp [Act.eval, Array.getD_eq_getD_getElem?, this]
 | const c => simpa [opv, Act.eval] using e
 | global g => simpa [opv, Act.eval] using e
 | func f => simpa [opv, Act.eval] using e
theorem Fr.evals {n : Nat} {l : FL} {a : Act} (h : Fr n l a) : ∀ {xs : List Operand} {vs : List Value}, opvs l xs = some vs → xs.map a.eval = vs
 | [], vs, e => by simpa [opvs] using e
 | x :: r, vs, e => by
   simp only [opvs] at e
   cases hx : opv l x with
   | none => simp [hx] at e
   | some v =>
     cases hr : opvs l r with
     | none => simp [hx, hr] at e
     | some vr =>
       simp only [hx, hr, Option.some.injEq] at e; subst e; simp [h.eval hx, h.evals hr]
theorem Fr.put {n : Nat} {l : FL} {a : Act} (h : Fr n l a) {d : Nat} (hd : Nat.blt d n = true) (v : Value) : Fr n ((d, v) :: l) (a.put (some d) v) := by
 have hd' : d < n := by simpa [Nat.blt_eq] using hd
 refine ⟨h.defers, by simp [Act.put, h.size], fun t u e => ?_⟩; simp only [Act.put, Array.getElem?_setIfInBounds]; simp only [lk] at e; by_cases ht : d = t
 · subst ht
   have : Nat.beq d d = true := by simp
   simp only [this] at e; simp [h.size, hd', ← Option.some.inj e]
 · have : Nat.beq d t = false := by
    cases hb : Nat.beq d t with
    | true => exact absurd (Nat.eq_of_beq_eq_true hb) ht
    | false => rfl
   simp only [this] at e; simp [ht, h.get t u e]
def Sub : FL → FL → Prop
 | [], _ => True
 | (t, v) :: r, l => lk l t = some v ∧ Sub r l
theorem Sub.lk {l : FL} : ∀ {l' : FL}, Sub l' l → ∀ t v, lk l' t = some v → lk l t = some v
 | [], _, t, v, e => by simp [E.lk] at e
 | (s, u) :: r, ⟨h1, h2⟩, t, v, e => by
   simp only [E.lk] at e
   cases hb : Nat.beq s t with
   | true =>
     simp only [hb, Option.some.injEq] at e; have := Nat.eq_of_beq_eq_true hb
     subst this; subst e; exact h1
   | false => simp only [hb] at e; exact Sub.lk h2 t v e
theorem Fr.sub {n : Nat} {l l' : FL} {a : Act} (h : Fr n l a) (hs : Sub l' l) : Fr n l' a :=
 ⟨h.defers, h.size, fun t v e => h.get t v (hs.lk t v e)⟩
structure At (w0 : World) (H : Heap) (w : World) : Prop where
 heap : w.heap = H
 os : w.os = w0.os
 tape : w.tape = w0.tape
 output : w.output = w0.output
 dr : w0.drawn ≤ w.drawn
theorem At.drew {w0 w : World} {H : Heap} (h : At w0 H w) : At w0 H { w with drawn := w.drawn + 1 } := ⟨h.heap, h.os, h.tape, h.output, Nat.le_succ_of_le h.dr⟩
theorem At.set {w0 w : World} {H H' : Heap} (h : At w0 H w) : At w0 H' { w with heap := H' } := ⟨rfl, h.os, h.tape, h.output, h.dr⟩
def Y (P : Program) (w0 : World) (n : Nat) (l : FL) (H : Heap) (o : Oper) (v : Value) : Prop :=
 ∀ a w, Fr n l a → At w0 H w → (execOp a.eval o).run P w = .ok (.value v) w
def Md (m : Bool) (P : Program) (ops : Array Oper) (Q : Exit → Act → World → Prop) (rest : List Oper) (a : Act) (w : World) : Prop := match m with
 | true => wpStill P ops w (fun a' => Q .normal a' w) rest a
 | false => wpList P ops Q rest a w
def LR (m : Bool) (P : Program) (w0 : World) (ops : Array Oper) (Q : Exit → Act → World → Prop) (n : Nat) (l : FL) (rest : List Oper) (H : Heap) : Prop :=
 ∀ a w, Fr n l a → At w0 H w → Md m P ops Q rest a w
def QN (w0 : World) (Q : Exit → Act → World → Prop) (n : Nat) (l : FL) (H : Heap) : Prop := ∀ a w, Fr n l a → At w0 H w → Q .normal a w
def QE (w0 : World) (Q : Exit → Act → World → Prop) (e : Exit) (n : Nat) (l : FL) (H : Heap) : Prop := ∀ a w, Fr n l a → At w0 H w → Q e a w
def CW (P : Program) (w0 : World) (Q : Exit → Act → World → Prop) (n : Nat) (l : FL) (c : Code) (H : Heap) : Prop :=
 ∀ a w, Fr n l a → At w0 H w → c.wp P Q a w
section
variable {P : Program} {w0 : World} {Q : Exit → Act → World → Prop} {n : Nat} {l : FL} {H : Heap} {ops : Array Oper} {rest : List Oper} {o : Oper} {m : Bool}
theorem LR.nil (h : QN w0 Q n l H) : LR m P w0 ops Q n l [] H := by
 intro a w hf ha; cases m
 · exact h a w hf ha
 · exact h a w hf ha
theorem step_aux {a : Act} {w : World} {v : Value} (hf : Fr n l a) (ha : At w0 H w) (hw : Region.wanted o (yielded ops a.tmps) = true) (hr : (execOp a.eval o).run P w = .ok (.value v) w)
 {d : Nat} (hd : o.dst = some d) (hn : Nat.blt d n = true) (h : LR m P w0 ops Q n ((d, v) :: l) rest H) : Md m P ops Q (o :: rest) a w := by
 have hp := hf.put hn v; rw [← hd] at hp; have hh := h _ w hp ha; cases m
 · simp only [Md] at hh ⊢
   unfold wpList; rw [if_pos hw]; exact .inl (by unfold Oper.wp; rw [hr]; exact hh)
 · simp only [Md] at hh ⊢
   unfold wpStill; rw [if_pos hw]; unfold Oper.still; rw [hr]; exact ⟨rfl, hh⟩
def Wd (ops : Array Oper) (l : FL) (o : Oper) : Prop := ∀ n a, Fr n l a → Region.wanted o (yielded ops a.tmps) = true
theorem yielded_of {a : Act} (hf : Fr n l a) {j d : Nat} {b : Bool} (hj : (ops[j]?).bind (·.dst) = some d) (hc : lk l d = some (.bool b)) : yielded ops a.tmps j = some b := by
 have h1 := hf.get d _ hc; have : (ops[j]?).bind (fun o => o.dst) = some d := hj; unfold yielded; rw [this]; simp [h1]
theorem Wd.u (hg : o.guard = none) : Wd ops l o := fun _ _ _ => by simp [Region.wanted, hg]
theorem Wd.g {j e : Nat} {b : Bool} (hg : o.guard = some (j, b)) (hj : (ops[j]?).bind (·.dst) = some e) (hc : lk l e = some (.bool b)) : Wd ops l o :=
 fun _ _ hf => by simp [Region.wanted, hg, yielded_of hf hj hc]
theorem LR.v {v : Value} {d : Nat} (hy : Y P w0 n l H o v) (hw : Wd ops l o) (hd : o.dst = some d) (hn : Nat.blt d n = true) (h : LR m P w0 ops Q n ((d, v) :: l) rest H) : LR m P w0 ops Q n l (o :: rest) H :=
 fun a w hf ha => step_aux hf ha (hw n a hf) (hy a w hf ha) hd hn h
theorem LR.e {α : Type} {g : α → Value} {φ : α → Prop} {d : Nat} (hy : ∃ x, (∀ H', Y P w0 n l H' o (g x)) ∧ φ x) (hw : Wd ops l o) (hd : o.dst = some d) (hn : Nat.blt d n = true) (h : ∀ x, φ x → LR m P w0 ops Q n ((d, g x) :: l) rest H) : LR m P w0 ops Q n l (o :: rest) H :=
 let ⟨x, h1, h2⟩ := hy
 LR.v (h1 H) hw hd hn (h x h2)
theorem LR.gs {d j e : Nat} {b c : Bool} (hg : o.guard = some (j, b)) (hj : (ops[j]?).bind (·.dst) = some e) (hc : lk l e = some (.bool c)) (hne : (c == b) = false)
 (hd : o.dst = some d) (hn : Nat.blt d n = true) (h : LR m P w0 ops Q n ((d, undef) :: l) rest H) : LR m P w0 ops Q n l (o :: rest) H := by
 intro a w hf ha
 have hw : Region.wanted o (yielded ops a.tmps) = false := by
  have hne' : c ≠ b := by intro e; subst e; simp at hne
  simp [Region.wanted, hg, yielded_of hf hj hc, hne']
 have hp := hf.put hn undef; rw [← hd] at hp; have hh := h _ w hp ha; cases m
 · simp only [Md] at hh ⊢
   unfold wpList; rw [if_neg (by simp [hw])]; exact hh
 · simp only [Md] at hh ⊢
   unfold wpStill; rw [if_neg (by simp [hw])]; exact hh
theorem Fr.same {a : Act} (hf : Fr n l a) {d : Nat} {v : Value} (hc : lk l d = some v) : Fr n ((d, v) :: l) a := by
 refine ⟨hf.defers, hf.size, fun t u e => ?_⟩; simp only [lk] at e
 cases hb : Nat.beq d t with
 | true =>
   have := Nat.eq_of_beq_eq_true hb; subst this; simp only [hb] at e
   exact hf.get d u (by rw [hc]; exact e)
 | false => simp only [hb] at e; exact hf.get t u e
theorem LR.splitp {d : Nat} {p : Prop} [Decidable p] (hc : lk l d = some (.bool (decide p))) (ht : p → LR m P w0 ops Q n ((d, .bool true) :: l) rest H) (he : ¬p → LR m P w0 ops Q n ((d, .bool false) :: l) rest H) : LR m P w0 ops Q n l rest H := by
 intro a w hf ha; by_cases hp : p
 · rw [decide_eq_true hp] at hc; exact ht hp a w (hf.same hc) ha
 · rw [decide_eq_false hp] at hc; exact he hp a w (hf.same hc) ha
theorem LR.split {d : Nat} {b : Bool} (hc : lk l d = some (.bool b)) (ht : b = true → LR m P w0 ops Q n ((d, .bool true) :: l) rest H) (he : b = false → LR m P w0 ops Q n ((d, .bool false) :: l) rest H) : LR m P w0 ops Q n l rest H := by
 intro a w hf ha; cases b
 · exact he rfl a w (hf.same hc) ha
 · exact ht rfl a w (hf.same hc) ha
theorem QN.sub {l' : FL} (h : QN w0 Q n l' H) (hs : Sub l' l) : QN w0 Q n l H := fun a w hf ha => h a w (hf.sub hs) ha
theorem CW.region {id : Nat} {lo : List Oper} (h : LR false P w0 lo.toArray Q n l lo H) : CW P w0 Q n l (.region id lo.toArray false) H :=
 fun a w hf ha => wp_region_lit (h a w hf ha)
theorem CW.region_draw {id : Nat} {lo : List Oper} (hm : P.follows .mixedOrders = true) (hB : Region.lexB .any lo.toArray = true) (h : LR true P w0 lo.toArray Q n l lo H) : CW P w0 Q n l (.region id lo.toArray true) H :=
 fun a w hf ha => wp_region_still_lit hm hB (h a _ hf ha.drew)
theorem CW.region_tail {id : Nat} {lo : List Oper} (k : Nat) (hm : P.follows .mixedOrders = true) (hB : Region.lexTailB .any lo.toArray k = true)
 (h : ∀ K : Exit → Act → World → Prop, (∀ l', LR false P w0 lo.toArray Q n l' (lo.drop k) H → QN w0 K n l' H) → LR true P w0 lo.toArray K n l (lo.take k) H) : CW P w0 Q n l (.region id lo.toArray true) H :=
 fun a w hf ha => wp_region_still_tail k hm hB (h (fun _ a' w' => wpList P lo.toArray Q (lo.drop k) a' w') (fun l' hl a' w' hf' ha' => hl a' w' hf' ha') a _ hf ha.drew)
theorem CW.seq {x y : Code} (h : ∀ K : Exit → Act → World → Prop, (∀ l' H', CW P w0 Q n l' y H' → QN w0 K n l' H') → (∀ e, e ≠ .normal → ∀ l' H', QE w0 Q e n l' H' → QE w0 K e n l' H') → CW P w0 K n l x H) : CW P w0 Q n l (.seq x y) H := by
 intro a w hf ha; refine wp_seq (h (Exit.then (y.wp P Q) Q) (fun l' H' hy a' w' hf' ha' => hy a' w' hf' ha') ?_ a w hf ha); intro e he l' H' hq a' w' hf' ha'; have hq := hq a' w' hf' ha'; cases e <;> first | exact absurd rfl he | exact hq
theorem CW.skip (h : QN w0 Q n l H) : CW P w0 Q n l .skip H := fun a w hf ha => wp_skip (h a w hf ha)
theorem CW.exit {id : Nat} (h : QE w0 Q (.exit id) n l H) : CW P w0 Q n l (.exit id) H := fun a w hf ha => wp_exit (h a w hf ha)
theorem CW.ret (h : QE w0 Q .ret n l H) : CW P w0 Q n l .ret H := fun a w hf ha => wp_ret (h a w hf ha)
theorem CW.cond {c : Operand} {x y : Code} {b : Bool} (hc : opv l c = some (.bool b)) (ht : b = true → CW P w0 Q n l x H) (he : b = false → CW P w0 Q n l y H) : CW P w0 Q n l (.cond c x y) H :=
 fun a w hf ha => wp_cond_split (hf.eval hc) (fun h => ht h a w hf ha) (fun h => he h a w hf ha)
theorem CW.condp {c : Operand} {x y : Code} {p : Prop} [Decidable p] (hc : opv l c = some (.bool (decide p))) (ht : p → CW P w0 Q n l x H) (he : ¬p → CW P w0 Q n l y H) : CW P w0 Q n l (.cond c x y) H :=
 CW.cond hc (fun h => ht (of_decide_eq_true h)) (fun h => he (of_decide_eq_false h))
theorem CW.cond_t {c : Operand} {x y : Code} (hc : opv l c = some (.bool true)) (ht : CW P w0 Q n l x H) : CW P w0 Q n l (.cond c x y) H :=
 CW.cond hc (fun _ => ht) (fun h => by cases h)
theorem CW.cond_f {c : Operand} {x y : Code} (hc : opv l c = some (.bool false)) (he : CW P w0 Q n l y H) : CW P w0 Q n l (.cond c x y) H :=
 CW.cond hc (fun h => by cases h) (fun _ => he)
theorem CW.block {id : Nat} {c : Code} (h : ∀ K : Exit → Act → World → Prop, (∀ l' H', QN w0 Q n l' H' → QN w0 K n l' H') → (∀ l' H', QN w0 Q n l' H' → QE w0 K (.exit id) n l' H') → (∀ e, e ≠ .normal → e ≠ .exit id → ∀ l' H', QE w0 Q e n l' H' → QE w0 K e n l' H') → CW P w0 K n l c H) : CW P w0 Q n l (.block id c) H := by
 intro a w hf ha; refine wp_block (h (Exit.inBlock id Q) (fun l' H' hy a' w' hf' ha' => hy a' w' hf' ha') (fun l' H' hy a' w' hf' ha' => ?_) ?_ a w hf ha)
 · show (if id = id then Q .normal a' w' else Q (.exit id) a' w'); rw [if_pos rfl]; exact hy a' w' hf' ha'
 · intro e he hi l' H' hq a' w' hf' ha'
   cases e with
   | normal => exact absurd rfl he
   | exit k =>
     show (if k = id then Q .normal a' w' else Q (.exit k) a' w')
     rw [if_neg (fun e => hi (by rw [e]))]; exact hq a' w' hf' ha'
   | goto k => exact hq a' w' hf' ha'
   | ret => exact hq a' w' hf' ha'
   | panic k => exact hq a' w' hf' ha'
   | outgrown => exact hq a' w' hf' ha'
theorem CW.loop {σ : Type} {c : Code} (fl : σ → FL) (I : σ → Heap → Prop) (μ : σ → Nat) (s0 : σ) (hl : Sub (fl s0) l) (h0 : I s0 H)
 (round : ∀ s H, I s H → ∀ K : Exit → Act → World → Prop, (∀ s' H', I s' H' → μ s' < μ s → QN w0 K n (fl s') H') → (∀ e, e ≠ .normal → ∀ l' H', QE w0 Q e n l' H' → QE w0 K e n l' H') → CW P w0 K n (fl s) c H) : CW P w0 Q n l (.loop c) H := by
 intro a w hf ha b k cs
 have key : ∀ N s H a w, μ s = N → I s H → Fr n (fl s) a → At w0 H w →
  ∃ e a' w', Q e a' w' ∧ Arrives P (lone (b.at a (.code c :: .inLoop c :: k)) cs w) b k cs e a' w' := by
  intro N
  induction N using Nat.strongRecOn with
  | _ N ih =>
    intro s H a w hN hI hfr hat
    have hr := round s H hI (Exit.then (fun a' w' => ∃ s' H', Fr n (fl s') a' ∧ At w0 H' w' ∧ I s' H' ∧ μ s' < μ s) Q)
     (fun s' H' hI' hlt a' w' hf' ha' => ⟨s', H', hf', ha', hI', hlt⟩) (fun e he l' H' hq a' w' hf' ha' => by have hq := hq a' w' hf' ha'; cases e <;> first | exact absurd rfl he | exact hq) a w hfr hat
    obtain ⟨e, a₁, w₁, hq, harr⟩ := hr b (.inLoop c :: k) cs
    cases e with
    | normal =>
      obtain ⟨s', H', hf', ha', hI', hlt⟩ := hq; obtain ⟨e₂, a₂, w₂, hq₂, harr₂⟩ := ih (μ s') (hN ▸ hlt) s' H' a₁ w₁ rfl hI' hf' ha'
      exact ⟨e₂, a₂, w₂, hq₂, .of_steps (Steps.trans harr (.one step_inLoop)) harr₂⟩
    | exit id => exact ⟨_, a₁, w₁, hq, .pass (x := .inLoop c) rfl (fun _ _ => .inl (by simp)) harr⟩
    | goto l => exact ⟨_, a₁, w₁, hq, .pass (x := .inLoop c) rfl (fun _ _ => .inl (by simp)) harr⟩
    | ret => exact ⟨_, a₁, w₁, hq, .pass (x := .inLoop c) rfl (fun _ _ => .inl (by simp)) harr⟩
    | panic ch => exact ⟨_, a₁, w₁, hq, .pass (x := .inLoop c) rfl (fun _ _ => .inl (by simp)) harr⟩
    | outgrown => exact ⟨_, a₁, w₁, hq, .pass (x := .inLoop c) rfl (fun _ _ => .inl (by simp)) harr⟩
 obtain ⟨e, a', w', hq, harr⟩ := key _ s0 H a w rfl h0 (hf.sub hl) ha; exact ⟨e, a', w', hq, .of_steps (.one step_loop) harr⟩
theorem CW.cut {σ : Type} {x y : Code} (fl : σ → FL) (I : σ → Heap → Prop)
 (h : ∀ K : Exit → Act → World → Prop, (∀ s H', I s H' → QN w0 K n (fl s) H') → (∀ e, e ≠ .normal → ∀ l' H', QE w0 Q e n l' H' → QE w0 K e n l' H') → CW P w0 K n l x H)
 (hy : ∀ s H', I s H' → CW P w0 Q n (fl s) y H') : CW P w0 Q n l (.seq x y) H := by
 intro a w hf ha; refine wp_seq (h (Exit.then (y.wp P Q) Q) (fun s H' hI a' w' hf' ha' => hy s H' hI a' w' hf' ha') ?_ a w hf ha); intro e he l' H' hq a' w' hf' ha'; have hq := hq a' w' hf' ha'; cases e <;> first | exact absurd rfl he | exact hq
end
def Ct (P : Program) (w0 : World) (f : FuncId) (args : Array Value) (H : Heap) (R : Value → Heap → Prop) : Prop :=
 ∀ w, At w0 H w → Calls P f args w (fun e w' => ∃ r H', e = .returned r ∧ At w0 H' w' ∧ R r H')
def RP (w0 : World) (R : Value → Heap → Prop) : Ending → World → Prop := fun e w' => ∃ r H', e = .returned r ∧ At w0 H' w' ∧ R r H'
def argL (args : List Value) (k : Nat) : FL := match args with
 | [] => []
 | v :: r => (k, v) :: argL r (k + 1)
theorem argL_get : ∀ (args : List Value) (k t : Nat) (v : Value), lk (argL args k) t = some v → k ≤ t ∧ args[t - k]? = some v
 | [], _, _, _, e => by simp [argL, lk] at e
 | x :: r, k, t, v, e => by
   simp only [argL, lk] at e
   cases hb : Nat.beq k t with
   | true =>
     have := Nat.eq_of_beq_eq_true hb; subst this; simp only [hb, Option.some.injEq] at e
     simp [e]
   | false =>
     simp only [hb] at e; obtain ⟨h1, h2⟩ := argL_get r (k + 1) t v e; refine ⟨by omega, ?_⟩; have : t - k = (t - (k + 1)) + 1 := by omega
     rw [this]; simpa using h2
theorem Ct.enter {P : Program} {w0 : World} {f : FuncId} {fn : Func} {c : Code} {args : List Value} {H : Heap} {R : Value → Heap → Prop} {n : Nat}
 (hf : P.funcs[f]? = some fn) (hb : fn.body = some c) (hn : fn.ntmps = n) (hk : Nat.ble args.length n = true)
 (h : ∀ Q : Exit → Act → World → Prop, (∀ e, (e = .normal ∨ e = .ret) → ∀ l H' v, (∀ a w, Fr n l a → At w0 H' w → (results fn a.tmps).run P w = .ok v w) → R v H' → QE w0 Q e n l H') → CW P w0 Q n (argL args 0) c H) :
 Ct P w0 f args.toArray H R := by
 intro w ha; have hk' : args.length ≤ n := Nat.le_of_ble_eq_true hk; refine calls_of_wp hf hb (h (bodyPost P fn (RP w0 R)) ?_ _ w ⟨rfl, ?_, ?_⟩ ha)
 · intro e he l H' v hv hR a w' hfr ha'
   rcases he with rfl | rfl <;> exact ⟨hfr.defers, v, hv a w' hfr ha', v, H', rfl, ha', hR⟩
 · simp [hn]; omega
 · intro t v e
   obtain ⟨_, h2⟩ := argL_get args 0 t v e; simp only [Nat.sub_zero] at h2; simp only; have hlt := (List.getElem?_eq_some_iff.1 h2).1; rw [Array.getElem?_append_left (by simpa using hlt)]
   simpa using h2
theorem res1 {P : Program} {w0 : World} {H : Heap} {fn : Func} {n t : Nat} {l : FL} {v : Value} (h : fn.results = #[.tmp t]) (e : lk l t = some v) : ∀ a w, Fr n l a → At w0 H w → (results fn a.tmps).run P w = .ok v w := by
 intro a w hf _; rw [results_tmp h]; simp [Array.getD_eq_getD_getElem?, hf.get t v e]
theorem res2 {P : Program} {w0 : World} {H : Heap} {fn : Func} {n t u : Nat} {l : FL} {v x : Value} (h : fn.results = #[.tmp t, .tmp u]) (e : lk l t = some v) (e2 : lk l u = some x) : ∀ a w, Fr n l a → At w0 H w → (results fn a.tmps).run P w = .ok (.tuple #[v, x]) w := by
 intro a w hf _; rw [results_tmp2 h]; simp [Array.getD_eq_getD_getElem?, hf.get t v e, hf.get u x e2]
theorem res0 {P : Program} {w0 : World} {H : Heap} {fn : Func} {n : Nat} {l : FL} (h : fn.results = #[]) : ∀ a w, Fr n l a → At w0 H w → (results fn a.tmps).run P w = .ok (.tuple #[]) w := by
 intro a w _ _; exact results_none h _ _ _
section
variable {P : Program} {w0 : World} {Q : Exit → Act → World → Prop} {n : Nat} {l : FL} {H : Heap} {ops : Array Oper} {rest : List Oper} {o : Oper} {m : Bool}
def Z (P : Program) (w0 : World) (n : Nat) (l : FL) (H : Heap) (o : Oper) (R : Value → Heap → Prop) : Prop :=
 ∀ a w, Fr n l a → At w0 H w → ∃ v H' w', (execOp a.eval o).run P w = .ok (.value v) w' ∧ At w0 H' w' ∧ R v H'
theorem LR.z {R : Value → Heap → Prop} {d : Nat} (hz : Z P w0 n l H o R) (hw : Wd ops l o) (hd : o.dst = some d) (hn : Nat.blt d n = true)
 (h : ∀ v H', R v H' → LR false P w0 ops Q n ((d, v) :: l) rest H') : LR false P w0 ops Q n l (o :: rest) H := by
 intro a w hf ha; obtain ⟨v, H', w', hr, ha', hR⟩ := hz a w hf ha; have hp := hf.put hn v; rw [← hd] at hp; have hh := h v H' hR _ w' hp ha'; simp only [Md] at hh ⊢; unfold wpList; rw [if_pos (hw n a hf)]; exact .inl (by unfold Oper.wp; rw [hr]; exact hh)
def S (P : Program) (w0 : World) (n : Nat) (l : FL) (H : Heap) (o : Oper) (R : Heap → Prop) : Prop :=
 ∀ a w, Fr n l a → At w0 H w → ∃ H' w', (execOp a.eval o).run P w = .ok .skip w' ∧ At w0 H' w' ∧ R H'
theorem LR.s {R : Heap → Prop} (hz : S P w0 n l H o R) (hw : Wd ops l o) (hd : o.dst = none)
 (h : ∀ H', R H' → LR false P w0 ops Q n l rest H') : LR false P w0 ops Q n l (o :: rest) H := by
 intro a w hf ha; obtain ⟨H', w', hr, ha', hR⟩ := hz a w hf ha; have hh := h H' hR a w' hf ha'; simp only [Md] at hh ⊢; unfold wpList; rw [if_pos (hw n a hf)]; refine .inl ?_; unfold Oper.wp; rw [hr]; show wpList P ops Q rest (a.put o.dst undef) w'; rw [hd]; exact hh
theorem run_call {ρ : Operand → Value} {f : FuncId} {args : Array Operand} {ats : Array TypeId} {w : World} (ho : o.op = .call { callee := .value (.func f), args := args, argTypes := ats }) (hρ : ρ (.func f) = .func (.func f) #[] #[])
 (hcall : ∀ (vs : Array Value) (w : World), (callFunc f vs).run P w = .ok (.enter f vs) w) : (execOp ρ o).run P w = .ok (.enter f (args.map ρ)) w := by
 simp [execOp, ho, resolve, Deferred.ofValue, hρ, invoke, hcall]
theorem LR.call {R : Value → Heap → Prop} {f d : Nat} {args : List Operand} {ats : Array TypeId} {vs : List Value} (ho : o.op = .call { callee := .value (.func f), args := args.toArray, argTypes := ats })
 (hcall : ∀ (vs : Array Value) (w : World), (callFunc f vs).run P w = .ok (.enter f vs) w) (hv : opvs l args = some vs) (hw : Wd ops l o) (hd : o.dst = some d) (hn : Nat.blt d n = true) (hc : Ct P w0 f vs.toArray H R)
 (h : ∀ v H', R v H' → LR false P w0 ops Q n ((d, v) :: l) rest H') : LR false P w0 ops Q n l (o :: rest) H := by
 intro a w hf ha; simp only [Md]; have hr := run_call (P := P) (ρ := a.eval) (w := w) ho rfl hcall; rw [List.map_toArray, hf.evals hv] at hr; unfold wpList; rw [if_pos (hw n a hf)]; refine .inl ?_; unfold Oper.wp; rw [hr]; show Calls P f vs.toArray w _; refine (hc w ha).mono ?_; rintro e w' ⟨r, H', rfl, ha', hR⟩; have hp := hf.put hn r; rw [← hd] at hp; exact h r H' hR _ w' hp ha'
end
theorem Ct.mono {P : Program} {w0 : World} {f : FuncId} {args : Array Value} {H : Heap} {R R' : Value → Heap → Prop} (h : Ct P w0 f args H R) (hr : ∀ v H', R v H' → R' v H') : Ct P w0 f args H R' :=
 fun w ha => (h w ha).mono fun _ _ ⟨r, H', he, ha', hR⟩ => ⟨r, H', he, ha', hr r H' hR⟩
end Go.Proofs.YtfbfjhppppoilaaGreatDoor.E

namespace Go.Proofs.YtfbfjhppppoilaaGreatDoor.E
def Str (l : List UInt8) : Value := .string ⟨l.toArray⟩
def cell (H : Heap) (a : Addr) : Option Value := match H[a.block]? with
 | some (.cells c _ _) => if a.spot.isSome then none else c[a.off]?
 | _ => none
theorem At.cell {w0 w : World} {H : Heap} (h : At w0 H w) (a : Addr) : w.cell? a = E.cell H a := by
 unfold World.cell? E.cell; rw [h.heap]; rfl
structure Pt (H : Heap) (ad : Addr) (cs : List Value) : Prop where
 spot : ad.spot = none
 cells : ∀ j c, cs[j]? = some c → cell H ⟨ad.block, ad.off + j, none⟩ = some c
theorem add_eq {ad : Addr} (h : ad.spot = none) (j : Nat) : ad.add j = ⟨ad.block, ad.off + j, none⟩ := by
 obtain ⟨b, o, s⟩ := ad; simp only at h; subst h; unfold Addr.add; split
 · subst_vars; rfl
 · rfl
theorem Pt.drop {H : Heap} {ad : Addr} {cs : List Value} (h : Pt H ad cs) (k : Nat) : Pt H (ad.add k) (cs.drop k) := by
 rw [add_eq h.spot]; refine ⟨rfl, fun j c e => ?_⟩; rw [List.getElem?_drop] at e; have := h.cells (k + j) c e
 simpa [Nat.add_assoc] using this
structure Rd {α : Type} (F : Nat → Prop) (H : Heap) (f : α → List Value) (sz : Nat) (v : Value) (l : List α) : Prop where
 ex : ∃ a cap, v = .slice a l.length cap ∧ l.length ≤ cap ∧ cap ≤ maxLen ∧ (l ≠ [] → ∃ ad : Addr, a = some ad ∧ ad.spot = none ∧ F ad.block ∧ ad.block < H.size ∧ ∀ i x, l[i]? = some x → Pt H ⟨ad.block, ad.off + i * sz, none⟩ (f x))
structure Mo (S : Nat → Prop) (H H' : Heap) : Prop where
 size : H.size ≤ H'.size
 same : ∀ b, b < H.size → ¬ S b → H'[b]? = H[b]?
theorem Mo.refl (S : Nat → Prop) (H : Heap) : Mo S H H := ⟨Nat.le_refl _, fun _ _ _ => rfl⟩
theorem Mo.trans {S T U : Nat → Prop} {H H1 H2 : Heap} (h : Mo S H H1) (k : Mo T H1 H2) (hs : ∀ b, b < H.size → S b → U b) (ht : ∀ b, b < H.size → T b → U b) : Mo U H H2 :=
 ⟨Nat.le_trans h.size k.size, fun b hb hu => (k.same b (Nat.lt_of_lt_of_le hb h.size) (fun e => hu (ht b hb e))).trans (h.same b hb (fun e => hu (hs b hb e)))⟩
theorem Mo.weaken {S U : Nat → Prop} {H H1 : Heap} (h : Mo S H H1) (hs : ∀ b, b < H.size → S b → U b) : Mo U H H1 := ⟨h.size, fun b hb hu => h.same b hb (fun e => hu (hs b hb e))⟩
theorem Mo.push (S : Nat → Prop) (H : Heap) (o : Obj) : Mo S H (H.push o) := ⟨by simp, fun b hb _ => by rw [Array.getElem?_push, if_neg (by omega)]⟩
abbrev Nw (H H' : Heap) : Prop := Mo (fun _ => False) H H'
theorem Nw.refl (H : Heap) : Nw H H := Mo.refl _ H
theorem Nw.tr {H H1 H2 : Heap} (h : Nw H H1) (k : Nw H1 H2) : Nw H H2 := Mo.trans h k (fun _ _ e => e) (fun _ _ e => e)
theorem Nw.pu (H : Heap) (o : Obj) : Nw H (H.push o) := Mo.push _ H o
theorem cell_same {H H' : Heap} {a : Addr} (h : H'[a.block]? = H[a.block]?) : cell H' a = cell H a := by unfold cell; rw [h]
theorem cell_lt {H : Heap} {a : Addr} {v : Value} (h : cell H a = some v) : a.block < H.size := by
 unfold cell at h
 cases hb : H[a.block]? with
 | none => simp [hb] at h
 | some o => exact (Array.getElem?_eq_some_iff.1 hb).1
theorem Pt.up {S : Nat → Prop} {H H' : Heap} {ad : Addr} {cs : List Value} (h : Pt H ad cs) (s : Mo S H H') (hS : ¬ S ad.block) : Pt H' ad cs :=
 ⟨h.spot, fun j c e => by
  have hc := h.cells j c e; have hlt : ad.block < H.size := cell_lt (a := ⟨ad.block, ad.off + j, none⟩) hc; exact (cell_same (a := ⟨ad.block, ad.off + j, none⟩) (s.same ad.block hlt hS)).trans hc⟩
theorem Pt.nw {H H' : Heap} {ad : Addr} {cs : List Value} (h : Pt H ad cs) (s : Nw H H') : Pt H' ad cs := h.up s (fun e => e)
section
variable {α : Type} {F : Nat → Prop} {H H' : Heap} {f : α → List Value} {sz : Nat} {v : Value} {l : List α}
theorem Rd.up {S : Nat → Prop} (h : Rd F H f sz v l) (s : Mo S H H') (hS : ∀ b, b < H.size → F b → ¬ S b) : Rd F H' f sz v l := by
 obtain ⟨a, cap, hv, h1, h2, h3⟩ := h.ex; refine ⟨a, cap, hv, h1, h2, fun hl => ?_⟩; obtain ⟨ad, e1, e2, e3, e4, e5⟩ := h3 hl; exact ⟨ad, e1, e2, e3, Nat.lt_of_lt_of_le e4 s.size, fun i x hx => (e5 i x hx).up s (hS _ e4 e3)⟩
theorem Rd.nw (h : Rd F H f sz v l) (s : Nw H H') : Rd F H' f sz v l := h.up s (fun _ _ _ e => e)
theorem Rd.imp {F' : Nat → Prop} (h : Rd F H f sz v l) (hF : ∀ b, b < H.size → F b → F' b) : Rd F' H f sz v l := by
 obtain ⟨a, cap, hv, h1, h2, h3⟩ := h.ex; refine ⟨a, cap, hv, h1, h2, fun hl => ?_⟩; obtain ⟨ad, e1, e2, e3, e4, e5⟩ := h3 hl; exact ⟨ad, e1, e2, hF _ e4 e3, e4, e5⟩
theorem Rd.len (h : Rd F H f sz v l) : l.length ≤ 9223372036854775807 := by
 obtain ⟨a, cap, hv, h1, h2, h3⟩ := h.ex; unfold maxLen at h2; omega
theorem Rd.nil (F : Nat → Prop) (H : Heap) (f : α → List Value) (sz : Nat) : Rd F H f sz (.slice none 0 0) [] := ⟨none, 0, rfl, Nat.le_refl _, Nat.zero_le _, fun h => absurd rfl h⟩
end
section
variable {P : Program} {w0 : World} {n : Nat} {l : FL} {H : Heap} {o : Oper}
theorem Y.move {x : Operand} {v : Value} (ho : o.op = .move x) (hx : opv l x = some v) : Y P w0 n l H o v := by
 intro a w hf ha; simp [execOp, ho, hf.eval hx]
theorem Y.assign {x : Operand} {v : Value} (ho : o.op = .assign x) (hx : opv l x = some v) : Y P w0 n l H o v := by
 intro a w hf ha; simp [execOp, ho, hf.eval hx]
theorem Y.pick_t {c x y : Operand} {v : Value} (ho : o.op = .pick c x y) (hc : opv l c = some (.bool true)) (hx : opv l x = some v) : Y P w0 n l H o v := by
 intro a w hf ha; simp [execOp, ho, hf.eval hx, hf.eval hc, asBool]
theorem Y.pick_f {c x y : Operand} {v : Value} (ho : o.op = .pick c x y) (hc : opv l c = some (.bool false)) (hx : opv l y = some v) : Y P w0 n l H o v := by
 intro a w hf ha; simp [execOp, ho, hf.eval hx, hf.eval hc, asBool]
theorem Y.extract {x : Operand} {k : Nat} {vs : Array Value} {v : Value} (ho : o.op = .extract x k) (hx : opv l x = some (.tuple vs)) (hv : vs[k]? = some v) : Y P w0 n l H o v := by
 intro a w hf ha; simp [execOp, ho, hf.eval hx, Instr.extract, hv]
theorem Y.nilCheck {x : Operand} {ad : Addr} (ho : o.op = .nilCheck x) (hx : opv l x = some (.pointer (some ad))) : Y P w0 n l H o (.pointer (some ad)) := by
 intro a w hf ha; simp [execOp, ho, hf.eval hx]
theorem Y.isT {p : Prop} [Decidable p] (h : Y P w0 n l H o (.bool (decide p))) (hp : p) : Y P w0 n l H o (.bool true) := by rwa [decide_eq_true hp] at h
theorem Y.isF {p : Prop} [Decidable p] (h : Y P w0 n l H o (.bool (decide p))) (hp : ¬p) : Y P w0 n l H o (.bool false) := by rwa [decide_eq_false hp] at h
theorem Y.add {x y : Operand} {t u : TypeId} {k : IntKind} {a b : Int} (ho : o.op = .binOp .add t x y u) (hx : opv l x = some (.int k a)) (hy : opv l y = some (.int k b)) : Y P w0 n l H o (.int k (k.wrap (a + b))) := by
 intro a w hf ha; simp [execOp, ho, hf.eval hx, hf.eval hy, binOp, Op.intArith, eqGuard]
theorem Y.sub {x y : Operand} {t u : TypeId} {k : IntKind} {a b : Int} (ho : o.op = .binOp .sub t x y u) (hx : opv l x = some (.int k a)) (hy : opv l y = some (.int k b)) : Y P w0 n l H o (.int k (k.wrap (a - b))) := by
 intro a w hf ha; simp [execOp, ho, hf.eval hx, hf.eval hy, binOp, Op.intArith, eqGuard]
theorem Y.mul {x y : Operand} {t u : TypeId} {k : IntKind} {a b : Int} (ho : o.op = .binOp .mul t x y u) (hx : opv l x = some (.int k a)) (hy : opv l y = some (.int k b)) : Y P w0 n l H o (.int k (k.wrap (a * b))) := by
 intro a w hf ha; simp [execOp, ho, hf.eval hx, hf.eval hy, binOp, Op.intArith, eqGuard]
theorem Y.addi {x y : Operand} {t u : TypeId} {a b : Int} (ho : o.op = .binOp .add t x y u) (hx : opv l x = some (.int .i64 a)) (hy : opv l y = some (.int .i64 b)) (hb : -9223372036854775808 ≤ a + b ∧ a + b ≤ 9223372036854775807) : Y P w0 n l H o (.int .i64 (a + b)) := by
 have h := Y.add (P := P) (w0 := w0) (n := n) (H := H) ho hx hy; rwa [IntWalk.i64_in _ hb] at h
theorem Y.subi {x y : Operand} {t u : TypeId} {a b : Int} (ho : o.op = .binOp .sub t x y u) (hx : opv l x = some (.int .i64 a)) (hy : opv l y = some (.int .i64 b)) (hb : -9223372036854775808 ≤ a - b ∧ a - b ≤ 9223372036854775807) : Y P w0 n l H o (.int .i64 (a - b)) := by
 have h := Y.sub (P := P) (w0 := w0) (n := n) (H := H) ho hx hy; rwa [IntWalk.i64_in _ hb] at h
theorem Y.muli {x y : Operand} {t u : TypeId} {a b : Int} (ho : o.op = .binOp .mul t x y u) (hx : opv l x = some (.int .i64 a)) (hy : opv l y = some (.int .i64 b)) (hb : -9223372036854775808 ≤ a * b ∧ a * b ≤ 9223372036854775807) : Y P w0 n l H o (.int .i64 (a * b)) := by
 have h := Y.mul (P := P) (w0 := w0) (n := n) (H := H) ho hx hy; rwa [IntWalk.i64_in _ hb] at h
theorem Y.rem {x y : Operand} {t u : TypeId} {k : IntKind} {a b : Int} (ho : o.op = .binOp .rem t x y u) (hx : opv l x = some (.int k a)) (hy : opv l y = some (.int k b)) (hb : b ≠ 0) : Y P w0 n l H o (.int k (a.tmod b)) := by
 intro a w hf ha; simp [execOp, ho, hf.eval hx, hf.eval hy, binOp, Op.intDiv, eqGuard, hb]
theorem Y.lss {x y : Operand} {t u : TypeId} {k : IntKind} {a b : Int} (ho : o.op = .binOp .lss t x y u) (hx : opv l x = some (.int k a)) (hy : opv l y = some (.int k b)) : Y P w0 n l H o (.bool (decide (a < b))) := by
 intro a w hf ha; simp [execOp, ho, hf.eval hx, hf.eval hy, binOp, Op.intCmp, eqGuard]
theorem Y.leq {x y : Operand} {t u : TypeId} {k : IntKind} {a b : Int} (ho : o.op = .binOp .leq t x y u) (hx : opv l x = some (.int k a)) (hy : opv l y = some (.int k b)) : Y P w0 n l H o (.bool (decide (a ≤ b))) := by
 intro a w hf ha; simp [execOp, ho, hf.eval hx, hf.eval hy, binOp, Op.intCmp, eqGuard]
theorem Y.gtr {x y : Operand} {t u : TypeId} {k : IntKind} {a b : Int} (ho : o.op = .binOp .gtr t x y u) (hx : opv l x = some (.int k a)) (hy : opv l y = some (.int k b)) : Y P w0 n l H o (.bool (decide (b < a))) := by
 intro a w hf ha; simp [execOp, ho, hf.eval hx, hf.eval hy, binOp, Op.intCmp, eqGuard]
theorem Y.geq {x y : Operand} {t u : TypeId} {k : IntKind} {a b : Int} (ho : o.op = .binOp .geq t x y u) (hx : opv l x = some (.int k a)) (hy : opv l y = some (.int k b)) : Y P w0 n l H o (.bool (decide (b ≤ a))) := by
 intro a w hf ha; simp [execOp, ho, hf.eval hx, hf.eval hy, binOp, Op.intCmp, eqGuard]
theorem beq_dec (a b : Int) : (a == b) = decide (a = b) := by by_cases h : a = b <;> simp [h]
theorem bne_dec (a b : Int) : (a != b) = decide (a ≠ b) := by by_cases h : a = b <;> simp [h]
theorem Y.eql {x y : Operand} {t u : TypeId} {k : IntKind} {a b : Int} (ho : o.op = .binOp .eql t x y u) (hx : opv l x = some (.int k a)) (hy : opv l y = some (.int k b)) : Y P w0 n l H o (.bool (decide (a = b))) := by
 intro ac w hf ha; rw [← beq_dec]; simp [execOp, ho, hf.eval hx, hf.eval hy, binOp, Op.intCmp, eqGuard]
theorem Y.neq {x y : Operand} {t u : TypeId} {k : IntKind} {a b : Int} (ho : o.op = .binOp .neq t x y u) (hx : opv l x = some (.int k a)) (hy : opv l y = some (.int k b)) : Y P w0 n l H o (.bool (decide (a ≠ b))) := by
 intro ac w hf ha; rw [← bne_dec]; simp [execOp, ho, hf.eval hx, hf.eval hy, binOp, Op.intCmp, eqGuard]
theorem Y.not {x : Operand} {t : TypeId} {b : Bool} (ho : o.op = .unOp .not t x) (hx : opv l x = some (.bool b)) : Y P w0 n l H o (.bool (!b)) := by
 intro ac w hf ha; simp [execOp, ho, hf.eval hx, Op.unary]
theorem Y.notp {x : Operand} {t : TypeId} {p : Prop} [Decidable p] (ho : o.op = .unOp .not t x) (hx : opv l x = some (.bool (decide p))) : Y P w0 n l H o (.bool (decide (¬ p))) := by
 intro ac w hf ha; simp [execOp, ho, hf.eval hx, Op.unary]
theorem Y.maxi {x y : Operand} {ts : Array TypeId} {k : IntKind} {a b : Int} (ho : o.op = .call { callee := .builtin .max, args := #[x, y], argTypes := ts }) (hx : opv l x = some (.int k a)) (hy : opv l y = some (.int k b)) : Y P w0 n l H o (.int k (Max.max a b)) := by
 intro ac w hf ha
 have : (if b > a then b else a) = Max.max a b := by
  by_cases h : b > a
  · rw [if_pos h]; omega
  · rw [if_neg h]; omega
 simp [execOp, ho, hf.eval hx, hf.eval hy, resolve, invoke, builtin, Builtin.max_, Builtin.max2, ← this]
theorem Y.mini {x y : Operand} {ts : Array TypeId} {k : IntKind} {a b : Int} (ho : o.op = .call { callee := .builtin .min, args := #[x, y], argTypes := ts }) (hx : opv l x = some (.int k a)) (hy : opv l y = some (.int k b)) : Y P w0 n l H o (.int k (Min.min a b)) := by
 intro ac w hf ha
 have : (if b < a then b else a) = Min.min a b := by
  by_cases h : b < a
  · rw [if_pos h]; omega
  · rw [if_neg h]; omega
 simp [execOp, ho, hf.eval hx, hf.eval hy, resolve, invoke, builtin, Builtin.min_, Builtin.min2, ← this]
theorem iv {k : IntKind} {a b : Int} (h : a = b) : some (Value.int k a) = some (.int k b) := by rw [h]
theorem ivv {k : IntKind} {a b : Int} (h : a = b) : Value.int k a = .int k b := by rw [h]
theorem Y.seql {x y : Operand} {t u : TypeId} {a b : List UInt8} (ho : o.op = .binOp .eql t x y u) (hx : opv l x = some (Str a)) (hy : opv l y = some (Str b)) : Y P w0 n l H o (.bool (decide (a = b))) := by
 intro ac w hf ha; have h : (a == b) = decide (a = b) := by by_cases h : a = b <;> simp [h]
 simp [execOp, ho, hf.eval hx, hf.eval hy, binOp, Op.stringOp, eqGuard, Str, h]
theorem Y.sneq {x y : Operand} {t u : TypeId} {a b : List UInt8} (ho : o.op = .binOp .neq t x y u) (hx : opv l x = some (Str a)) (hy : opv l y = some (Str b)) : Y P w0 n l H o (.bool (decide (a ≠ b))) := by
 intro ac w hf ha; have h : (a == b) = decide (a = b) := by by_cases h : a = b <;> simp [h]
 simp [execOp, ho, hf.eval hx, hf.eval hy, binOp, Op.stringOp, eqGuard, Str, h]
theorem Y.slss {x y : Operand} {t u : TypeId} {a b : List UInt8} (ho : o.op = .binOp .lss t x y u) (hx : opv l x = some (Str a)) (hy : opv l y = some (Str b)) : Y P w0 n l H o (.bool (Op.bytesLess a b)) := by
 intro ac w hf ha; have e1 := ByteArray.toList_eq (ByteArray.mk a.toArray); have e2 := ByteArray.toList_eq (ByteArray.mk b.toArray); simp only at e1 e2; simp [execOp, ho, hf.eval hx, hf.eval hy, binOp, Op.stringOp, eqGuard, Str, e1, e2]
theorem str_size (a : List UInt8) : (ByteArray.mk a.toArray).size = a.length := by simp [ByteArray.size]
theorem Y.slen {x : Operand} {t : TypeId} {s : List UInt8} (ho : o.op = .call { callee := .builtin .len, args := #[x], argTypes := #[t] }) (ht : ∀ w, (underlying t).run P w = .ok .string w) (hx : opv l x = some (Str s)) : Y P w0 n l H o (.int .i64 s.length) := by
 have hsz := str_size s; intro ac w hf ha; simp [execOp, ho, hf.eval hx, resolve, invoke, builtin, Builtin.len_, ht, goInt, Str, hsz]
theorem Y.sindex {x i : Operand} {t : TypeId} {s : List UInt8} {k : IntKind} {iv : Int} (j : Nat) (ho : o.op = .index t x i) (ht : ∀ w, (underlying t).run P w = .ok .string w) (hx : opv l x = some (Str s)) (hi : opv l i = some (.int k iv)) (hj : iv = j) (hlt : j < s.length) : Y P w0 n l H o (.int .u8 (s[j]'hlt).toNat) := by
 intro ac w hf ha; subst hj
 have hs : (ByteArray.mk s.toArray)[j]? = some (s[j]'hlt) := by
  have hh : j < (ByteArray.mk s.toArray).size := by rw [str_size]; exact hlt
  rw [getElem?_pos _ j hh]; simp [ByteArray.getElem_eq_getElem_data]
 simp [execOp, ho, hf.eval hx, hf.eval hi, Instr.index, asIntOf, ht, hs, Str]
theorem Y.sslice {x : Operand} {lo hi : Option Operand} {t : TypeId} {s : List UInt8} (i j : Nat) (ho : o.op = .slice t x lo hi none) (ht : ∀ w, (underlying t).run P w = .ok .string w) (hx : opv l x = some (Str s))
 (hlo : lo = none ∧ i = 0 ∨ ∃ p k iv, lo = some p ∧ opv l p = some (.int k iv) ∧ iv = (i : Int)) (hhi : hi = none ∧ j = s.length ∨ ∃ p k iv, hi = some p ∧ opv l p = some (.int k iv) ∧ iv = (j : Int)) (hij : i ≤ j) (hj : j ≤ s.length) : Y P w0 n l H o (Str ((s.take j).drop i)) := by
 intro ac w hf ha
 have e1 : ∀ w, (Instr.sliceBounds false s.length s.length (lo.map ac.eval) (hi.map ac.eval) none).run P w = .ok (i, j, s.length) w := by
  intro w
  rcases hlo with ⟨rfl, rfl⟩ | ⟨p, k, iv, rfl, h1, rfl⟩ <;> rcases hhi with ⟨rfl, rfl⟩ | ⟨p2, k2, iv2, rfl, h3, rfl⟩ <;>
   simp [Instr.sliceBounds, Instr.sliceBound, asIntOf, hf.eval, *]
 have hu : ∀ w, (underlying t).run P w = .ok .string w := ht; have hsz : (ByteArray.mk s.toArray).size = s.length := str_size s
 have hex : (ByteArray.mk s.toArray).extract i j = ByteArray.mk ((s.take j).drop i).toArray := by
  apply ByteArray.ext; simp [ByteArray.data_extract, List.extract_toArray, List.extract_eq_take_drop, List.drop_take]
 simp [execOp, ho, hf.eval hx, Instr.sliceAt, Instr.slice, hu, Str, hsz, e1, hex]
section
variable {α : Type} {F : Nat → Prop} {f : α → List Value} {sz : Nat} {v : Value} {xs : List α}
theorem Y.len {x : Operand} {t e : TypeId} (h : Rd F H f sz v xs) (ho : o.op = .call { callee := .builtin .len, args := #[x], argTypes := #[t] }) (ht : ∀ w, (underlying t).run P w = .ok (.slice e) w) (hx : opv l x = some v) : Y P w0 n l H o (.int .i64 xs.length) := by
 obtain ⟨a, cap, rfl, _⟩ := h.ex; intro ac w hf ha; simp [execOp, ho, hf.eval hx, resolve, invoke, builtin, Builtin.len_, ht, goInt]
theorem Y.indexAddr {x i : Operand} {t e : TypeId} {k : IntKind} {iv : Int} (h : Rd F H f sz v xs) (j : Nat) (ho : o.op = .indexAddr t x i) (ht : ∀ w, (underlying t).run P w = .ok (.slice e) w) (hs : ∀ w, (sizeOf e).run P w = .ok sz w)
 (hx : opv l x = some v) (hi : opv l i = some (.int k iv)) (hj : iv = j) (hlt : j < xs.length) : ∃ ad, (∀ H', Y P w0 n l H' o (.pointer (some ad))) ∧ Pt H ad (f xs[j]) := by
 obtain ⟨a, cap, rfl, h1, h2, h3⟩ := h.ex; obtain ⟨ad, rfl, e2, e3, e4, e5⟩ := h3 (by intro e; subst e; simp at hlt); subst hj; refine ⟨_, ?_, e5 j xs[j] (by simp [hlt])⟩; intro H' ac w hf ha; simp [execOp, ho, hf.eval hx, hf.eval hi, Instr.indexAt, asIntOf, ht, hs, hlt, add_eq e2]
theorem Y.load1 {x : Operand} {t : TypeId} {ad : Addr} {c : Value} {cs : List Value} (h : Pt H ad (c :: cs)) (ho : o.op = .load t x) (ht : ∀ w, (isAgg t).run P w = .ok false w) (hx : opv l x = some (.pointer (some ad))) : Y P w0 n l H o c := by
 intro ac w hf ha; have hc := h.cells 0 c (by simp); have : ({ block := ad.block, off := ad.off + 0, spot := none } : Addr) = ad := by have := h.spot; obtain ⟨b, off, s⟩ := ad; simp_all
 rw [this, ← ha.cell] at hc; simp [execOp, ho, hf.eval hx, Instr.loadAt, Instr.sureAddr, loadVar, ht, load, Sem.run, hc]
theorem run_loadCellsFrom {P : Program} {w : World} {ad : Addr} (hs : ad.spot = none) : ∀ (k i : Nat) (cs : List Value) (acc : Array Value), cs.length = k → (∀ j c, cs[j]? = some c → w.cell? ⟨ad.block, ad.off + (i + j), none⟩ = some c) →
 (loadCellsFrom ad i k acc).run P w = .ok (acc ++ cs.toArray) w
 | 0, i, cs, acc, hk, _ => by
   have : cs = [] := List.eq_nil_of_length_eq_zero hk
   subst this; simp [loadCellsFrom]
 | k + 1, i, cs, acc, hk, h => by
   match cs, hk with
   | c :: cs, hk =>
     have h0 := h 0 c (by simp); have := run_loadCellsFrom (P := P) (w := w) hs k (i + 1) cs (acc.push c) (by simpa using hk) (fun j c' e => by have := h (j + 1) c' (by simpa using e); rwa [show i + (j + 1) = i + 1 + j by omega] at this); simp only [Nat.add_zero] at h0; simp [loadCellsFrom, load, Sem.run, add_eq hs, h0, this]
theorem Y.loadN {x : Operand} {t : TypeId} {ad : Addr} {cs : List Value} {k : Nat} (h : Pt H ad cs) (ho : o.op = .load t x) (ht : ∀ w, (isAgg t).run P w = .ok true w) (hs : ∀ w, (sizeOf t).run P w = .ok k w) (hk : cs.length = k) (hx : opv l x = some (.pointer (some ad))) : Y P w0 n l H o (.agg cs.toArray) := by
 intro ac w hf ha; have := run_loadCellsFrom (P := P) (w := w) h.spot k 0 cs #[] hk (fun j c e => by rw [ha.cell]; simpa using h.cells j c e); simp [execOp, ho, hf.eval hx, Instr.loadAt, Instr.sureAddr, loadVar, ht, hs, loadCells, this]
theorem Y.fieldAddr {x : Operand} {s : TypeId} {k off sz2 : Nat} {ad : Addr} {cs : List Value} {fs : Array Field} {fd : Field} (h : Pt H ad cs) (ho : o.op = .fieldAddr s x k) (hu : ∀ w, (underlying s).run P w = .ok (.struct fs) w) (hk : fs[k]? = some fd) (hof : fd.offset = off)
 (hsz : ∀ w, (sizeOf fd.type).run P w = .ok sz2 w) (hz : sz2 ≠ 0) (hx : opv l x = some (.pointer (some ad))) : Y P w0 n l H o (.pointer (some (ad.add off))) := by
 intro ac w hf ha; have _h := h; simp [execOp, ho, hf.eval hx, Instr.fieldAt, Instr.sureAddr, fieldPlace, hu, hk, hof, hsz, hz]
theorem Y.slice {x : Operand} {lo hi : Option Operand} {t e : TypeId} (h : Rd F H f sz v xs) (i j : Nat) (ho : o.op = .slice t x lo hi none) (ht : ∀ w, (underlying t).run P w = .ok (.slice e) w) (hs : ∀ w, (sizeOf e).run P w = .ok sz w) (hx : opv l x = some v)
 (hlo : lo = none ∧ i = 0 ∨ ∃ p k iv, lo = some p ∧ opv l p = some (.int k iv) ∧ iv = (i : Int)) (hhi : hi = none ∧ j = xs.length ∨ ∃ p k iv, hi = some p ∧ opv l p = some (.int k iv) ∧ iv = (j : Int)) (hij : i ≤ j) (hj : j ≤ xs.length) :
 ∃ v', (∀ H', Y P w0 n l H' o v') ∧ Rd F H f sz v' ((xs.take j).drop i) := by
 obtain ⟨a, cap, rfl, h1, h2, h3⟩ := h.ex; refine ⟨.slice (if cap = i then a else a.map (·.add (i * sz))) (j - i) (cap - i), ?_, ?_⟩
 · intro H' ac w hf ha
   have e1 : ∀ w, (Instr.sliceBounds true xs.length cap (lo.map ac.eval) (hi.map ac.eval) none).run P w = .ok (i, j, cap) w := by
    intro w; have b2 : j ≤ cap := by omega
    rcases hlo with ⟨rfl, rfl⟩ | ⟨p, k, iv, rfl, h1, rfl⟩ <;> rcases hhi with ⟨rfl, rfl⟩ | ⟨p2, k2, iv2, rfl, h3, rfl⟩ <;>
     simp [Instr.sliceBounds, Instr.sliceBound, asIntOf, hf.eval, *]
   have hu : ∀ w, (underlying t).run P w = .ok (.slice e) w := ht; simp [execOp, ho, hf.eval hx, Instr.sliceAt, Instr.slice, hu, hs, e1]
 · have hlen : ((xs.take j).drop i).length = j - i := by simp; omega
   refine ⟨_, _, by rw [hlen], by rw [hlen]; omega, by omega, fun hne => ?_⟩
   have hji : i < j := by
    apply Decidable.byContradiction; intro hc; exact hne (List.eq_nil_of_length_eq_zero (by rw [hlen]; omega))
   obtain ⟨ad, rfl, e2, e3, e4, e5⟩ := h3 (by intro e; subst e; simp at hj; omega); rw [if_neg (by omega)]; refine ⟨ad.add (i * sz), rfl, by rw [add_eq e2], by rw [add_eq e2]; exact e3, by rw [add_eq e2]; exact e4, fun q y hy => ?_⟩; rw [add_eq e2]; rw [List.getElem?_drop, List.getElem?_take] at hy; split at hy
   · have := e5 (i + q) y hy
     simpa [Nat.add_mul, Nat.add_assoc] using this
   · cases hy
end
end
end Go.Proofs.YtfbfjhppppoilaaGreatDoor.E

namespace Go.Proofs.YtfbfjhppppoilaaGreatDoor.E
section
variable {P : Program} {ops : Array Oper} {md : Region.Mode} {Q : Exit → Act → World → Prop} {S : World → Prop} {X : List Nat}
def wpAnyE (P : Program) (md : Region.Mode) (ops : Array Oper) (Q : Exit → Act → World → Prop) (S : World → Prop) (X : List Nat) : Nat → Array Bool → Act → World → Prop
 | 0, listed, a, w => Region.ready md ops listed = [] ∧ Q .normal a w
 | fuel + 1, listed, a, w =>
   (Region.ready md ops listed = [] → Q .normal a w) ∧
   ∀ i ∈ Region.ready md ops listed, wpOp P ops Q i (fun a' w' => (X.contains i = true ∨ S w') ∧ wpAnyE P md ops Q S X fuel (listed.setIfInBounds i true) a' w') a w
theorem wpAny_of_E : ∀ (fuel : Nat) (listed : Array Bool) (a : Act) (w : World), wpAnyE P md ops Q S X fuel listed a w → wpAny P md ops Q fuel listed a w
 | 0, _, _, _, h => h
 | fuel + 1, _, _, _, h => ⟨h.1, fun i hi => wpOp_mono (fun a' w' h' => wpAny_of_E fuel _ a' w' h'.2) (h.2 i hi)⟩
theorem wpAnyE_first {i : Nat} {oi : Oper} {v : Value} (hi : ops[i]? = some oi) (hsel : ∀ (j : Nat) (o : Oper) cs b, ops[j]? = some o → o.op ≠ .select cs b)
 (hQ : ∀ c a w, Q (.panic c) (a.put oi.dst v) w → Q (.panic c) a w) (hX : ∀ j, X.contains j = true → j = i ∨ Region.waitsFor md ops j i = true) :
 ∀ (fuel : Nat) (listed : Array Bool) (a : Act) (w : World),
  (∀ j oj, ops[j]? = some oj → j ≠ i → listed.getD j true = false → (∀ e ∈ oj.after, Region.binds md e = true → e.on ≠ i) → oi.apart ops oj = true) →
  i ∈ Region.ready md ops listed → YieldsIf P ops S oi v a → S w →
  wpAnyE P md ops Q S X fuel (listed.setIfInBounds i true) (a.put oi.dst v) w → wpAnyE P md ops Q S X (fuel + 1) listed a w := by
 intro fuel
 induction fuel with
 | zero =>
   intro listed a w _ hr hy hS H; refine ⟨fun h => (by rw [h] at hr; cases hr), fun j hj => ?_⟩; by_cases hji : j = i
   · subst hji; exact hy.wpOp hi hS ⟨.inr hS, H⟩
   · have := ready_mono hj hji
     rw [H.1] at this
     cases this
 | succ fuel ih =>
   intro listed a w hfree hr hy hS H; refine ⟨fun h => (by rw [h] at hr; cases hr), fun j hj => ?_⟩; by_cases hji : j = i
   · subst hji; exact hy.wpOp hi hS ⟨.inr hS, H⟩
   · have h1 := H.2 j (ready_mono hj hji)
     obtain ⟨hjun, oj, hoj, hall⟩ := mem_ready.1 hj
     have hnot : ∀ e ∈ oj.after, Region.binds md e = true → e.on ≠ i := fun e he hb heq => by
      have h1 := hall e he hb; have h0 := (mem_ready.1 hr).1; rw [heq] at h1; rcases Nat.lt_or_ge i listed.size with h' | h'
      · simp [h'] at h0 h1; rw [h0] at h1; cases h1
      · simp [Array.getElem?_eq_none h'] at h1
     have hjX : ¬ X.contains j = true := fun hc => by
      rcases hX j hc with h | h
      · exact hji h
      · obtain ⟨oj', hoj', e, he, hb, hon⟩ := Region.waitsFor_spec h
        have : oj' = oj := Option.some.inj (hoj'.symm.trans hoj); subst this; exact hnot e he hb hon
     have h2 := wpOp_putIf hoj (hfree j oj hoj hji hjun hnot) (fun cs b => hsel i oi cs b hi) (fun cs b => hsel j oj cs b hoj) hQ hy h1
     have hfree' : ∀ k ok, ops[k]? = some ok → k ≠ i → (listed.setIfInBounds j true).getD k true = false →
      (∀ e ∈ ok.after, Region.binds md e = true → e.on ≠ i) → oi.apart ops ok = true := fun k ok hk hki hun hno => by
      refine hfree k ok hk hki ?_ hno; by_cases hjk : j = k
      · subst hjk; exact hjun
      · rw [getD_set_ne true hjk] at hun; exact hun
     refine wpOp_mono (fun a' w' h3 => ?_) h2; have hS' : S w' := h3.2.1.resolve_left hjX; refine ⟨.inr hS', ih (listed.setIfInBounds j true) a' w' hfree' (ready_mono hr (Ne.symm hji)) h3.1 hS' ?_⟩; rw [Array.setIfInBounds_comm _ _ hji]; exact h3.2.2
theorem wpAnyE_take {i : Nat} {oi : Oper} {v : Value} {fuel : Nat} {listed : Array Bool} {a : Act} {w : World} (hX : X.all (fun j => Nat.beq j i || Region.waitsFor md ops j i) = true) (hi : ops[i]? = some oi)
 (hs : Region.noSelect ops = true) (hf : Region.free md ops listed i = true) (hr : (Region.ready md ops listed).contains i = true)
 (hQ : ∀ c a w, Q (.panic c) (a.put oi.dst v) w → Q (.panic c) a w) (hy : YieldsIf P ops S oi v a) (hS : S w)
 (h : wpAnyE P md ops Q S X fuel (listed.setIfInBounds i true) (a.put oi.dst v) w) : wpAnyE P md ops Q S X (fuel + 1) listed a w :=
 wpAnyE_first hi (Region.noSelect_spec hs) hQ (fun j hj => by
  have := List.all_eq_true.1 hX j (by simpa using hj); rw [Bool.or_eq_true] at this; exact this.imp Nat.eq_of_beq_eq_true id) fuel listed a w (Region.free_spec hi hf) (by simpa using hr) hy hS h
theorem wpAnyE_all {rs : List Nat} {fuel : Nat} {listed : Array Bool} {a : Act} {w : World} (hr : Region.ready md ops listed = rs) (hne : rs ≠ [])
 (h : ∀ i ∈ rs, wpOp P ops Q i (fun a' w' => (X.contains i = true ∨ S w') ∧ wpAnyE P md ops Q S X fuel (listed.setIfInBounds i true) a' w') a w) : wpAnyE P md ops Q S X (fuel + 1) listed a w :=
 ⟨fun h0 => absurd (hr ▸ h0) hne, hr ▸ h⟩
theorem wpAnyE_done {listed : Array Bool} {a : Act} {w : World} (hr : Region.ready md ops listed = []) (h : Q .normal a w) : ∀ fuel, wpAnyE P md ops Q S X fuel listed a w
 | 0 => ⟨hr, h⟩
 | _ + 1 => ⟨fun _ => h, by rw [hr]; simp⟩
end
def lst (n : Nat) (dn : List Nat) : Array Bool := dn.foldr (fun i a => a.setIfInBounds i true) (Array.replicate n false)
def LH (P : Program) (w0 : World) (ops : Array Oper) (Q : Exit → Act → World → Prop) (SH : Heap → Prop) (X : List Nat) (n k : Nat) (dn : List Nat) (l : FL) (H : Heap) : Prop :=
 ∀ a w, Fr n l a → At w0 H w → wpAnyE P .any ops (NoPanic Q) (fun w' => ∃ H', At w0 H' w' ∧ SH H') X k (lst ops.size dn) a w
def LO (P : Program) (w0 : World) (ops : Array Oper) (Q : Exit → Act → World → Prop) (SH : Heap → Prop) (X : List Nat) (n k i : Nat) (dn : List Nat) (l : FL) (H : Heap) : Prop :=
 ∀ a w, Fr n l a → At w0 H w → wpOp P ops (NoPanic Q) i (fun a' w' => (X.contains i = true ∨ ∃ H', At w0 H' w' ∧ SH H') ∧ wpAnyE P .any ops (NoPanic Q) (fun w' => ∃ H', At w0 H' w' ∧ SH H') X k (lst ops.size (i :: dn)) a' w') a w
section
variable {P : Program} {w0 : World} {Q : Exit → Act → World → Prop} {n k i : Nat} {dn : List Nat} {l : FL} {H : Heap} {ops : Array Oper} {o : Oper} {SH : Heap → Prop} {X : List Nat}
theorem CW.region_any {id : Nat} {lo : List Oper} (SH : Heap → Prop) (X : List Nat) (hm : P.follows .mixedOrders = true) (h : LH P w0 lo.toArray Q SH X n lo.length [] l H) : CW P w0 Q n l (.region id lo.toArray true) H := by
 intro a w hf ha; refine wp_region_noPanic (wp_region_any hm (wpAny_of_E (S := fun w' => ∃ H', At w0 H' w' ∧ SH H') (X := X) _ _ _ _ ?_)); have := h a _ hf ha.drew
 simpa [lst] using this
theorem LH.take {v : Value} {d : Nat} (i : Nat) (hX : X.all (fun j => Nat.beq j i || Region.waitsFor .any ops j i) = true) (hi : ops[i]? = some o) (hs : Region.noSelect ops = true) (hfr : Region.free .any ops (lst ops.size dn) i = true) (hr : (Region.ready .any ops (lst ops.size dn)).contains i = true)
 (hy : ∀ H', SH H' → Y P w0 n l H' o v) (hw : Wd ops l o) (hd : o.dst = some d) (hn : Nat.blt d n = true) (hS : SH H) (h : LH P w0 ops Q SH X n k (i :: dn) ((d, v) :: l) H) : LH P w0 ops Q SH X n (k + 1) dn l H := by
 intro a w hf ha; have hp := hf.put hn v; rw [← hd] at hp; exact wpAnyE_take hX hi hs hfr hr (fun _ _ _ h => h) (.inl ⟨hw n a hf, fun w' ⟨H', ha', hS'⟩ => hy H' hS' a w' hf ha'⟩) ⟨H, ha, hS⟩ (h _ w hp ha)
theorem LH.e {α : Type} {g : α → Value} {φ : α → Prop} {d : Nat} (i : Nat) (hX : X.all (fun j => Nat.beq j i || Region.waitsFor .any ops j i) = true) (hi : ops[i]? = some o) (hs : Region.noSelect ops = true) (hfr : Region.free .any ops (lst ops.size dn) i = true) (hr : (Region.ready .any ops (lst ops.size dn)).contains i = true)
 (hy : ∃ x, (∀ H', Y P w0 n l H' o (g x)) ∧ φ x) (hw : Wd ops l o) (hd : o.dst = some d) (hn : Nat.blt d n = true) (hS : SH H) (h : ∀ x, φ x → LH P w0 ops Q SH X n k (i :: dn) ((d, g x) :: l) H) : LH P w0 ops Q SH X n (k + 1) dn l H :=
 let ⟨x, h1, h2⟩ := hy
 LH.take i hX hi hs hfr hr (fun H' _ => h1 H') hw hd hn hS (h x h2)
theorem wpAnyE_narrow {md : Region.Mode} {Q : Exit → Act → World → Prop} {S S2 : World → Prop} (hS : ∀ w, S2 w → S w) : ∀ (fuel : Nat) (listed : Array Bool) (a : Act) (w : World), wpAnyE P md ops Q S2 X fuel listed a w → wpAnyE P md ops Q S X fuel listed a w
 | 0, _, _, _, h => h
 | fuel + 1, _, _, _, h => ⟨h.1, fun i hi => wpOp_mono (fun a' w' h' => ⟨h'.1.imp id (hS w'), wpAnyE_narrow hS fuel _ a' w' h'.2⟩) (h.2 i hi)⟩
theorem LH.narrow {SH2 : Heap → Prop} (hS : ∀ H', SH2 H' → SH H') (h : LH P w0 ops Q SH2 X n k dn l H) : LH P w0 ops Q SH X n k dn l H :=
 fun a w hf ha => wpAnyE_narrow (fun _ ⟨H', h1, h2⟩ => ⟨H', h1, hS H' h2⟩) _ _ _ _ (h a w hf ha)
theorem LH.done (hr : Region.ready .any ops (lst ops.size dn) = []) (h : QN w0 Q n l H) : LH P w0 ops Q SH X n k dn l H :=
 fun a w hf ha => wpAnyE_done (Q := NoPanic Q) hr (NoPanic.normal (h a w hf ha)) _
theorem LH.one {i : Nat} (hr : Region.ready .any ops (lst ops.size dn) = [i]) (h : LO P w0 ops Q SH X n k i dn l H) : LH P w0 ops Q SH X n (k + 1) dn l H :=
 fun a w hf ha => wpAnyE_all hr (by simp) (fun j hj => by
  simp only [List.mem_singleton] at hj; subst hj; exact h a w hf ha)
theorem LO.z {R : Value → Heap → Prop} {d : Nat} (hi : ops[i]? = some o) (hz : Z P w0 n l H o R) (hw : Wd ops l o) (hd : o.dst = some d) (hn : Nat.blt d n = true)
 (h : ∀ v H', R v H' → (X.contains i = true ∨ SH H') ∧ LH P w0 ops Q SH X n k (i :: dn) ((d, v) :: l) H') : LO P w0 ops Q SH X n k i dn l H := by
 intro a w hf ha; obtain ⟨v, H', w', hr, ha', hR⟩ := hz a w hf ha; obtain ⟨h1, h2⟩ := h v H' hR; have hp := hf.put hn v; rw [← hd] at hp; unfold wpOp; simp only [hi]; rw [if_pos (hw n a hf)]; refine .inl ?_; unfold Oper.wp; rw [hr]; exact ⟨h1.imp id (fun h1 => ⟨H', ha', h1⟩), h2 _ w' hp ha'⟩
theorem LO.v {v : Value} {d : Nat} (hi : ops[i]? = some o) (hy : Y P w0 n l H o v) (hw : Wd ops l o) (hd : o.dst = some d) (hn : Nat.blt d n = true) (hS : X.contains i = true ∨ SH H)
 (h : LH P w0 ops Q SH X n k (i :: dn) ((d, v) :: l) H) : LO P w0 ops Q SH X n k i dn l H :=
 LO.z (R := fun u H' => u = v ∧ H' = H) hi (fun a w hf ha => ⟨v, H, w, hy a w hf ha, ha, rfl, rfl⟩) hw hd hn (fun u H' ⟨e1, e2⟩ => by subst e1; subst e2; exact ⟨hS, h⟩)
theorem LO.s {R : Heap → Prop} (hi : ops[i]? = some o) (hz : S P w0 n l H o R) (hw : Wd ops l o) (hd : o.dst = none)
 (h : ∀ H', R H' → (X.contains i = true ∨ SH H') ∧ LH P w0 ops Q SH X n k (i :: dn) l H') : LO P w0 ops Q SH X n k i dn l H := by
 intro a w hf ha; obtain ⟨H', w', hr, ha', hR⟩ := hz a w hf ha; obtain ⟨h1, h2⟩ := h H' hR; unfold wpOp; simp only [hi]; rw [if_pos (hw n a hf)]; refine .inl ?_; unfold Oper.wp; rw [hr]; show (fun a' w' => (X.contains i = true ∨ ∃ H', At w0 H' w' ∧ SH H') ∧ wpAnyE P .any ops (NoPanic Q) (fun w' => ∃ H', At w0 H' w' ∧ SH H') X k (lst ops.size (i :: dn)) a' w') (a.put o.dst undef) w'; rw [hd]; exact ⟨h1.imp id (fun h1 => ⟨H', ha', h1⟩), h2 a w' hf ha'⟩
theorem LO.call {R : Value → Heap → Prop} {f d : Nat} {args : List Operand} {ats : Array TypeId} {vs : List Value} (hi : ops[i]? = some o) (ho : o.op = .call { callee := .value (.func f), args := args.toArray, argTypes := ats })
 (hcall : ∀ (vs : Array Value) (w : World), (callFunc f vs).run P w = .ok (.enter f vs) w) (hv : opvs l args = some vs) (hw : Wd ops l o) (hd : o.dst = some d) (hn : Nat.blt d n = true) (hc : Ct P w0 f vs.toArray H R)
 (h : ∀ v H', R v H' → (X.contains i = true ∨ SH H') ∧ LH P w0 ops Q SH X n k (i :: dn) ((d, v) :: l) H') : LO P w0 ops Q SH X n k i dn l H := by
 intro a w hf ha; have hr := run_call (P := P) (ρ := a.eval) (w := w) ho rfl hcall; rw [List.map_toArray, hf.evals hv] at hr; unfold wpOp; simp only [hi]; rw [if_pos (hw n a hf)]; refine .inl ?_; unfold Oper.wp; rw [hr]; show Calls P f vs.toArray w _; refine (hc w ha).mono ?_; rintro e w' ⟨r, H', rfl, ha', hR⟩; obtain ⟨h1, h2⟩ := h r H' hR; have hp := hf.put hn r; rw [← hd] at hp; exact ⟨h1.imp id (fun h1 => ⟨H', ha', h1⟩), h2 _ w' hp ha'⟩
end
end Go.Proofs.YtfbfjhppppoilaaGreatDoor.E

namespace Go.Proofs.YtfbfjhppppoilaaGreatDoor.E
abbrev RdT {α : Type} (H : Heap) (f : α → List Value) (sz : Nat) (v : Value) (l : List α) : Prop := Rd (fun _ => True) H f sz v l
theorem Rd.any {α : Type} {F : Nat → Prop} {H : Heap} {f : α → List Value} {sz : Nat} {v : Value} {l : List α} (h : Rd F H f sz v l) : RdT H f sz v l := h.imp (fun _ _ _ => trivial)
def Soft (fz : Nat × Nat) (n : Nat) : Prop := fz.1 ≤ fz.2 ∧ ∀ i, i < n → ¬ (fz.1 ≤ i ∧ i < fz.2)
theorem Soft.zero (n : Nat) : Soft (0, 0) n := ⟨Nat.le_refl _, fun _ _ h => absurd h.2 (Nat.not_lt_zero _)⟩
def Row (H : Heap) (g : Nat) (cur : Array Value) (e : TypeId) : Prop := ∃ fz, H[g]? = some (.cells cur e fz) ∧ Soft fz cur.size
theorem Row.lt {H : Heap} {g : Nat} {cur : Array Value} {e : TypeId} (h : Row H g cur e) : g < H.size := let ⟨_, h, _⟩ := h; (Array.getElem?_eq_some_iff.1 h).1
theorem Row.up {H H' : Heap} {g : Nat} {cur : Array Value} {e : TypeId} (h : Row H g cur e) (hs : H'[g]? = H[g]?) : Row H' g cur e := let ⟨fz, h1, h2⟩ := h; ⟨fz, by rw [hs]; exact h1, h2⟩
theorem Row.cell {H : Heap} {g : Nat} {cur : Array Value} {e : TypeId} (h : Row H g cur e) (i : Nat) : E.cell H ⟨g, i, none⟩ = cur[i]? := by
 obtain ⟨fz, h1, _⟩ := h; simp [E.cell, h1]
theorem Row.of {H : Heap} {g : Nat} {cur : Array Value} {e : TypeId} (h : H[g]? = some (.cells cur e (0, 0))) : Row H g cur e := ⟨_, h, Soft.zero _⟩
structure Own {α : Type} (G : Nat → Prop) (e : TypeId) (H : Heap) (f : α → List Value) (sz : Nat) (v : Value) (l : List α) : Prop where
 cells : ∀ x, (f x).length = sz
 one : ∀ x, ∀ u ∈ f x, u.oneCell' = true
 ex : (v = .slice none 0 0 ∧ l = []) ∨ ∃ g cap cur, v = .slice (some ⟨g, 0, none⟩) l.length cap ∧ G g ∧ Row H g cur e ∧ l.length ≤ cap ∧ cap ≤ maxLen ∧ cur.size = cap * sz ∧ cur.toList.take (l.length * sz) = l.flatMap f
abbrev fS (s : List UInt8) : List Value := [Str s]
abbrev fI (x : Int) : List Value := [.int .i64 x]
abbrev fB (b : UInt8) : List Value := [.int .u8 b.toNat]
structure SV where
 a : Option Addr
 len : Nat
 cap : Nat
abbrev SV.v (s : SV) : Value := .slice s.a s.len s.cap
theorem fS_len (s : List UInt8) : (fS s).length = 1 := rfl
theorem fS_one (s : List UInt8) : ∀ u ∈ fS s, u.oneCell' = true := by intro u hu; simp only [List.mem_singleton] at hu; subst hu; rfl
theorem fI_len (s : Int) : (fI s).length = 1 := rfl
theorem fI_one (s : Int) : ∀ u ∈ fI s, u.oneCell' = true := by intro u hu; simp only [List.mem_singleton] at hu; subst hu; rfl
theorem fB_len (s : UInt8) : (fB s).length = 1 := rfl
theorem fB_one (s : UInt8) : ∀ u ∈ fB s, u.oneCell' = true := by intro u hu; simp only [List.mem_singleton] at hu; subst hu; rfl
def blk : Value → Nat
 | .slice (some a) _ _ => a.block
 | .pointer (some a) => a.block
 | .map (some r) => r
 | _ => 0
theorem length_flatMap {α : Type} {f : α → List Value} {sz : Nat} (hf : ∀ x, (f x).length = sz) : ∀ l : List α, (l.flatMap f).length = l.length * sz
 | [] => by simp
 | x :: l => by simp [hf x, length_flatMap hf l, Nat.add_mul, Nat.add_comm]
theorem get_flatMap {α : Type} {f : α → List Value} {sz : Nat} (hf : ∀ x, (f x).length = sz) : ∀ (l : List α) (i j : Nat) (x : α) (c : Value), l[i]? = some x → (f x)[j]? = some c → (l.flatMap f)[i * sz + j]? = some c
 | [], _, _, _, _, h, _ => by simp at h
 | y :: l, 0, j, x, c, h, hc => by
   simp only [List.getElem?_cons_zero, Option.some.injEq] at h; subst h; have hj := (List.getElem?_eq_some_iff.1 hc).1; simp only [List.flatMap_cons, Nat.zero_mul, Nat.zero_add]
   rw [List.getElem?_append_left hj]; exact hc
 | y :: l, i + 1, j, x, c, h, hc => by
   simp only [List.getElem?_cons_succ] at h; simp only [List.flatMap_cons]; rw [List.getElem?_append_right (by rw [hf y, Nat.add_mul]; omega), hf y]; have := get_flatMap hf l i j x c h hc; rwa [show (i + 1) * sz + j - sz = i * sz + j by rw [Nat.add_mul]; omega]
theorem Own.rd {α : Type} {G : Nat → Prop} {e : TypeId} {H : Heap} {f : α → List Value} {sz : Nat} {v : Value} {l : List α} (h : Own G e H f sz v l) : Rd G H f sz v l := by
 rcases h.ex with ⟨rfl, rfl⟩ | ⟨g, cap, cur, rfl, hg, hh, h1, h2, h3, h4⟩
 · exact Rd.nil _ _ _ _
 · refine ⟨_, cap, rfl, h1, h2, fun _ => ⟨_, rfl, rfl, hg, hh.lt, fun i x hx => ⟨rfl, fun j c hc => ?_⟩⟩⟩
   have hr := get_flatMap h.cells l i j x c hx hc; rw [← h4, List.getElem?_take] at hr; split at hr
   · simp only [Nat.zero_add]
     rw [hh.cell]
     simpa using hr
   · cases hr
def toSV : Value → SV
 | .slice a l c => ⟨a, l, c⟩
 | _ => ⟨none, 0, 0⟩
theorem Rd.sv {α : Type} {F : Nat → Prop} {H : Heap} {f : α → List Value} {sz : Nat} {v : Value} {l : List α} (h : Rd F H f sz v l) : (toSV v).v = v := by
 obtain ⟨a, cap, rfl, _⟩ := h.ex; rfl
theorem Rd.oneCell {α : Type} {F : Nat → Prop} {H : Heap} {f : α → List Value} {sz : Nat} {v : Value} {l : List α} (h : Rd F H f sz v l) : v.oneCell' = true := by
 obtain ⟨a, cap, rfl, _⟩ := h.ex; rfl
theorem Own.sv {α : Type} {G : Nat → Prop} {e : TypeId} {H : Heap} {f : α → List Value} {sz : Nat} {v : Value} {l : List α} (h : Own G e H f sz v l) : (toSV v).v = v := h.rd.sv
section
variable {α : Type} {G : Nat → Prop} {e : TypeId} {H H' : Heap} {f : α → List Value} {sz : Nat} {v : Value} {l : List α}
theorem Own.nil (hf : ∀ x, (f x).length = sz) (h1 : ∀ x, ∀ u ∈ f x, u.oneCell' = true) : Own G e H f sz (.slice none 0 0) [] := ⟨hf, h1, .inl ⟨rfl, rfl⟩⟩
theorem Own.up {S : Nat → Prop} (h : Own G e H f sz v l) (s : Mo S H H') (hS : ∀ b, b < H.size → G b → ¬ S b) : Own G e H' f sz v l := by
 refine ⟨h.cells, h.one, ?_⟩; rcases h.ex with h | ⟨g, cap, cur, hv, hg, hh, r⟩
 · exact .inl h
 · exact .inr ⟨g, cap, cur, hv, hg, hh.up (s.same g hh.lt (hS _ hh.lt hg)), r⟩
theorem Own.imp {G' : Nat → Prop} (h : Own G e H f sz v l) (hG : ∀ b, b < H.size → G b → G' b) : Own G' e H f sz v l := by
 refine ⟨h.cells, h.one, ?_⟩; rcases h.ex with h | ⟨g, cap, cur, hv, hg, hh, r⟩
 · exact .inl h
 · exact .inr ⟨g, cap, cur, hv, hG _ hh.lt hg, hh, r⟩
theorem Own.at {j : Nat} (h : Own G e H f sz v l) (hj : j < l.length) : G (blk v) ∧ blk v < H.size ∧ ∃ cap, v = .slice (some ⟨blk v, 0, none⟩) l.length cap := by
 rcases h.ex with ⟨rfl, rfl⟩ | ⟨g, cap, cur, rfl, hg, hh, r⟩
 · simp at hj
 · exact ⟨hg, hh.lt, cap, rfl⟩
theorem Own.pt {j : Nat} (h : Own G e H f sz v l) (hj : j < l.length) : Pt H ⟨blk v, j * sz, none⟩ (f l[j]) := by
 obtain ⟨h1, h2, cap, h3⟩ := h.at hj; obtain ⟨a, cap', hv, _, _, hr⟩ := h.rd.ex; obtain ⟨ad, rfl, e2, e3, e4, e5⟩ := hr (by intro e; subst e; simp at hj); have hb : blk v = ad.block := by rw [hv]; rfl
 have := e5 j l[j] (by simp [hj]); rw [hv] at h3; simp only [Value.slice.injEq, Option.some.injEq] at h3; have ho : ad.off = 0 := by rw [h3.1]
 rw [ho, Nat.zero_add, ← hb] at this; exact this
theorem set_flatMap {f : α → List Value} {sz : Nat} (hf : ∀ x, (f x).length = sz) : ∀ (l : List α) (j k : Nat) (x y : α) (c : Value), l[j]? = some x → k < sz → f y = (f x).set k c → (l.set j y).flatMap f = (l.flatMap f).set (j * sz + k) c
 | [], _, _, _, _, _, h, _, _ => by simp at h
 | z :: l, 0, k, x, y, c, h, hk, hy => by
   simp only [List.getElem?_cons_zero, Option.some.injEq] at h; subst h; simp only [List.set_cons_zero, List.flatMap_cons, hy, Nat.zero_mul, Nat.zero_add]
   rw [List.set_append_left _ _ (by rw [hf z]; exact hk)]
 | z :: l, j + 1, k, x, y, c, h, hk, hy => by
   simp only [List.getElem?_cons_succ] at h; simp only [List.set_cons_succ, List.flatMap_cons]; rw [set_flatMap hf l j k x y c h hk hy, List.set_append_right _ _ (by rw [hf z, Nat.add_mul]; omega), hf z]; congr 2; rw [Nat.add_mul]; omega
def hset (H : Heap) (b i : Nat) (c : Value) : Heap := H.modify b fun
 | .cells cs e fz => .cells (cs.setIfInBounds i c) e fz
 | o => o
theorem hset_mo (H : Heap) (b i : Nat) (c : Value) : Mo (fun k => k = b) H (hset H b i c) :=
 ⟨by simp [hset], fun k _ hk => by simp only [hset, Array.getElem?_modify]; rw [if_neg (fun e => hk e.symm)]⟩
theorem hset_at {b i : Nat} {c : Value} {cs : Array Value} {e : TypeId} {fz : Nat × Nat} (h : H[b]? = some (.cells cs e fz)) : (hset H b i c)[b]? = some (.cells (cs.setIfInBounds i c) e fz) := by
 simp only [hset, Array.getElem?_modify, if_true, h]; rfl
theorem Row.set {H : Heap} {b i : Nat} {c : Value} {cs : Array Value} {e : TypeId} (h : Row H b cs e) : Row (hset H b i c) b (cs.setIfInBounds i c) e :=
 let ⟨fz, h1, h2⟩ := h; ⟨fz, hset_at h1, by simpa using h2⟩
theorem Own.set {j k : Nat} {y : α} {c : Value} (h : Own G e H f sz v l) (hj : j < l.length) (hk : k < sz) (hy : f y = (f l[j]).set k c) : Own G e (hset H (blk v) (j * sz + k) c) f sz v (l.set j y) := by
 refine ⟨h.cells, h.one, ?_⟩; rcases h.ex with ⟨rfl, rfl⟩ | ⟨g, cap, cur, rfl, hg, hh, h1, h2, h3, h4⟩
 · simp at hj
 · refine .inr ⟨g, cap, _, by rw [List.length_set], hg, hh.set, by rw [List.length_set]; exact h1, h2, by simpa using h3, ?_⟩
   have hlt : j * sz + k < l.length * sz := by
    have := Nat.mul_le_mul_right sz (show j + 1 ≤ l.length from hj); rw [Nat.add_mul] at this; omega
   rw [set_flatMap h.cells l j k l[j] y c (by simp [hj]) hk hy, ← h4, List.length_set, Array.toList_setIfInBounds, List.take_set]
end
theorem map_zip_swap_range {α : Type} {vs : List α} {k : Nat} (hk : vs.length = k) : (vs.zip (List.range' 0 vs.length)).map (fun p => (p.2, p.1)) = (List.range k).zip vs := by
 subst hk; rw [List.range_eq_range']; generalize 0 = s
 induction vs generalizing s with
 | nil => rfl
 | cons v vs ih => simp [List.range'_succ, ih]
section
variable {P : Program} {w0 : World} {n : Nat} {l : FL} {H : Heap} {o : Oper}
theorem At.alloc {w : World} (ha : At w0 H w) (ob : Obj) : At w0 (H.push ob) (w.alloc ob) := ⟨by simp [World.alloc, ha.heap], ha.os, ha.tape, ha.output, ha.dr⟩
theorem Z.alloc {t : TypeId} {z : Value} (ho : o.op = .alloc t) (hz : ∀ w, (zeroValue t).run P w = .ok z w) : Z P w0 n l H o (fun v H' => v = .pointer (some ⟨H.size, 0, none⟩) ∧ H' = H.push (.cells z.cells t)) := by
 intro a w hf ha; refine ⟨_, _, _, ?_, ha.alloc (.cells z.cells t), rfl, rfl⟩; simp [execOp, ho, Instr.alloc, hz, newVar, newRow, ha.heap]
theorem Z.box {t : TypeId} {x : Operand} {v : Value} (ho : o.op = .box t x) (hx : opv l x = some v) : Z P w0 n l H o (fun r H' => r = .pointer (some ⟨H.size, 0, none⟩) ∧ H' = H.push (.cells v.cells t)) := by
 intro a w hf ha; refine ⟨_, _, _, ?_, ha.alloc (.cells v.cells t), rfl, rfl⟩; simp [execOp, ho, hf.eval hx, Instr.box, newVar, newRow, ha.heap]
theorem run_store {w : World} {ad : Addr} {c u : Value} (h : w.cell? ad = some u) (hz : w.frozen? ad = false) (h1 : c.oneCell' = true) : (store ad c).run P w = .ok () (w.setCell ad c) := by
 cases c <;> first | (simp [Value.oneCell'] at h1; done) | simp [store, Sem.run, h, hz]
theorem S.cell {x y : Operand} {t : TypeId} {b i : Nat} {c : Value} {cs : Array Value} {e : TypeId} (ho : o.op = .store t x y) (hx : opv l x = some (.pointer (some ⟨b, i, none⟩))) (hy : opv l y = some c) (h1 : c.oneCell' = true)
 (hs : ∀ w, (sizeOf t).run P w = .ok 1 w) (hb0 : Row H b cs e) (hi : i < cs.size) : S P w0 n l H o (fun H' => H' = hset H b i c) := by
 intro a w hf ha; obtain ⟨⟨f1, f2⟩, hb, hsf⟩ := hb0; have hc : w.cell? ⟨b, i, none⟩ = some cs[i] := by rw [ha.cell]; simp [E.cell, hb, hi]
 have hz : w.frozen? ⟨b, i, none⟩ = false := by have := hsf.2 i hi; simp only at this; simp [World.frozen?, ha.heap, hb]; omega
 have hcs : c.cells = #[c] := by cases c <;> first | (simp [Value.oneCell'] at h1; done) | rfl
 refine ⟨hset H b i c, { w with heap := hset H b i c }, ?_, ha.set, rfl⟩; have hr := run_store (P := P) hc hz h1
 have hw : w.setCell ⟨b, i, none⟩ c = { w with heap := hset H b i c } := by
  simp only [World.setCell, hset, ha.heap]; congr 1
 rw [hw] at hr; have ha0 : (⟨b, i, none⟩ : Addr).add 0 = ⟨b, i, none⟩ := by simp [Addr.add]
 simp [execOp, ho, hf.eval hx, hf.eval hy, Instr.storeAt, Instr.sureAddr, storeVar, hcs, hs, storeCells, hr, ha0]
section
variable {α : Type} {G F : Nat → Prop} {e : TypeId} {f : α → List Value} {sz : Nat} {v : Value} {xs ys : List α}
theorem Y.ownAddr {x i : Operand} {t : TypeId} {k : IntKind} {iv : Int} (h : Own G e H f sz v xs) (j : Nat) (ho : o.op = .indexAddr t x i) (ht : ∀ w, (underlying t).run P w = .ok (.slice e) w) (hs : ∀ w, (sizeOf e).run P w = .ok sz w)
 (hx : opv l x = some v) (hi : opv l i = some (.int k iv)) (hj : iv = j) (hlt : j < xs.length) : Y P w0 n l H o (.pointer (some ⟨blk v, j * sz, none⟩)) := by
 obtain ⟨h1, h2, cap, h3⟩ := h.at hlt; subst hj; intro ac w hf ha; have hx' := hf.eval hx; rw [h3] at hx'; simp [execOp, ho, hx', hf.eval hi, Instr.indexAt, asIntOf, ht, hs, hlt, add_eq]
theorem S.own {x y : Operand} {t : TypeId} {c : Value} (h : Own G e H f sz v xs) (j k : Nat) (z : α) (ho : o.op = .store t x y) (hx : opv l x = some (.pointer (some ⟨blk v, j * sz + k, none⟩))) (hy : opv l y = some c) (h1 : c.oneCell' = true)
 (hs : ∀ w, (sizeOf t).run P w = .ok 1 w) (hj : j < xs.length) (hk : k < sz) (hz : f z = (f xs[j]).set k c) : S P w0 n l H o (fun H' => Own G e H' f sz v (xs.set j z) ∧ Mo (fun b => b = blk v) H H') := by
 intro a w hf ha; rcases h.ex with ⟨rfl, rfl⟩ | ⟨g, cap, cur, hv, hg, hh, r1, r2, r3, r4⟩
 · simp at hj
 · have hb : blk v = g := by rw [hv]; rfl
   have hlt : j * sz + k < cur.size := by
    have := Nat.mul_le_mul_right sz (show j + 1 ≤ cap by omega); rw [Nat.add_mul] at this; omega
   obtain ⟨H', w', hr, ha', rfl⟩ := S.cell (P := P) (w0 := w0) (n := n) ho (by rw [hb] at hx; exact hx) hy h1 hs hh hlt a w hf ha; refine ⟨_, w', hr, ha', ?_, by rw [hb]; exact hset_mo H g _ c⟩; rw [← hb]; exact h.set hj hk hz
theorem Own.new {G' : Nat → Prop} {w : World} {z : Value} {cap : Nat} {zs : List α} (hc : ∀ x, (f x).length = sz) (h1 : ∀ x, ∀ u ∈ f x, u.oneCell' = true) (hzs : z.cells.size = sz) (hG : G' w.heap.size) (h2 : zs.length ≤ cap) (h3 : cap ≤ maxLen) :
 Own G' e (w.alloc (.cells ((zs.flatMap f).toArray ++ Builtin.zeroCells z.cells (cap - zs.length)) e)).heap f sz (.slice (some ⟨w.heap.size, 0, none⟩) zs.length cap) zs := by
 refine ⟨hc, h1, .inr ⟨w.heap.size, cap, _, rfl, hG, .of (heap_alloc_new w _), h2, h3, ?_, ?_⟩⟩
 · simp only [Array.size_append, List.size_toArray, size_zeroCells, hzs, length_flatMap hc, ← Nat.add_mul]
   congr 1; omega
 · simp only [Array.toList_append]
   rw [← length_flatMap hc zs]; exact List.take_left
theorem Rd.pts {u : Value} {a : Addr} {m c : Nat} (h : Rd F H f sz u ys) (hc : ∀ x, (f x).length = sz) (hu : u = .slice (some a) m c) {w : World} (ha : At w0 H w) : ∀ j d, (ys.flatMap f)[j]? = some d → w.cell? (a.add j) = some d := by
 intro j d hd; obtain ⟨ad, cap, hv, q1, q2, q3⟩ := h.ex; have hj := (List.getElem?_eq_some_iff.1 hd).1; rw [length_flatMap hc] at hj; have hne : ys ≠ [] := by intro e; subst e; simp at hj
 obtain ⟨ad', e1, e2, e3, e4, e5⟩ := q3 hne
 have hsz : 0 < sz := by rcases Nat.eq_zero_or_pos sz with h | h; · subst h; simp at hj
                         · exact h
 have hdiv : j / sz < ys.length := Nat.div_lt_of_lt_mul (by rw [Nat.mul_comm]; exact hj); have hp := e5 (j / sz) ys[j / sz] (by simp [hdiv]); have hm : j % sz < (f ys[j / sz]).length := by rw [hc]; exact Nat.mod_lt _ hsz
 have h5 := hp.cells (j % sz) (f ys[j / sz])[j % sz] (by simp [hm]); have h6 := get_flatMap hc ys (j / sz) (j % sz) _ _ (show ys[j / sz]? = some ys[j / sz] by simp [hdiv]) (show (f ys[j / sz])[j % sz]? = some (f ys[j / sz])[j % sz] by simp [hm]); have hjj : j / sz * sz + j % sz = j := by rw [Nat.mul_comm]; exact Nat.div_add_mod j sz
 rw [hjj, hd] at h6; simp only [Option.some.injEq] at h6; have haa : a = ad' := by rw [hu] at hv; simp only [Value.slice.injEq] at hv; rw [e1] at hv; exact Option.some.inj hv.1
 rw [haa, add_eq e2, ha.cell, h6]; simp only at h5; rw [Nat.add_assoc, hjj] at h5; exact h5
def Inf (P : Program) (t e : TypeId) (sz bytes : Nat) : Prop := P.underlying t = some (.slice e) ∧ ∃ i z, P.info? e = some i ∧ i.zero = some z ∧ i.size = sz ∧ i.bytes = bytes ∧ z.cells.size = sz
theorem run_storeCells_soft (P : Program) (g o : Nat) (t : TypeId) (fz : Nat × Nat) : ∀ (vs : List Value) (i : Nat) (cur : Array Value) (w : World), w.heap[g]? = some (.cells cur t fz) → Soft fz cur.size → o + i + vs.length ≤ cur.size → (∀ v ∈ vs, v.oneCell' = true) →
 (storeCells ⟨g, o, none⟩ vs i).run P w = .ok () (w.setRow g (cur.toList.take (o + i) ++ vs ++ cur.toList.drop (o + i + vs.length)).toArray)
 | [], i, cur, w, hg, _, _, _ => by
   simp only [storeCells, List.append_nil, List.length_nil, Nat.add_zero, List.take_append_drop, Array.toArray_toList]; rw [setRow_self w g cur t fz hg]
   rfl
 | v :: rest, i, cur, w, hg, hfz, hl, h1 => by
   have hi : o + i < cur.size := by simp at hl; omega
   have hcell : w.cell? ⟨g, o + i, none⟩ = some cur[o + i] := by simp [World.cell?, hg, hi]
   have hfro : w.frozen? ⟨g, o + i, none⟩ = false := by
    obtain ⟨lo, hi'⟩ := fz; have := hfz.2 (o + i) hi; simp only at this; simp [World.frozen?, hg]; omega
   have hst : (store ((⟨g, o, none⟩ : Addr).add i) v).run P w = .ok () (w.setRow g (cur.setIfInBounds (o + i) v)) := by
    rw [add_eq rfl, run_store hcell hfro (h1 v (by simp)), setCell_eq_setRow w g (o + i) cur t fz v hg]
   have ih := run_storeCells_soft P g o t fz rest (i + 1) (cur.setIfInBounds (o + i) v) (w.setRow g (cur.setIfInBounds (o + i) v)) (setRow_heap w g cur _ t _ hg) (by simpa using hfz) (by simp at hl ⊢; omega) (fun x hx => h1 x (by simp [hx])); simp only [storeCells, Sem.run_bind, hst, Result.andThen_ok, ih, setRow_setRow]; congr 3; have e := list_seg_step cur.toList (o + i) v rest (by simp at hl ⊢; omega)
   simpa [Array.toList_setIfInBounds, Nat.add_assoc] using e
theorem run_append_soft {w : World} (t ty e : TypeId) (i : TypeInfo) (ht : P.underlying t = some (.slice e)) (hi : P.info? e = some i)
 (g sLen sCap : Nat) (cur : Array Value) (fz : Nat × Nat) (hg : w.heap[g]? = some (.cells cur e fz)) (hfz : Soft fz cur.size)
 (a : Addr) (m c : Nat) (news : List Value) (hl : news.length = m * i.size) (hnews : ∀ j u, news[j]? = some u → w.cell? (a.add j) = some u) (h1 : ∀ u ∈ news, u.oneCell' = true)
 (hroom : sLen + m ≤ sCap) (hfit : sLen * i.size + news.length ≤ cur.size) :
 (Builtin.append_ #[t, t] ty #[.slice (some ⟨g, 0, none⟩) sLen sCap, .slice (some a) m c]).run P w =
  .ok (.slice (some ⟨g, 0, none⟩) (sLen + m) sCap) (w.setRow g (cur.toList.take (sLen * i.size) ++ news ++ cur.toList.drop (sLen * i.size + news.length)).toArray) := by
 have hf := run_firstCells_some (P := P) w i.size m a m c news hl hnews; have hst := run_storeCells_soft P g (sLen * i.size) e fz news 0 cur w hg hfz (by simpa using hfit) h1; simp only [Nat.add_zero] at hst; simp [Builtin.append_, run_underlying ht, sizeOf, typeInfo, hi, Builtin.lenOf, hroom, hf, Addr.add_lit, hst]
theorem Z.append {s x : Operand} {t : TypeId} {u : Value} {bytes : Nat} (h : Own G e H f sz v xs) (hr : Rd F H f sz u ys) (ho : o.op = .call { callee := .builtin .append, args := #[s, x], argTypes := #[t, t] })
 (hinf : Inf P t e sz bytes) (hs : opv l s = some v) (hx : opv l x = some u) (hb : (xs.length + ys.length) * bytes ≤ 140737488355328) (hm : xs.length + ys.length ≤ 9223372036854775807) :
 Z P w0 n l H o (fun r H' => Own (fun b => G b ∨ H.size ≤ b) e H' f sz r (xs ++ ys) ∧ Mo G H H') := by
 obtain ⟨ht, i, z, hi, hz, hsz, hby, hzs⟩ := hinf; subst hsz; subst hby; intro a w hf ha; obtain ⟨ad, cap, rfl, q1, q2, q3⟩ := id hr.ex; have hl : (ys.flatMap f).length = ys.length * i.size := length_flatMap h.cells ys
 have h1 : ∀ c ∈ ys.flatMap f, c.oneCell' = true := by
  intro c hc; obtain ⟨y, hy, hc⟩ := List.mem_flatMap.1 hc; exact h.one y c hc
 cases ad with
 | none =>
   have hys : ys = [] := by
    apply Decidable.byContradiction; intro hne; obtain ⟨ad, hn, _⟩ := q3 hne; cases hn
   subst hys; refine ⟨v, H, w, ?_, ha, by rw [List.append_nil]; exact h.imp (fun b _ hg => .inl hg), Mo.refl _ _⟩; rcases h.ex with ⟨rfl, rfl⟩ | ⟨g, cap', cur, rfl, hg, hh, r1, r2, r3, r4⟩
   · simp [execOp, ho, resolve, invoke, builtin, hf.eval hs, hf.eval hx, Builtin.append_, run_underlying ht, sizeOf, typeInfo, hi, Builtin.lenOf, Builtin.firstCells]
   · simp [execOp, ho, resolve, invoke, builtin, hf.eval hs, hf.eval hx, Builtin.append_, run_underlying ht, sizeOf, typeInfo, hi, Builtin.lenOf, Builtin.firstCells, r1, storeCells]
 | some ad =>
   have hnews := hr.pts h.cells rfl ha
   have grown : ∀ (old : Nat) (r : Value), old < xs.length + ys.length → r = .slice (some ⟨w.heap.size, 0, none⟩) (xs.length + ys.length) (grownCap w (xs.length + ys.length) old e) → ∀ ob, ob = Obj.cells ((xs.flatMap f).toArray ++ (ys.flatMap f).toArray ++ Builtin.zeroCells z.cells (grownCap w (xs.length + ys.length) old e - (xs.length + ys.length))) e →
    At w0 (w.drew.alloc ob).heap (w.drew.alloc ob) ∧ Own (fun b => G b ∨ H.size ≤ b) e (w.drew.alloc ob).heap f i.size r (xs ++ ys) ∧ Mo G H (w.drew.alloc ob).heap := by
    rintro old r ho' rfl ob rfl; have hge := grownCap_ge w (xs.length + ys.length) old e; have hcm : grownCap w (xs.length + ys.length) old e ≤ maxLen := grownCap_le_maxLen w (xs.length + ys.length) old e (by unfold maxLen; omega); have ha2 : At w0 H w.drew := ha.drew; refine ⟨⟨rfl, ha.os, ha.tape, ha.output, ha2.dr⟩, ?_, ?_⟩
    · have := Own.new (e := e) (G' := fun b => G b ∨ H.size ≤ b) (w := w.drew) (z := z) (cap := grownCap w (xs.length + ys.length) old e) (zs := xs ++ ys) h.cells h.one hzs (.inr (by rw [ha2.heap]; exact Nat.le_refl _)) (by simpa using hge) hcm
      simpa using this
    · rw [(ha2.alloc _).heap]; exact Mo.push _ _ _
   rcases h.ex with ⟨rfl, rfl⟩ | ⟨g, cap', cur, rfl, hg, hh, r1, r2, r3, r4⟩
   · by_cases hm0 : ys.length = 0
     · have hys : ys = [] := List.eq_nil_of_length_eq_zero hm0
       subst hys; refine ⟨.slice none 0 0, H, w, ?_, ha, by simpa using h.imp (fun b _ hg => .inl hg), Mo.refl _ _⟩; simp [execOp, ho, resolve, invoke, builtin, hf.eval hs, hf.eval hx, Builtin.append_, run_underlying ht, sizeOf, typeInfo, hi, Builtin.lenOf, Builtin.firstCells, loadCells, loadCellsFrom]
     · simp only [List.length_nil, Nat.zero_add] at hb hm
       have hrun := run_append_nil (P := P) w t o.type e i z ht hi hz ad ys.length cap (ys.flatMap f) hl hnews (by omega) (by omega) (by omega); have := grown 0 _ (by simp; omega) rfl _ rfl; simp only [List.length_nil, Nat.zero_add, List.flatMap_nil, List.nil_append, Array.empty_append] at this; exact ⟨_, _, _, by simp [execOp, ho, resolve, invoke, builtin, hf.eval hs, hf.eval hx, hrun], this.1, this.2.1, this.2.2⟩
   · obtain ⟨fz, hh0, hsf⟩ := id hh
     have hg' : w.heap[g]? = some (.cells cur e fz) := by rw [ha.heap]; exact hh0
     by_cases hroom : xs.length + ys.length ≤ cap'
     · have hfit : xs.length * i.size + (ys.flatMap f).length ≤ cur.size := by rw [hl, r3, ← Nat.add_mul]; exact Nat.mul_le_mul_right _ hroom
       have hrun := run_append_soft (P := P) (w := w) t o.type e i ht hi g xs.length cap' cur fz hg' hsf ad ys.length cap (ys.flatMap f) hl hnews h1 hroom hfit; refine ⟨.slice (some ⟨g, 0, none⟩) (xs.length + ys.length) cap', (w.setRow g (cur.toList.take (xs.length * i.size) ++ ys.flatMap f ++ cur.toList.drop (xs.length * i.size + (ys.flatMap f).length)).toArray).heap, w.setRow g (cur.toList.take (xs.length * i.size) ++ ys.flatMap f ++ cur.toList.drop (xs.length * i.size + (ys.flatMap f).length)).toArray, by simp [execOp, ho, resolve, invoke, builtin, hf.eval hs, hf.eval hx, hrun], ⟨rfl, ha.os, ha.tape, ha.output, ha.dr⟩, ⟨h.cells, h.one, .inr ⟨g, cap', _, by rw [List.length_append],   .inl hg, ⟨fz, setRow_heap w g cur _ e _ hg', hsf.1, fun i hi => hsf.2 i (by simp only [List.size_toArray, List.length_append, List.length_take, List.length_drop, Array.length_toList] at hi; omega)⟩, by simpa using hroom, r2, ?_, ?_⟩⟩, ⟨by rw [← ha.heap]; simp [World.setRow], fun b hb hn => ?_⟩⟩
       · simp only [List.size_toArray, List.length_append, List.length_take, List.length_drop, Array.length_toList]
         omega
       · have hlx := length_flatMap h.cells xs
         rw [r4, ← List.flatMap_append, List.length_append, Nat.add_mul, ← hl, ← hlx, ← List.length_append, ← List.flatMap_append]; exact List.take_left
       · rw [← ha.heap]; exact setRow_other w g b _ (fun e => hn (e ▸ hg))
     · have holds : ∀ j c, (xs.flatMap f)[j]? = some c → w.cell? ((⟨g, 0, none⟩ : Addr).add j) = some c := h.rd.pts h.cells rfl ha
       have hrun := run_append_grow (P := P) w t o.type e i z ht hi hz ⟨g, 0, none⟩ xs.length cap' (xs.flatMap f) (length_flatMap h.cells xs) holds ad ys.length cap (ys.flatMap f) hl hnews (by omega) (by omega) (growslice_fits (by omega) hb); have := grown cap' _ (by omega) rfl _ rfl; exact ⟨_, _, _, by simp [execOp, ho, resolve, invoke, builtin, hf.eval hs, hf.eval hx, hrun], this.1, this.2.1, this.2.2⟩
theorem foldl_set (size : Nat) : ∀ (vs : List Value) (j off : Nat) (cs : Array Value) (pre old post : List Value), cs.toList = pre ++ old ++ post → pre.length = off + j → old.length = vs.length →
 ((vs.zipIdx j).foldl (fun cs (x : Value × Nat) => cs.setIfInBounds (off + x.2) x.1) cs).toList = pre ++ vs ++ post
 | [], j, off, cs, pre, old, post, h, _, ho => by
   have : old = [] := List.eq_nil_of_length_eq_zero ho; subst this
   simpa using h
 | v :: vs, j, off, cs, pre, old, post, h, hp, ho => by
   match old, ho with
   | x :: old, ho =>
     simp only [List.zipIdx_cons, List.foldl_cons]
     have := foldl_set size vs (j + 1) off (cs.setIfInBounds (off + j) v) (pre ++ [v]) old post (by
      rw [Array.toList_setIfInBounds, h, ← hp]; simp) (by simp; omega) (by simpa using ho)
     simpa using this
theorem fill_row (size : Nat) : ∀ (vs : List Value) (i : Nat) (cs : Array Value) (pre old : List Value), cs.toList = pre ++ old → pre.length = i * size → old.length = vs.length * size → (∀ v ∈ vs, v.cells.size = size) →
 ∃ r, Instr.fill (fun i => some (i * size, size)) cs ((vs.zipIdx i).map (fun p => (p.2, p.1))) = some r ∧ r.toList = pre ++ vs.flatMap (fun v => v.cells.toList)
 | [], i, cs, pre, old, h, _, ho, _ => by
   have : old = [] := List.eq_nil_of_length_eq_zero (by simpa using ho); subst this
   exact ⟨cs, rfl, by simpa using h⟩
 | v :: vs, i, cs, pre, old, h, hp, ho, hv => by
   have hvs := hv v (by simp); have hlen : size ≤ old.length := by rw [ho]; simp [Nat.add_mul]
   have hold : old = old.take size ++ old.drop size := (List.take_append_drop size old).symm; have hcs : cs.toList = pre ++ old.take size ++ old.drop size := by rw [h, List.append_assoc, ← hold]
   have hsz : cs.size = pre.length + old.length := by rw [← Array.length_toList, h, List.length_append]
   have hf := foldl_set size v.cells.toList 0 (i * size) cs pre (old.take size) (old.drop size) hcs (by omega) (by rw [List.length_take, show v.cells.toList.length = size from by simpa using hvs]; omega); simp only [List.zipIdx_cons, List.map_cons, Instr.fill]; rw [if_neg (by simp [hvs]; omega)]
   obtain ⟨r, hr, hrl⟩ := fill_row size vs (i + 1) (v.cells.zipIdx.foldl (fun cs (x : Value × Nat) => cs.setIfInBounds (i * size + x.2) x.1) cs) (pre ++ v.cells.toList) (old.drop size) (by
    rw [← hf, ← Array.foldl_toList, Array.toList_zipIdx]) (by simp [hvs, hp, Nat.add_mul]) (by simp [ho, Nat.add_mul]) (fun u hu => hv u (by simp [hu]))
   exact ⟨r, hr, by simpa using hrl⟩
theorem Z.lit {t : TypeId} {k bytes : Nat} {parts : List (Nat × Operand)} (vs : List Value) (zs : List α) (ho : o.op = .buildSlice t k parts.toArray) (hinf : Inf P t e sz bytes) (hp : opvs l (parts.map (·.2)) = some vs) (hi : parts.map (·.1) = List.range k) (hk : vs.length = k) (hks : k * sz ≤ 16777216) (hk16 : k ≤ 16777216)
 (hc : ∀ x, (f x).length = sz) (h1 : ∀ x, ∀ u ∈ f x, u.oneCell' = true) (hz : vs.map (fun v => v.cells.toList) = zs.map f) :
 Z P w0 n l H o (fun r H' => Own (fun b => b = H.size) e H' f sz r zs ∧ Nw H H' ∧ ∃ c, H' = H.push c) := by
 obtain ⟨ht, i, z, hi', hz', hsz, hby, hzs⟩ := hinf; subst hsz; intro a w hf ha; have hev := hf.evals hp; have hzl : zs.length = k := by have := congrArg List.length hz; simpa [hk] using this.symm
 have hparts : (parts.toArray.map (fun (x : Nat × Operand) => (x.1, a.eval x.2))).toList = (vs.zipIdx 0).map (fun p => (p.2, p.1)) := by
  have e1 : parts.map (fun (x : Nat × Operand) => (x.1, a.eval x.2)) = (List.range k).zip vs := by
   rw [← hi, ← hev, List.map_map]; clear hi hev hp ho
   induction parts with
   | nil => rfl
   | cons p ps ih => simp [ih]
  rw [List.map_toArray]; simp only; rw [e1, List.zipIdx_eq_zip_range', map_zip_swap_range hk]
 have hcells : ∀ v ∈ vs, v.cells.size = i.size := by
  intro v hv; have : v.cells.toList ∈ zs.map f := by rw [← hz]; exact List.mem_map.2 ⟨v, hv, rfl⟩
  obtain ⟨x, _, hx⟩ := List.mem_map.1 this; have := hc x; rw [hx] at this
  simpa using this
 have hfl : vs.flatMap (fun v => v.cells.toList) = zs.flatMap f := by rw [List.flatMap_def, List.flatMap_def, hz]
 have hbase : ∀ (zc : Array Value), ((Array.range (k * i.size)).map (zc[· % zc.size]!)).toList = [] ++ ((Array.range (k * i.size)).map (zc[· % zc.size]!)).toList := fun _ => rfl
 have hrun : ∃ cs : Array Value, cs.toList = zs.flatMap f ∧ (Instr.buildSlice t k (parts.toArray.map (fun (x : Nat × Operand) => (x.1, a.eval x.2)))).run P w = .ok (.slice (some ⟨w.heap.size, 0, none⟩) k k) (w.alloc (.cells cs e)) := by
  by_cases h0 : k * i.size = 0
  · obtain ⟨r, hr, hrl⟩ := fill_row i.size vs 0 #[] [] [] rfl (by simp) (by simp [hk, h0]) hcells
    refine ⟨r, by rw [hrl, hfl]; rfl, ?_⟩; simp only [Instr.buildSlice, Sem.run_bind, run_underlying ht, Result.andThen_ok, sizeOf, typeInfo, run_program, hi', Sem.run_pure, hparts]; have hz0 : ∀ g : Nat → Value, (Array.range 0).map g = #[] := fun g => by simp
    simp [h0, hz0, hr, newRow]
  · obtain ⟨r, hr, hrl⟩ := fill_row i.size vs 0 ((Array.range (k * i.size)).map (z.cells[· % z.cells.size]!)) [] _ (hbase _) (by simp) (by simp [hk]) hcells
    refine ⟨r, by rw [hrl, hfl]; rfl, ?_⟩; simp only [Instr.buildSlice, Sem.run_bind, run_underlying ht, Result.andThen_ok, sizeOf, typeInfo, run_program, hi', Sem.run_pure, hparts]; have hlim : ¬ (k * i.size > 2 ^ 24) := by simp only [Nat.reducePow]; omega
    simp [h0, hlim, zeroValue, typeInfo, hi', hz', hr, newRow]
 obtain ⟨cs, hcs, hrun⟩ := hrun; refine ⟨.slice (some ⟨w.heap.size, 0, none⟩) k k, H.push (.cells cs e), w.alloc (.cells cs e), ?_, ha.alloc (.cells cs e), ⟨hc, h1, .inr ⟨H.size, k, cs, ?_, rfl, .of (by simp), ?_, ?_, ?_, ?_⟩⟩, Nw.pu _ _, _, rfl⟩
 · simp only [execOp, ho, Sem.run_bind, hrun, Result.andThen_ok, Sem.run_pure]
 · rw [hzl, ha.heap]
 · omega
 · unfold maxLen; omega
 · rw [← Array.length_toList, hcs, length_flatMap hc, hzl]
 · rw [← length_flatMap hc, List.take_of_length_le (by rw [← hcs]; exact Nat.le_refl _), hcs]
theorem Y.build {t : TypeId} {parts : List (Nat × Operand)} {vs : List Value} {v : Value} (ho : o.op = .build t parts.toArray) (hp : opvs l (parts.map (·.2)) = some vs) (hrun : ∀ w, (Instr.build t ((parts.map (·.1)).zip vs).toArray).run P w = .ok v w) : Y P w0 n l H o v := by
 intro a w hf ha; have hev := hf.evals hp
 have e1 : parts.map (fun (x : Nat × Operand) => (x.1, a.eval x.2)) = (parts.map (·.1)).zip vs := by
  rw [← hev, List.map_map]; clear hev hp ho hrun
  induction parts with
  | nil => rfl
  | cons p ps ih => simp [ih]
 have hr := hrun w; rw [← e1] at hr; simp [execOp, ho, hr]
end
end
end Go.Proofs.YtfbfjhppppoilaaGreatDoor.E

namespace Go.Proofs.YtfbfjhppppoilaaGreatDoor.E
open Go.MapKept
structure MapOf {κ β : Type} (G : Nat → Prop) (H : Heap) (fk : κ → Value) (fv : β → Value) (v : Value) (m : List (κ × β)) : Prop where
 ex : ∃ r es clock, v = .map (some r) ∧ G r ∧ H[r]? = some (.map es clock) ∧ Stamped es clock ∧ es.toList.map (fun e => (e.key, e.val)) = m.map (fun p => (fk p.1, fv p.2))
section
variable {κ β : Type} {G : Nat → Prop} {H H' : Heap} {fk : κ → Value} {fv : β → Value} {v : Value} {m : List (κ × β)}
theorem MapOf.up {S : Nat → Prop} (h : MapOf G H fk fv v m) (s : Mo S H H') (hS : ∀ b, b < H.size → G b → ¬ S b) : MapOf G H' fk fv v m := by
 obtain ⟨r, es, clock, h1, h2, h3, h4⟩ := h.ex; have hlt := (Array.getElem?_eq_some_iff.1 h3).1; exact ⟨r, es, clock, h1, h2, by rw [s.same r hlt (hS r hlt h2)]; exact h3, h4⟩
theorem MapOf.nw (h : MapOf G H fk fv v m) (s : Nw H H') : MapOf G H' fk fv v m := h.up s (fun _ _ _ e => e)
theorem MapOf.nodup (h : MapOf G H fk fv v m) : (m.map (·.1)).Nodup := by
 obtain ⟨r, es, clock, h1, h2, h3, h4, h5⟩ := h.ex; have h6 := h4.2.2
 have : es.toList.map (·.key) = (m.map (·.1)).map fk := by
  have := congrArg (List.map Prod.fst) h5
  simpa [Function.comp_def] using this
 rw [this, List.nodup_iff_pairwise_ne, List.pairwise_map] at h6; rw [List.nodup_iff_pairwise_ne]; exact h6.imp (fun hne e => hne (by rw [e]))
end
theorem MapOf.blk_lt {κ β : Type} {G : Nat → Prop} {H : Heap} {fk : κ → Value} {fv : β → Value} {v : Value} {m : List (κ × β)} (h : MapOf G H fk fv v m) : blk v < H.size := by
 obtain ⟨r, es, clock, rfl, h2, h3, h4⟩ := h.ex; exact (Array.getElem?_eq_some_iff.1 h3).1
def mget {κ β : Type} [DecidableEq κ] : List (κ × β) → κ → Option β
 | [], _ => none
 | p :: m, k => if k = p.1 then some p.2 else mget m k
structure KeyFn {κ : Type} (d : TypeDesc) (fk : κ → Value) : Prop where
 key : ∀ k, IsKey d (fk k)
 inj : ∀ a b, fk a = fk b → a = b
theorem keyStr : KeyFn .string Str := ⟨fun _ => trivial, fun a b h => by simpa [Str] using h⟩
def mput {κ β : Type} [DecidableEq κ] (m : List (κ × β)) (k : κ) (b : β) : List (κ × β) := if (mget m k).isSome then m.map (fun p => if p.1 = k then (p.1, b) else p) else m ++ [(k, b)]
section
variable {P : Program} {w0 : World} {n : Nat} {l : FL} {H : Heap} {o : Oper}
variable {κ β : Type} [DecidableEq κ] {G : Nat → Prop} {fk : κ → Value} {fv : β → Value} {v : Value} {m : List (κ × β)} {d : TypeDesc}
theorem find_entries {k : κ} (hfk : KeyFn d fk) : ∀ (es : List MapEntry) (m : List (κ × β)) (i : Nat), es.map (fun e => (e.key, e.val)) = m.map (fun p => (fk p.1, fv p.2)) →
 (mget m k = none ∧ Instr.findNow d (fk k) es i = some none ∧ ∀ x ∈ es, x.key ≠ fk k) ∨ ∃ j e b, mget m k = some b ∧ Instr.findNow d (fk k) es i = some (some (i + j, fv b)) ∧ es[j]? = some e ∧ e.key = fk k ∧ e.val = fv b
 | [], m, i, h => by
   have : m = [] := by cases m <;> simp_all
   subst this
   exact .inl ⟨rfl, rfl, by simp⟩
 | e :: es, m, i, h => by
   match m, h with
   | (a, b) :: m, h =>
     simp only [List.map_cons, List.cons.injEq, Prod.mk.injEq] at h; obtain ⟨⟨h1, h2⟩, h3⟩ := h; obtain ⟨r, hr, hiff⟩ := sameNow_of_keys (hfk.key k) (b := e.key) (by rw [h1]; exact hfk.key a)
     cases r with
     | true =>
       have hk : k = a := hfk.inj _ _ (by rw [hiff.1 rfl, h1]); subst hk
       exact .inr ⟨0, e, b, by simp [mget], by simp [Instr.findNow, hr, h2], rfl, h1, h2⟩
     | false =>
       have hne : k ≠ a := fun q => by subst q; have := hiff.2 h1.symm; cases this
       rcases find_entries (k := k) hfk es m (i + 1) h3 with ⟨q1, q2, q3⟩ | ⟨j, e', b', q1, q2, q3, q4, q5⟩
       · refine .inl ⟨?_, by simp [Instr.findNow, hr, q2], ?_⟩
         · simp only [mget, hne, if_false]; exact q1
         · intro x hx
           cases hx with
           | head => intro q; exact hne (hfk.inj _ _ (by rw [← q, h1]))
           | tail _ hx => exact q3 x hx
       · refine .inr ⟨j + 1, e', b', ?_, ?_, by simpa using q3, q4, q5⟩
         · simp only [mget, hne, if_false]; exact q1
         · simp [Instr.findNow, hr, q2]; omega
theorem run_lookup {w : World} {t kt et : TypeId} {z : Value} {k : κ} {ok : Bool} (h : MapOf G H fk fv v m) (hfk : KeyFn d fk) (ha : At w0 H w) (hm : ∀ w, (underlying t).run P w = .ok (.map kt et) w) (hk : P.underlying kt = some d) (hz : ∀ w, (zeroValue et).run P w = .ok z w) :
 (Instr.lookup t v (fk k) ok).run P w = .ok (if ok then .tuple #[(match mget m k with | some b => fv b | none => z), .bool (mget m k).isSome] else (match mget m k with | some b => fv b | none => z)) w := by
 obtain ⟨r, es, clock, rfl, h2, h3, h4, h5⟩ := h.ex; have h3' : w.heap[r]? = some (.map es clock) := by rw [ha.heap]; exact h3
 rcases find_entries (k := k) hfk es.toList m 0 h5 with ⟨q1, q2, q3⟩ | ⟨j, e', b', q1, q2, q3, q4, q5⟩
 · simp [Instr.lookup, hm, MapKept.run_getObj_map h3', MapKept.run_checkKey hk (hfk.key k), MapKept.run_findKey hk q2, q1, hz]
 · simp [Instr.lookup, hm, MapKept.run_getObj_map h3', MapKept.run_checkKey hk (hfk.key k), MapKept.run_findKey hk q2, q1]
theorem modify_entries {k : κ} {b : β} {key : Value} (hfk : KeyFn d fk) (hkey : key = fk k) : ∀ (es : List MapEntry) (m : List (κ × β)) (j : Nat) (e : MapEntry), es.map (fun e => (e.key, e.val)) = m.map (fun p => (fk p.1, fv p.2)) → (es.map (·.key)).Nodup → es[j]? = some e → e.key = fk k →
 (es.modify j (fun e => { e with key := key, val := fv b })).map (fun e => (e.key, e.val)) = (m.map (fun p => if p.1 = k then (p.1, b) else p)).map (fun p => (fk p.1, fv p.2))
 | [], _, _, _, _, _, h, _ => by simp at h
 | x :: es, m, j, e, h, hn, hj, he => by
   match m, h with
   | (a, c) :: m, h =>
     simp only [List.map_cons, List.cons.injEq, Prod.mk.injEq] at h; obtain ⟨⟨h1, h2⟩, h3⟩ := h; simp only [List.map_cons, List.nodup_cons] at hn
     cases j with
     | zero =>
       simp only [List.getElem?_cons_zero, Option.some.injEq] at hj; subst hj; have hak : a = k := hfk.inj _ _ (by rw [← h1, he]); subst hak; simp only [List.modify_zero_cons, List.map_cons, if_true, hkey]; congr 1; rw [h3, List.map_map]; apply List.map_congr_left; intro p hp
       have : p.1 ≠ a := by
        intro e; apply hn.1; have : (fk p.1, fv p.2) ∈ es.map (fun e => (e.key, e.val)) := by rw [h3]; exact List.mem_map.2 ⟨p, hp, rfl⟩
        obtain ⟨y, hy, hye⟩ := List.mem_map.1 this; simp only [Prod.mk.injEq] at hye; exact List.mem_map.2 ⟨y, hy, by rw [hye.1, e, h1]⟩
       simp [this]
     | succ j =>
       simp only [List.getElem?_cons_succ] at hj
       have hak : a ≠ k := by
        intro q; subst q; apply hn.1; rw [h1, ← he]; exact List.mem_map.2 ⟨e, List.mem_of_getElem? hj, rfl⟩
       simp only [List.modify_succ_cons, List.map_cons, hak, if_false, h1, h2]; rw [modify_entries hfk hkey es m j e h3 hn.2 hj he]
theorem S.mapUpdate {t kt et : TypeId} {x i y : Operand} {k : κ} {b : β} (h : MapOf G H fk fv v m) (hfk : KeyFn d fk) (ho : o.op = .mapUpdate t x i y) (hm : ∀ w, (underlying t).run P w = .ok (.map kt et) w) (hk : P.underlying kt = some d)
 (hx : opv l x = some v) (hi : opv l i = some (fk k)) (hy : opv l y = some (fv b)) : S P w0 n l H o (fun H' => MapOf G H' fk fv v (mput m k b) ∧ Mo (fun c => c = blk v) H H') := by
 intro ac w hf ha; obtain ⟨r, es, clock, hv, h2, h3, h4, h5⟩ := h.ex; have h3' : w.heap[r]? = some (.map es clock) := by rw [ha.heap]; exact h3
 have hblk : blk v = r := by rw [hv]; rfl
 have hlt := (Array.getElem?_eq_some_iff.1 h3).1; have hmo : ∀ ob, Mo (fun c => c = blk v) H (H.setIfInBounds r ob) := fun ob => ⟨by simp, fun b hb hne => by rw [hblk] at hne; simp [Ne.symm hne]⟩; have hget : ∀ ob, (H.setIfInBounds r ob)[r]? = some ob := fun ob => by simp [hlt]
 rcases find_entries (k := k) hfk es.toList m 0 h5 with ⟨q1, q2, q3⟩ | ⟨j, e', b', q1, q2, q3, q4, q5⟩
 · refine ⟨H.setIfInBounds r (.map (es.push { key := fk k, val := fv b, born := clock }) (clock + 1)), { w with heap := H.setIfInBounds r (.map (es.push { key := fk k, val := fv b, born := clock }) (clock + 1)) }, ?_, ha.set, ⟨r, _, _, hv, h2, hget _, stamped_push h4 q3, ?_⟩, hmo _⟩
   · simp [execOp, ho, hf.eval hx, hf.eval hi, hf.eval hy, hv, Instr.mapUpdate, hm, MapKept.run_getObj_map h3', MapKept.run_checkKey hk (hfk.key k), MapKept.run_findKey hk q2, MapKept.run_setObj_map _ h3', ha.heap]
   · simp [mput, q1, h5]
 · have hj : es[j]? = some e' := by simpa using q3
   have hkey : ∀ e, es[j]? = some e → ({ e with key := fk k, val := fv b } : MapEntry).key = e.key := fun e he => by rw [hj] at he; cases he; exact q4.symm
   refine ⟨H.setIfInBounds r (.map (es.modify j fun e => { e with key := fk k, val := fv b }) clock), { w with heap := H.setIfInBounds r (.map (es.modify j fun e => { e with key := fk k, val := fv b }) clock) }, ?_, ha.set, ⟨r, _, _, hv, h2, hget _, stamped_modify h4 _ _ (fun _ _ => rfl) (fun e _ he => hkey e he), ?_⟩, hmo _⟩
   · simp [execOp, ho, hf.eval hx, hf.eval hi, hf.eval hy, hv, Instr.mapUpdate, hm, MapKept.run_getObj_map h3', MapKept.run_checkKey hk (hfk.key k), MapKept.run_findKey hk q2, hj, q4, MapKept.run_keyThatStays (hfk.key k), MapKept.run_setObj_map _ h3', ha.heap]
   · have := modify_entries (fv := fv) (b := b) hfk rfl es.toList m j e' h5 h4.2.2 q3 q4
     rw [Array.toList_modify, this]; simp [mput, q1]
end
end Go.Proofs.YtfbfjhppppoilaaGreatDoor.E

namespace Go.Proofs.YtfbfjhppppoilaaGreatDoor.E
structure Var (e : TypeId) (H : Heap) (b : Nat) (cs : List Value) : Prop where
 row : Row H b cs.toArray e
theorem Var.lt {e : TypeId} {H : Heap} {b : Nat} {cs : List Value} (h : Var e H b cs) : b < H.size := h.row.lt
theorem Var.up {e : TypeId} {H H' : Heap} {b : Nat} {cs : List Value} {S : Nat → Prop} (h : Var e H b cs) (s : Mo S H H') (hS : ¬ S b) : Var e H' b cs := ⟨h.row.up (s.same b h.lt hS)⟩
theorem Var.nw {e : TypeId} {H H' : Heap} {b : Nat} {cs : List Value} (h : Var e H b cs) (s : Nw H H') : Var e H' b cs := h.up s (fun e => e)
theorem Var.pt {e : TypeId} {H : Heap} {b : Nat} {cs : List Value} (h : Var e H b cs) : Pt H ⟨b, 0, none⟩ cs :=
 ⟨rfl, fun j c hc => by simp only [Nat.zero_add]; rw [h.row.cell]; simpa using hc⟩
theorem Var.new (H : Heap) (cs : Array Value) (t : TypeId) : Var t (H.push (.cells cs t)) H.size cs.toList := ⟨.of (by simp)⟩
def splice (cs : List Value) (i : Nat) (vs : List Value) : List Value := cs.take i ++ vs ++ cs.drop (i + vs.length)
section
variable {P : Program} {w0 : World} {n : Nat} {l : FL} {H : Heap} {o : Oper}
theorem Z.allocv {t : TypeId} {z : Value} (ho : o.op = .alloc t) (hz : ∀ w, (zeroValue t).run P w = .ok z w) : Z P w0 n l H o (fun v H' => v = .pointer (some ⟨H.size, 0, none⟩) ∧ Var t H' H.size z.cells.toList ∧ Nw H H' ∧ ∃ ob, H' = H.push ob) := by
 intro a w hf ha; obtain ⟨v, H', w', h1, h2, h3, h4⟩ := Z.alloc (P := P) (w0 := w0) (n := n) (l := l) (H := H) ho hz a w hf ha; subst h4; exact ⟨v, _, w', h1, h2, h3, Var.new _ _ _, Nw.pu _ _, _, rfl⟩
theorem Z.boxv {t : TypeId} {x : Operand} {v : Value} (ho : o.op = .box t x) (hx : opv l x = some v) : Z P w0 n l H o (fun r H' => r = .pointer (some ⟨H.size, 0, none⟩) ∧ Var t H' H.size v.cells.toList ∧ Nw H H' ∧ ∃ ob, H' = H.push ob) := by
 intro a w hf ha; obtain ⟨v, H', w', h1, h2, h3, h4⟩ := Z.box (P := P) (w0 := w0) (n := n) (H := H) ho hx a w hf ha; subst h4; exact ⟨v, _, w', h1, h2, h3, Var.new _ _ _, Nw.pu _ _, _, rfl⟩
theorem cells_one {v : Value} (h : v.oneCell' = true) : v.cells.toList = [v] := by cases v <;> first | (simp [Value.oneCell'] at h; done) | rfl
theorem Z.boxv1 {t : TypeId} {x : Operand} {v : Value} (ho : o.op = .box t x) (hx : opv l x = some v) (h1 : v.oneCell' = true) : Z P w0 n l H o (fun r H' => r = .pointer (some ⟨H.size, 0, none⟩) ∧ Var t H' H.size [v] ∧ Nw H H' ∧ ∃ ob, H' = H.push ob) := by
 intro a w hf ha; obtain ⟨r, H', w', q1, q2, q3, q4, q5, q6⟩ := Z.boxv (P := P) (w0 := w0) (n := n) (H := H) ho hx a w hf ha; rw [cells_one h1] at q4; exact ⟨r, H', w', q1, q2, q3, q4, q5, q6⟩
theorem At.row {w : World} (ha : At w0 H w) (g : Nat) (c : Array Value) : At w0 (w.setRow g c).heap (w.setRow g c) := ⟨rfl, ha.os, ha.tape, ha.output, ha.dr⟩
theorem setRow_mo {w : World} (ha : At w0 H w) (g : Nat) (c : Array Value) : Mo (fun b => b = g) H (w.setRow g c).heap :=
 ⟨by rw [← ha.heap]; simp [World.setRow], fun b hb hn => by rw [← ha.heap]; exact setRow_other w g b _ (fun e => hn e)⟩
theorem setRow_row {w : World} (ha : At w0 H w) {g : Nat} {cur c : Array Value} {e : TypeId} (h : Row H g cur e) (hc : c.size = cur.size) : Row (w.setRow g c).heap g c e := by
 obtain ⟨fz, h1, h2⟩ := h; exact ⟨fz, setRow_heap w g cur _ e _ (by rw [ha.heap]; exact h1), by rw [hc]; exact h2⟩
theorem S.cells {x y : Operand} {t : TypeId} {b i k : Nat} {c : Value} {cs : Array Value} {e : TypeId} (ho : o.op = .store t x y) (hx : opv l x = some (.pointer (some ⟨b, i, none⟩))) (hy : opv l y = some c) (h1 : ∀ u ∈ c.cells.toList, u.oneCell' = true)
 (hs : ∀ w, (sizeOf t).run P w = .ok k w) (hk : c.cells.size = k) (hb : Row H b cs e) (hi : i + k ≤ cs.size) : S P w0 n l H o (fun H' => Row H' b (splice cs.toList i c.cells.toList).toArray e ∧ Mo (fun g => g = b) H H') := by
 intro a w hf ha; obtain ⟨fz, hb1, hb2⟩ := id hb; have hr := run_storeCells_soft P b i e fz c.cells.toList 0 cs w (by rw [ha.heap]; exact hb1) hb2 (by simp [hk]; omega) h1; simp only [Nat.add_zero] at hr; refine ⟨_, w.setRow b (splice cs.toList i c.cells.toList).toArray, ?_, ha.row _ _, setRow_row ha hb (by simp [splice, hk]; omega), setRow_mo ha _ _⟩; simp [execOp, ho, hf.eval hx, hf.eval hy, Instr.storeAt, Instr.sureAddr, storeVar, hk, hs, hr, splice]
theorem S.var {x y : Operand} {t : TypeId} {b i k : Nat} {c : Value} {cs : List Value} {e : TypeId} (h : Var e H b cs) (vs cs' : List Value) (ho : o.op = .store t x y) (hx : opv l x = some (.pointer (some ⟨b, i, none⟩))) (hy : opv l y = some c) (hc : c.cells.toList = vs) (h1 : ∀ u ∈ vs, u.oneCell' = true)
 (hs : ∀ w, (sizeOf t).run P w = .ok k w) (hk : vs.length = k) (hi : i + k ≤ cs.length) (hz : splice cs i vs = cs') : S P w0 n l H o (fun H' => Var e H' b cs' ∧ Mo (fun g => g = b) H H') := by
 subst hc hz; intro a w hf ha; obtain ⟨H', w', q1, q2, q3, q4⟩ := S.cells (P := P) (w0 := w0) (n := n) ho hx hy h1 hs (by simpa using hk) h.row (by simpa using hi) a w hf ha; exact ⟨H', w', q1, q2, ⟨q3⟩, q4⟩
theorem splice_one {cs : List Value} {i : Nat} {c : Value} (h : i < cs.length) : splice cs i [c] = cs.set i c := by
 simp [splice, List.set_eq_take_append_cons_drop, h]
theorem S.var1 {x y : Operand} {t : TypeId} {b : Nat} {c : Value} {cs : List Value} {e : TypeId} (h : Var e H b cs) (i : Nat) (cs' : List Value) (ho : o.op = .store t x y) (hx : opv l x = some (.pointer (some ⟨b, i, none⟩))) (hy : opv l y = some c) (h1 : c.oneCell' = true)
 (hs : ∀ w, (sizeOf t).run P w = .ok 1 w) (hi : i < cs.length) (hz : cs.set i c = cs') : S P w0 n l H o (fun H' => Var e H' b cs' ∧ Mo (fun g => g = b) H H') :=
 S.var h [c] cs' ho hx hy (cells_one h1) (by simpa using h1) hs rfl (by omega) ((splice_one hi).trans hz)
section
variable {α : Type} {G F : Nat → Prop} {e : TypeId} {f : α → List Value} {sz : Nat} {v : Value} {xs ys : List α}
theorem Own.front {cap : Nat} {ad : Option Addr} {k : Nat} (h : Own G e H f sz (.slice ad xs.length cap) xs) (hk : k ≤ xs.length) (hne : xs ≠ []) : Own G e H f sz (.slice ad k cap) (xs.take k) := by
 refine ⟨h.cells, h.one, ?_⟩; rcases h.ex with ⟨_, rfl⟩ | ⟨g, cap', cur, hv, hg, hh, r1, r2, r3, r4⟩
 · exact absurd rfl hne
 · simp only [Value.slice.injEq, true_and] at hv
   obtain ⟨rfl, rfl⟩ := hv; have hl : (xs.take k).length = k := by simp; omega
   refine .inr ⟨g, cap, cur, by rw [hl], hg, hh, by omega, r2, r3, ?_⟩; rw [hl]
   have : (xs.take k).flatMap f = (xs.flatMap f).take (k * sz) := by
    have h2 : xs.flatMap f = (xs.take k).flatMap f ++ (xs.drop k).flatMap f := by rw [← List.flatMap_append, List.take_append_drop]
    rw [h2, ← hl, ← length_flatMap h.cells (xs.take k), hl]; rw [List.take_left]
   rw [this, ← r4, List.take_take]; congr 1; exact (Nat.min_eq_left (Nat.mul_le_mul_right _ hk)).symm
end
theorem fold_push (l : List UInt8) : ∀ acc : List UInt8, (l.map (fun b => (b.toNat : Int))).foldl (fun r n => r.push (UInt8.ofNat n.toNat)) (ByteArray.mk acc.toArray) = ByteArray.mk (acc ++ l).toArray := by
 induction l with
 | nil => intro acc; simp
 | cons b l ih =>
   intro acc; rw [List.map_cons, List.foldl_cons]
   have : (ByteArray.mk acc.toArray).push (UInt8.ofNat ((b.toNat : Int)).toNat) = ByteArray.mk (acc ++ [b]).toArray := by
    simp [ByteArray.push]
   rw [this, ih]; simp
theorem flatMap_fB (l : List UInt8) : l.flatMap fB = l.map (fun b => Value.int .u8 b.toNat) := by
 induction l with
 | nil => rfl
 | cons b l ih => simp [ih]
theorem data_map (s : List UInt8) : Array.map (fun b : UInt8 => Value.int .u8 (b.toNat : Int)) s.toArray = (s.flatMap fB).toArray := by
 rw [flatMap_fB]; simp
theorem Y.bstr {F : Nat → Prop} {x : Operand} {t u e : TypeId} {v : Value} {xs : List UInt8} (h : Rd F H fB 1 v xs) (ho : o.op = .convert t u x) (ht : P.underlying t = some (.slice e)) (hu : P.underlying u = some .string) (he : P.underlying e = some (.int .u8)) (hx : opv l x = some v) : Y P w0 n l H o (Str xs) := by
 intro a w hf ha; obtain ⟨ad, cap, rfl, _, _, h3⟩ := id h.ex; have hc := run_convert_bytes_string (P := P) w t u e ad xs.length cap ht he hu
 cases ad with
 | none =>
   have hxs : xs = [] := by
    apply Decidable.byContradiction; intro hne; obtain ⟨ad, hn, _⟩ := h3 hne; cases hn
   subst hxs
   have hc' : (convert t u (.slice none 0 cap)).run P w = .ok (Str []) w := by
    rw [show (0 : Nat) = ([] : List UInt8).length from rfl, hc]; rfl
   simp [execOp, ho, hf.eval hx, hc']
 | some ad =>
   have hnews := h.pts fB_len rfl ha; have hl := run_loadCells_list (P := P) w ad (xs.flatMap fB) hnews; have hlen : (xs.flatMap fB).length = xs.length := by rw [length_flatMap fB_len, Nat.mul_one]
   have hb := run_bytesToString (P := P) w ad xs.length cap (xs.map (fun b => (b.toNat : Int))) (by
    rw [hlen] at hl; rw [hl, flatMap_fB, List.map_map]; rfl)
   have hfp := fold_push xs []; simp only [List.nil_append] at hfp; have hemp : ByteArray.empty = ByteArray.mk ([] : List UInt8).toArray := rfl; rw [hemp, hfp] at hb; simp [execOp, ho, hf.eval hx, hc, hb, Str]
theorem Z.strb {x : Operand} {t u e : TypeId} {ut : TypeDesc} {s : List UInt8} (ho : o.op = .convert t u x) (ht : P.underlying t = some ut) (hu : P.underlying u = some (.slice e)) (he : P.underlying e = some (.int .u8)) (hx : opv l x = some (Str s)) (hb : s.length ≤ 9223372036854775807) :
 Z P w0 n l H o (fun r H' => Own (fun b => b = H.size) e H' fB 1 r s ∧ Nw H H' ∧ H'.size = H.size + 1) := by
 intro a w hf ha; have hr := Lib.run_convert_string_bytes (P := P) w t u e (ByteArray.mk s.toArray) ht hu he; have hsz := str_size s; have hge := grownCap_ge w s.length 0 e; have hcm : grownCap w s.length 0 e ≤ maxLen := grownCap_le_maxLen w s.length 0 e (by unfold maxLen; omega)
 have hcs : (Lib.bytesCells w e (ByteArray.mk s.toArray)).size = grownCap w s.length 0 e := by
  simp only [Lib.bytesCells, hsz, data_map, Array.size_append, List.size_toArray, length_flatMap fB_len, Array.size_replicate, Nat.mul_one]; omega
 refine ⟨_, (Lib.bytesWorld w e (ByteArray.mk s.toArray)).heap, Lib.bytesWorld w e (ByteArray.mk s.toArray), by simp [execOp, ho, hf.eval hx, hr, Str]; rfl, ⟨rfl, ?_, ?_, ?_, ?_⟩, ⟨fB_len, fB_one, .inr ⟨w.heap.size, grownCap w s.length 0 e, _, by rw [hsz], ha.heap ▸ rfl, ⟨_, Lib.bytesWorld_at_new w e _, ?_⟩, hge, hcm, ?_, ?_⟩⟩, ⟨?_, ?_⟩, ?_⟩
 · have := ha.os; simp only [Lib.bytesWorld, World.freeze]; exact this
 · have := ha.tape; simp only [Lib.bytesWorld, World.freeze]; exact this
 · have := ha.output; simp only [Lib.bytesWorld, World.freeze]; exact this
 · have := ha.dr; simp only [Lib.bytesWorld, World.freeze]; first | exact this | exact Nat.le_succ_of_le this
 · refine ⟨by simp only; omega, ?_⟩; intro i hi hc; simp only at hc; omega
 · rw [hcs, Nat.mul_one]
 · simp only [Lib.bytesCells, data_map, Array.toList_append]
   rw [← length_flatMap fB_len s]; exact List.take_left
 · rw [Lib.bytesWorld_size, ha.heap]; omega
 · intro b hb _; rw [← ha.heap] at hb ⊢; exact Lib.bytesWorld_at_old w e _ b hb
 · rw [Lib.bytesWorld_size, ha.heap]
end
end Go.Proofs.YtfbfjhppppoilaaGreatDoor.E

namespace Go.Proofs.YtfbfjhppppoilaaGreatDoor.E
structure Ow {α : Type} (k : Nat) (e : TypeId) (H : Heap) (f : α → List Value) (sz : Nat) (v : Value) (l : List α) : Prop where
 own : Own (fun b => b + 1 = k) e H f sz v l
 le : k ≤ H.size
section
variable {α : Type} {k : Nat} {e : TypeId} {H H' : Heap} {f : α → List Value} {sz : Nat} {v : Value} {l : List α}
theorem Ow.rd (h : Ow k e H f sz v l) : Rd (fun b => b + 1 = k) H f sz v l := h.own.rd
theorem Ow.sv (h : Ow k e H f sz v l) : (toSV v).v = v := h.own.sv
theorem Ow.up {S : Nat → Prop} (h : Ow k e H f sz v l) (s : Mo S H H') (hS : ∀ b, b < H.size → b + 1 = k → ¬ S b) : Ow k e H' f sz v l := ⟨h.own.up s hS, Nat.le_trans h.le s.size⟩
theorem Ow.nw (h : Ow k e H f sz v l) (s : Nw H H') : Ow k e H' f sz v l := h.up s (fun _ _ _ e => e)
theorem Ow.nil (hf : ∀ x, (f x).length = sz) (h1 : ∀ x, ∀ u ∈ f x, u.oneCell' = true) : Ow 0 e H f sz (.slice none 0 0) ([] : List α) := ⟨Own.nil hf h1, Nat.zero_le _⟩
theorem Ow.of {G : Nat → Prop} (h : Own G e H f sz v l) : ∃ k, Ow k e H f sz v l ∧ (k = 0 ∨ ∃ g, k = g + 1 ∧ G g) := by
 rcases h.ex with ⟨rfl, rfl⟩ | ⟨g, cap, cur, hv, hg, hh, r⟩
 · exact ⟨0, ⟨⟨h.cells, h.one, .inl ⟨rfl, rfl⟩⟩, Nat.zero_le _⟩, .inl rfl⟩
 · exact ⟨g + 1, ⟨⟨h.cells, h.one, .inr ⟨g, cap, cur, hv, rfl, hh, r⟩⟩, hh.lt⟩, .inr ⟨g, rfl, hg⟩⟩
theorem Ow.at {j : Nat} (h : Ow k e H f sz v l) (hj : j < l.length) : blk v + 1 = k := (h.own.at hj).1
theorem Ow.pt {j : Nat} (h : Ow k e H f sz v l) (hj : j < l.length) : Pt H ⟨blk v, j * sz, none⟩ (f l[j]) := h.own.pt hj
end
def Dj (a b : Nat) : Prop := ∀ c, c + 1 = a → c + 1 ≠ b
def Nx (k h k2 : Nat) : Prop := k2 = 0 ∨ k2 = k ∨ h < k2
def Ms (ks : List Nat) : Nat → Prop := fun c => c + 1 ∈ ks
def DL (a : Nat) (ks : List Nat) : Prop := ∀ k ∈ ks, Dj a k
def DF (F : Nat → Prop) (k : Nat) : Prop := ∀ b, F b → b + 1 ≠ k
def BF (F : Nat → Prop) (h : Nat) : Prop := ∀ b, F b → b < h
def DFL (F : Nat → Prop) (ks : List Nat) : Prop := ∀ k ∈ ks, DF F k
def MI (ks : List Nat) (h k : Nat) : Prop := ∀ b, b < h → b + 1 = k → Ms ks b
def MIL (ks : List Nat) (h : Nat) (js : List Nat) : Prop := ∀ k ∈ js, MI ks h k
section
variable {a b k k2 k3 h h2 : Nat} {ks js : List Nat} {F : Nat → Prop}
theorem Dj.symm (d : Dj a b) : Dj b a := fun c h1 h2 => d c h2 h1
theorem Dj.new (ha : a ≤ h) : Dj a (h + 1) := fun c h1 h2 => by omega
theorem Dj.z : Dj a 0 := fun c h1 h2 => by omega
theorem Dj.z2 : Dj 0 a := fun c h1 h2 => by omega
theorem Dj.app (d : Dj a k) (ha : a ≤ h) (hk : Nx k h k2) : Dj a k2 := fun c h1 h2 => by
 rcases hk with rfl | rfl | hk
 · omega
 · exact d c h1 h2
 · omega
theorem Dj.ne (d : Dj (a + 1) (b + 1)) : a ≠ b := fun e => d a rfl (by rw [e])
theorem Dj.of (d : a ≠ b) : Dj (a + 1) (b + 1) := fun c h1 h2 => by omega
theorem Nx.refl (k h : Nat) : Nx k h k := .inr (.inl rfl)
theorem Nx.new (hh : h ≤ h2) : Nx 0 h (h2 + 1) := .inr (.inr (by omega))
theorem Nx.tr (x : Nx k h k2) (y : Nx k2 h2 k3) (hh : h ≤ h2) : Nx k h k3 := by
 unfold Nx at *; omega
theorem DL.nil : DL a [] := fun k hk => by cases hk
theorem DL.cons (d : Dj a k) (e : DL a ks) : DL a (k :: ks) := fun j hj => by
 rcases List.mem_cons.1 hj with rfl | hj
 · exact d
 · exact e j hj
theorem DFL.nil : DFL F [] := fun k hk => by cases hk
theorem DFL.cons (d : DF F k) (e : DFL F ks) : DFL F (k :: ks) := fun j hj => by
 rcases List.mem_cons.1 hj with rfl | hj
 · exact d
 · exact e j hj
theorem DF.new (hb : BF F h) : DF F (h + 1) := fun b h1 h2 => by have := hb b h1; omega
theorem DF.z : DF F 0 := fun b h1 h2 => by omega
theorem DF.app (d : DF F k) (hb : BF F h) (hk : Nx k h k2) : DF F k2 := fun b h1 h2 => by
 have := hb b h1; rcases hk with rfl | rfl | hk
 · omega
 · exact d b h1 h2
 · omega
theorem BF.of (le : k ≤ h) : BF (fun b => b + 1 = k) h := fun b e => by simp only at e; omega
theorem DF.of (d : Dj a k) : DF (fun b => b + 1 = a) k := fun b e => d (b + 1 - 1) (by simp only at e; omega)
theorem BF.mono (hb : BF F h) (hh : h ≤ h2) : BF F h2 := fun b h1 => Nat.lt_of_lt_of_le (hb b h1) hh
theorem MI.root (hm : k ∈ ks) : MI ks h k := fun b _ h2 => by unfold Ms; rw [h2]; exact hm
theorem MI.z : MI ks h 0 := fun b h1 h2 => by omega
theorem MI.new (hh : h ≤ h2) : MI ks h (h2 + 1) := fun b h1 h3 => by omega
theorem MI.app (x : MI ks h k) (hk : Nx k h2 k2) (hh : h ≤ h2) : MI ks h k2 := fun b h1 h3 => by
 rcases hk with rfl | rfl | hk
 · omega
 · exact x b h1 h3
 · omega
theorem MIL.nil : MIL ks h [] := fun k hk => by cases hk
theorem MIL.cons (d : MI ks h k) (e : MIL ks h js) : MIL ks h (k :: js) := fun j hj => by
 rcases List.mem_cons.1 hj with rfl | hj
 · exact d
 · exact e j hj
theorem Mo.md {H H' : Heap} (s : Mo (fun b => b + 1 = k) H H') : Mo (Ms [k]) H H' := s.weaken (fun b _ e => by unfold Ms; simp; exact e)
theorem Mo.md1 {H H' : Heap} (s : Mo (fun g => g = b) H H') : Mo (Ms [b + 1]) H H' := s.weaken (fun c _ e => by unfold Ms; simp; exact e)
theorem Mo.mdn {H H' : Heap} (s : Nw H H') (ks : List Nat) : Mo (Ms ks) H H' := s.weaken (fun c _ e => e.elim)
theorem Mo.nil {H H' : Heap} (s : Mo (Ms []) H H') : Nw H H' := s.weaken (fun c _ e => by cases e)
theorem Mo.trL {H0 H H' : Heap} (x : Mo (Ms ks) H0 H) (s : Mo (Ms js) H H') (d : MIL ks H0.size js) : Mo (Ms ks) H0 H' :=
 Mo.trans x s (fun _ _ e => e) (fun b hb e => d (b + 1) e b hb rfl)
theorem Mo.trN {H0 H H' : Heap} (x : Mo (Ms ks) H0 H) (s : Nw H H') : Mo (Ms ks) H0 H' := Mo.trans x s (fun _ _ e => e) (fun _ _ e => e.elim)
theorem Ow.upL {α : Type} {e : TypeId} {H H' : Heap} {f : α → List Value} {sz : Nat} {v : Value} {l : List α} (x : Ow a e H f sz v l) (s : Mo (Ms ks) H H') (d : DL a ks) : Ow a e H' f sz v l :=
 x.up s (fun b _ h1 h2 => d (b + 1) h2 b h1 rfl)
theorem Var.upL {e : TypeId} {H H' : Heap} {cs : List Value} (x : Var e H b cs) (s : Mo (Ms ks) H H') (d : DL (b + 1) ks) : Var e H' b cs := x.up s (fun h2 => d (b + 1) h2 b rfl rfl)
theorem Rd.bnd {α : Type} {H : Heap} {f : α → List Value} {sz : Nat} {v : Value} {l : List α} (x : Rd F H f sz v l) : Rd (fun b => F b ∧ b < H.size) H f sz v l := x.imp (fun b hb h => ⟨h, hb⟩)
theorem Rd.bf {α : Type} {H : Heap} {f : α → List Value} {sz : Nat} {v : Value} {l : List α} {G : Nat → Prop} (x : Rd (fun b => G b ∧ b < h) H f sz v l) : BF (fun b => G b ∧ b < h) h := fun b e => e.2
theorem Rd.upL {α : Type} {H H' : Heap} {f : α → List Value} {sz : Nat} {v : Value} {l : List α} (x : Rd F H f sz v l) (s : Mo (Ms ks) H H') (d : DFL F ks) : Rd F H' f sz v l :=
 x.up s (fun b _ h1 h2 => d (b + 1) h2 b h1 rfl)
end
structure Qr {α : Type} (k : Nat) (H : Heap) (f : α → List Value) (sz : Nat) (v : Value) (l : List α) : Prop where
 rd : Rd (fun b => b + 1 = k) H f sz v l
 le : k ≤ H.size
section
variable {α : Type} {k : Nat} {ks : List Nat} {e : TypeId} {H H' : Heap} {f : α → List Value} {sz : Nat} {v : Value} {l : List α}
theorem Qr.nw (h : Qr k H f sz v l) (s : Nw H H') : Qr k H' f sz v l := ⟨h.rd.nw s, Nat.le_trans h.le s.size⟩
theorem Qr.upL (h : Qr k H f sz v l) (s : Mo (Ms ks) H H') (d : DL k ks) : Qr k H' f sz v l := ⟨h.rd.up s (fun b _ h1 h2 => d (b + 1) h2 b h1 rfl), Nat.le_trans h.le s.size⟩
theorem Ow.q (h : Ow k e H f sz v l) : Qr k H f sz v l := ⟨h.rd, h.le⟩
end
section
variable {P : Program} {w0 : World} {n : Nat} {l : FL} {H : Heap} {o : Oper} {α : Type} {k : Nat} {e : TypeId} {f : α → List Value} {sz : Nat} {v : Value} {xs ys : List α}
theorem Y.cast {v v2 : Value} (h : Y P w0 n l H o v) (e : v = v2) : Y P w0 n l H o v2 := e ▸ h
theorem LR.gsu {Q : Exit → Act → World → Prop} {ops : Array Oper} {rest : List Oper} {m : Bool} {d j e2 : Nat} {b : Bool} (hg : o.guard = some (j, b)) (hj : (ops[j]?).bind (·.dst) = some e2) (hc : lk l e2 = some undef)
 (hd : o.dst = some d) (hn : Nat.blt d n = true) (h : LR m P w0 ops Q n ((d, undef) :: l) rest H) : LR m P w0 ops Q n l (o :: rest) H := by
 intro a w hf ha
 have hw : Region.wanted o (yielded ops a.tmps) = false := by
  have h1 := hf.get e2 _ hc; have h2 : (ops[j]?).bind (fun o => o.dst) = some e2 := hj
  have h3 : yielded ops a.tmps j = none := by
   unfold yielded; rw [h2]; simp [h1, undef]
  simp [Region.wanted, hg, h3]
 have hp := hf.put hn undef; rw [← hd] at hp; have hh := h _ w hp ha; cases m
 · simp only [Md] at hh ⊢
   unfold wpList; rw [if_neg (by simp [hw])]; exact hh
 · simp only [Md] at hh ⊢
   unfold wpStill; rw [if_neg (by simp [hw])]; exact hh
theorem Z.mono {R R' : Value → Heap → Prop} (h : Z P w0 n l H o R) (hr : ∀ v H', R v H' → R' v H') : Z P w0 n l H o R' := by
 intro a w hf ha; obtain ⟨v, H', w', h1, h2, h3⟩ := h a w hf ha; exact ⟨v, H', w', h1, h2, hr _ _ h3⟩
theorem S.mono {R R' : Heap → Prop} (h : S P w0 n l H o R) (hr : ∀ H', R H' → R' H') : S P w0 n l H o R' := by
 intro a w hf ha; obtain ⟨H', w', h1, h2, h3⟩ := h a w hf ha; exact ⟨H', w', h1, h2, hr _ h3⟩
theorem Z.apnd {F : Nat → Prop} {s x : Operand} {t : TypeId} {u : Value} {bytes : Nat} (h : Ow k e H f sz v xs) (hr : Rd F H f sz u ys) (ho : o.op = .call { callee := .builtin .append, args := #[s, x], argTypes := #[t, t] })
 (hinf : Inf P t e sz bytes) (hs : opv l s = some v) (hx : opv l x = some u) (hb : (xs.length + ys.length) * bytes ≤ 140737488355328) (hm : xs.length + ys.length ≤ 9223372036854775807) :
 Z P w0 n l H o (fun r H' => ∃ k', Ow k' e H' f sz r (xs ++ ys) ∧ (k' = 0 ∨ k' = k ∨ H.size < k') ∧ Mo (fun b => b + 1 = k) H H') :=
 (Z.append h.own hr ho hinf hs hx hb hm).mono fun r H' ⟨h1, h2⟩ => by
  obtain ⟨k', h3, h4⟩ := Ow.of h1; refine ⟨k', h3, ?_, h2⟩; rcases h4 with rfl | ⟨g, rfl, h5⟩
  · exact .inl rfl
  · omega
theorem Ow.new {G : Nat → Prop} {H' : Heap} {c : Obj} (hG : ∀ b, G b → b = H.size) (h : Own G e H' f sz v xs) (hc : H' = H.push c) : Ow (H.size + 1) e H' f sz v xs :=
 ⟨h.imp (fun b _ hb => by rw [hG b hb]), by rw [hc]; simp⟩
theorem Z.litw {t : TypeId} {k bytes : Nat} {parts : List (Nat × Operand)} (vs : List Value) (zs : List α) (ho : o.op = .buildSlice t k parts.toArray) (hinf : Inf P t e sz bytes) (hp : opvs l (parts.map (·.2)) = some vs) (hi : parts.map (·.1) = List.range k) (hk : vs.length = k) (hks : k * sz ≤ 16777216) (hk16 : k ≤ 16777216)
 (hc : ∀ x, (f x).length = sz) (h1 : ∀ x, ∀ u ∈ f x, u.oneCell' = true) (hz : vs.map (fun v => v.cells.toList) = zs.map f) :
 Z P w0 n l H o (fun r H' => Ow (H.size + 1) e H' f sz r zs ∧ Nw H H' ∧ ∃ c, H' = H.push c) :=
 (Z.lit vs zs ho hinf hp hi hk hks hk16 hc h1 hz).mono fun r H' ⟨h1, h2, c, h3⟩ => ⟨Ow.new (fun _ e => e) h1 h3, h2, c, h3⟩
theorem Z.strbw {x : Operand} {t u e : TypeId} {ut : TypeDesc} {s : List UInt8} (ho : o.op = .convert t u x) (ht : P.underlying t = some ut) (hu : P.underlying u = some (.slice e)) (he : P.underlying e = some (.int .u8)) (hx : opv l x = some (Str s)) (hb : s.length ≤ 9223372036854775807) :
 Z P w0 n l H o (fun r H' => Ow (H.size + 1) e H' fB 1 r s ∧ Nw H H' ∧ H'.size = H.size + 1) :=
 (Z.strb ho ht hu he hx hb).mono fun r H' ⟨h1, h2, h3⟩ => ⟨⟨h1.imp (fun b _ hb => by rw [hb]), by rw [h3]; exact Nat.le_refl _⟩, h2, h3⟩
theorem Y.owAddr {x i : Operand} {t : TypeId} {k2 : IntKind} {iv : Int} (h : Ow k e H f sz v xs) (j : Nat) (ho : o.op = .indexAddr t x i) (ht : ∀ w, (underlying t).run P w = .ok (.slice e) w) (hs : ∀ w, (sizeOf e).run P w = .ok sz w)
 (hx : opv l x = some v) (hi : opv l i = some (.int k2 iv)) (hj : iv = j) (hlt : j < xs.length) : Y P w0 n l H o (.pointer (some ⟨blk v, j * sz, none⟩)) := Y.ownAddr h.own j ho ht hs hx hi hj hlt
theorem Y.owFront {x hi : Operand} {t e2 : TypeId} {k2 : IntKind} {iv : Int} (h : Ow k e H f sz v xs) (j : Nat) (ho : o.op = .slice t x none (some hi) none) (ht : ∀ w, (underlying t).run P w = .ok (.slice e2) w) (hs : ∀ w, (sizeOf e2).run P w = .ok sz w)
 (hx : opv l x = some v) (hi2 : opv l hi = some (.int k2 iv)) (hjv : iv = j) (hj : j ≤ xs.length) : ∃ v', (∀ H', Y P w0 n l H' o v') ∧ Ow k e H f sz v' (xs.take j) := by
 have run : ∀ (a : Option Addr) (len cap : Nat), v = .slice a len cap → j ≤ len → len ≤ cap → (∀ ad, a = some ad → ad.spot = none) → ∀ H', Y P w0 n l H' o (.slice a j cap) := by
  rintro a len cap rfl h1 h2 h3 H' ac w hf ha
  have e1 : ∀ w, (Instr.sliceBounds true len cap none (some (ac.eval hi)) none).run P w = .ok (0, j, cap) w := by
   intro w; have b2 : j ≤ cap := by omega
   subst hjv; simp [Instr.sliceBounds, Instr.sliceBound, asIntOf, hf.eval hi2, *]
  have e3 : (if cap = 0 then a else a.map (·.add (0 * sz))) = a := by
   cases a with
   | none => simp
   | some ad => simp [add_eq (h3 ad rfl)]; intro _; obtain ⟨b, o, s⟩ := ad; have := h3 _ rfl; simp at this; rw [this]
  have e4 := e3; simp only [Nat.zero_mul] at e4; simp [execOp, ho, hf.eval hx, Instr.sliceAt, Instr.slice, ht, hs, e1, e4]
 rcases h.own.ex with ⟨rfl, rfl⟩ | ⟨g, cap, cur, hv, hg, hh, r1, r2, r3, r4⟩
 · refine ⟨.slice none j 0, run none 0 0 rfl (by simpa using hj) (Nat.le_refl _) (fun ad e => by cases e), ?_⟩
   have : j = 0 := by simpa using hj
   subst this
   simpa using h
 · refine ⟨.slice (some ⟨g, 0, none⟩) j cap, run _ _ _ hv hj r1 (fun ad e => by rw [← Option.some.inj e]), ⟨?_, h.le⟩⟩
   by_cases hne : xs = []
   · subst hne
     have hj0 : j = 0 := by simpa using hj
     subst hj0; have := h.own; rw [hv] at this
     simpa using this
   · have h2 := h.own
     rw [hv] at h2; exact h2.front hj hne
theorem S.oww {x y : Operand} {t : TypeId} {c : Value} (h : Ow k e H f sz v xs) (j i : Nat) (z : α) (ho : o.op = .store t x y) (hx : opv l x = some (.pointer (some ⟨blk v, j * sz + i, none⟩))) (hy : opv l y = some c) (h1 : c.oneCell' = true)
 (hs : ∀ w, (sizeOf t).run P w = .ok 1 w) (hj : j < xs.length) (hk : i < sz) (hz : f z = (f xs[j]).set i c) : S P w0 n l H o (fun H' => Ow k e H' f sz v (xs.set j z) ∧ Mo (fun b => b + 1 = k) H H') :=
 (S.own h.own j i z ho hx hy h1 hs hj hk hz).mono fun H' ⟨h1, h2⟩ => ⟨⟨h1, Nat.le_trans h.le h2.size⟩, h2.weaken (fun b _ e => by have := h.at hj; omega)⟩
theorem Y.peq {x y : Operand} {t u : TypeId} {p : Option Addr} (ho : o.op = .binOp .eql t x y u) (ht : P.underlying t = some (.pointer (P.pointee t))) (hm : P.eqGuardType P.depth t = false) (hx : opv l x = some (.pointer p)) (hy : opv l y = some (.pointer none)) : Y P w0 n l H o (.bool p.isNone) := by
 intro a w hf ha; have h := run_equal_pointer_nil (w := w) t p ht; simp [execOp, ho, hf.eval hx, hf.eval hy, binOp, eqGuard, h]
theorem Y.pne {x y : Operand} {t u : TypeId} {p : Option Addr} (ho : o.op = .binOp .neq t x y u) (ht : P.underlying t = some (.pointer (P.pointee t))) (hm : P.eqGuardType P.depth t = false) (hx : opv l x = some (.pointer p)) (hy : opv l y = some (.pointer none)) : Y P w0 n l H o (.bool p.isSome) := by
 intro a w hf ha; have h := run_equal_pointer_nil (w := w) t p ht; simp [execOp, ho, hf.eval hx, hf.eval hy, binOp, eqGuard, h]
theorem Y.sleq {x y : Operand} {t u e : TypeId} {p : Option Addr} {k c : Nat} (ho : o.op = .binOp .eql t x y u) (ht : P.underlying t = some (.slice e)) (hx : opv l x = some (.slice p k c)) (hy : opv l y = some (.slice none 0 0)) : Y P w0 n l H o (.bool p.isNone) := by
 intro a w hf ha; have h := run_equal_slice_nil (w := w) t e p k c ht; simp [execOp, ho, hf.eval hx, hf.eval hy, binOp, eqGuard, h]
theorem Z.bconst {k2 : Nat} {x : Operand} {t e : TypeId} {v : Value} {xs : List UInt8} (h : Ow k2 e H fB 1 v xs) (hne : xs ≠ []) (ho : o.op = .convert t t x) (ht : P.underlying t = some (.slice e)) (he : P.underlying e = some (.int .u8)) (hx : opv l x = some v) :
 Z P w0 n l H o (fun r H' => r = v ∧ Ow k2 e H' fB 1 v xs ∧ Mo (fun b => b + 1 = k2) H H') := by
 intro a w hf ha; rcases h.own.ex with ⟨rfl, rfl⟩ | ⟨g, cap, cur, hv, hg, hh, r1, r2, r3, r4⟩
 · exact absurd rfl hne
 · obtain ⟨⟨lo, hi⟩, hh, hs1, hs2⟩ := hh
   simp only at hs1 hs2; have hw : w.heap[g]? = some (.cells cur e (lo, hi)) := by rw [ha.heap]; exact hh
   have hsh : w.shape? g = some (e, cur.size) := by unfold World.shape?; rw [hw]
   have hrun : (execOp a.eval o).run P w = .ok (.value v) (w.freeze ⟨g, cur.size, none⟩ 1) := by
    simp [execOp, ho, hf.eval hx, hv, convert, run_underlying ht, run_underlying he, markStringish, hsh]
   have hfr : (w.freeze ⟨g, cur.size, none⟩ 1).heap[g]? = some (.cells cur e (if lo == hi then (cur.size, cur.size + 1) else (min lo cur.size, max hi (cur.size + 1)))) := by
    unfold World.freeze; rw [if_neg (by decide)]; simp [Array.getElem?_modify, hw]
   have hmo : Mo (fun b => b + 1 = k2) H (w.freeze ⟨g, cur.size, none⟩ 1).heap := by
    unfold World.freeze; rw [if_neg (by decide)]; refine ⟨by simp [ha.heap], fun b hb hne2 => ?_⟩; simp only [Array.getElem?_modify, ha.heap]; rw [if_neg (by omega)]
   have hsz : (w.freeze ⟨g, cur.size, none⟩ 1).heap.size = H.size := by
    unfold World.freeze; rw [if_neg (by decide)]; simp [ha.heap]
   refine ⟨v, _, _, hrun, ⟨rfl, ?_, ?_, ?_, ?_⟩, rfl, ⟨⟨h.own.cells, h.own.one, .inr ⟨g, cap, cur, hv, hg, ⟨_, hfr, ?_⟩, r1, r2, r3, r4⟩⟩, by rw [hsz]; exact h.le⟩, hmo⟩
   · have := ha.os; unfold World.freeze; rw [if_neg (by decide)]; exact this
   · have := ha.tape; unfold World.freeze; rw [if_neg (by decide)]; exact this
   · have := ha.output; unfold World.freeze; rw [if_neg (by decide)]; exact this
   · have := ha.dr; unfold World.freeze; rw [if_neg (by decide)]; exact this
   · by_cases hlh : lo = hi
     · subst hlh
       simp only [beq_self_eq_true, if_true]; refine ⟨by simp only; omega, fun i hi2 hc => ?_⟩; simp only at hc; omega
     · rw [if_neg (by simpa using hlh)]
       refine ⟨by simp only; omega, fun i hi2 hc => ?_⟩; simp only at hc; have := hs2 lo; by_cases hl : lo < cur.size
       · have := hs2 lo hl; omega
       · omega
end
section
variable {m a b : Nat} {F S : Nat → Prop} {α : Type} {e : TypeId} {H0 H H' : Heap} {f : α → List Value} {sz : Nat} {v : Value} {l : List α} {cs : List Value}
end
section
variable {P : Program} {w0 : World} {n : Nat} {l : FL} {H : Heap} {o : Oper} {α : Type} {e : TypeId} {f : α → List Value} {sz : Nat}
end
structure PtF (F : Nat → Prop) (H : Heap) (ad : Addr) (cs : List Value) : Prop where
 pt : Pt H ad cs
 f : F ad.block
section
variable {F : Nat → Prop} {H H' : Heap} {ad : Addr} {cs : List Value} {ks : List Nat} {m : Nat}
theorem PtF.nw (h : PtF F H ad cs) (s : Nw H H') : PtF F H' ad cs := ⟨h.pt.nw s, h.f⟩
theorem PtF.upL (h : PtF F H ad cs) (s : Mo (Ms ks) H H') (d : DFL F ks) : PtF F H' ad cs := ⟨h.pt.up s (fun e => d _ e _ h.f rfl), h.f⟩
end
section
variable {P : Program} {w0 : World} {n : Nat} {l : FL} {H : Heap} {o : Oper} {α : Type} {F : Nat → Prop} {f : α → List Value} {sz : Nat} {v : Value} {xs : List α}
theorem Y.indexAddrF {x i : Operand} {t e : TypeId} {k : IntKind} {iv : Int} (h : Rd F H f sz v xs) (j : Nat) (ho : o.op = .indexAddr t x i) (ht : ∀ w, (underlying t).run P w = .ok (.slice e) w) (hs : ∀ w, (sizeOf e).run P w = .ok sz w)
 (hx : opv l x = some v) (hi : opv l i = some (.int k iv)) (hj : iv = j) (hlt : j < xs.length) : ∃ ad, (∀ H', Y P w0 n l H' o (.pointer (some ad))) ∧ PtF F H ad (f xs[j]) := by
 obtain ⟨a, cap, rfl, h1, h2, h3⟩ := h.ex; obtain ⟨ad, rfl, e2, e3, e4, e5⟩ := h3 (by intro e; subst e; simp at hlt); subst hj; refine ⟨_, ?_, e5 j xs[j] (by simp [hlt]), by first | exact e3 | exact e4⟩; intro H' ac w hf ha; simp [execOp, ho, hf.eval hx, hf.eval hi, Instr.indexAt, asIntOf, ht, hs, hlt, add_eq e2]
end
end Go.Proofs.YtfbfjhppppoilaaGreatDoor.E

namespace Go.Proofs.YtfbfjhppppoilaaGreatDoor.E
section
variable {P : Program} {w0 : World} {Q : Exit → Act → World → Prop} {n : Nat} {l : FL} {H : Heap} {ops : Array Oper} {rest : List Oper} {o : Oper} {m : Bool}
theorem LR.v1 {v : Value} {d : Nat} (hy : Y P w0 n l H o v) (h : LR m P w0 ops Q n ((d, v) :: l) rest H) (hw : Wd ops l o := by exact Wd.u rfl) (hd : o.dst = some d := by exact rfl) (hn : Nat.blt d n = true := by exact rfl) : LR m P w0 ops Q n l (o :: rest) H := LR.v hy hw hd hn h
theorem LR.m1 {x : Operand} {v : Value} {d : Nat} (h : LR m P w0 ops Q n ((d, v) :: l) rest H) (ho : o.op = .move x := by exact rfl) (hx : opv l x = some v := by exact rfl) (hw : Wd ops l o := by exact Wd.u rfl) (hd : o.dst = some d := by exact rfl) (hn : Nat.blt d n = true := by exact rfl) : LR m P w0 ops Q n l (o :: rest) H := LR.v (Y.move ho hx) hw hd hn h
theorem LR.a1 {x : Operand} {v : Value} {d : Nat} (h : LR m P w0 ops Q n ((d, v) :: l) rest H) (ho : o.op = .assign x := by exact rfl) (hx : opv l x = some v := by exact rfl) (hw : Wd ops l o := by exact Wd.u rfl) (hd : o.dst = some d := by exact rfl) (hn : Nat.blt d n = true := by exact rfl) : LR m P w0 ops Q n l (o :: rest) H := LR.v (Y.assign ho hx) hw hd hn h
theorem Y.FA {x : Operand} {s : TypeId} {k off sz2 : Nat} {ad : Addr} {cs : List Value} {fs : Array Field} {fd : Field} (h : Pt H ad cs) (ho : o.op = .fieldAddr s x k) (hu : ∀ w, (underlying s).run P w = .ok (.struct fs) w) (hk : fs[k]? = some fd) (hsz : ∀ w, (sizeOf fd.type).run P w = .ok sz2 w)
 (hof : fd.offset = off := by exact rfl) (hz : sz2 ≠ 0 := by decide) (hx : opv l x = some (.pointer (some ad)) := by exact rfl) : Y P w0 n l H o (.pointer (some (ad.add off))) := Y.fieldAddr h ho hu hk hof hsz hz hx
theorem LR.g1 {d j e : Nat} {b c : Bool} (h : LR m P w0 ops Q n ((d, undef) :: l) rest H) (hg : o.guard = some (j, b) := by exact rfl) (hj : (ops[j]?).bind (·.dst) = some e := by exact rfl) (hc : lk l e = some (.bool c) := by exact rfl) (hne : (c == b) = false := by exact rfl) (hd : o.dst = some d := by exact rfl) (hn : Nat.blt d n = true := by exact rfl) : LR m P w0 ops Q n l (o :: rest) H := LR.gs hg hj hc hne hd hn h
theorem LR.w1 {v : Value} {d j e : Nat} {b : Bool} (hy : Y P w0 n l H o v) (h : LR m P w0 ops Q n ((d, v) :: l) rest H) (hg : o.guard = some (j, b) := by exact rfl) (hj : (ops[j]?).bind (·.dst) = some e := by exact rfl) (hc : lk l e = some (.bool b) := by exact rfl) (hd : o.dst = some d := by exact rfl) (hn : Nat.blt d n = true := by exact rfl) : LR m P w0 ops Q n l (o :: rest) H := LR.v hy (Wd.g hg hj hc) hd hn h
theorem CW.s1 {x y : Code} (h : ∀ {K : Exit → Act → World → Prop}, (∀ l' H', CW P w0 Q n l' y H' → QN w0 K n l' H') → CW P w0 K n l x H) : CW P w0 Q n l (.seq x y) H := CW.seq (fun _ hK _ => h hK)
theorem CW.s2 {x y : Code} (h : ∀ {K : Exit → Act → World → Prop}, (∀ l' H', CW P w0 Q n l' y H' → QN w0 K n l' H') → (∀ e, e ≠ .normal → ∀ l' H', QE w0 Q e n l' H' → QE w0 K e n l' H') → CW P w0 K n l x H) : CW P w0 Q n l (.seq x y) H := CW.seq (fun _ hK hE => h hK hE)
theorem Y.iF {α : Type} {F : Nat → Prop} {f : α → List Value} {sz : Nat} {v : Value} {xs : List α} {x i : Operand} {t e : TypeId} {k : IntKind} {iv : Int} (h : Rd F H f sz v xs) (j : Nat) (ho : o.op = .indexAddr t x i) (ht : ∀ w, (underlying t).run P w = .ok (.slice e) w) (hs : ∀ w, (sizeOf e).run P w = .ok sz w)
 (hx : opv l x = some v) (hi : opv l i = some (.int k iv)) (hj : iv = j := by first | rfl | omega) (hlt : j < xs.length := by first | omega | (simp; omega) | (simp; done)) : ∃ ad, (∀ H', Y P w0 n l H' o (.pointer (some ad))) ∧ PtF F H ad (f xs[j]) := Y.indexAddrF h j ho ht hs hx hi hj hlt
theorem LR.z1 {R : Value → Heap → Prop} {d : Nat} (hz : E.Z P w0 n l H o R) (h : ∀ v H', R v H' → LR false P w0 ops Q n ((d, v) :: l) rest H') (hw : Wd ops l o := by exact Wd.u rfl) (hd : o.dst = some d := by exact rfl) (hn : Nat.blt d n = true := by exact rfl) : LR false P w0 ops Q n l (o :: rest) H := LR.z hz hw hd hn h
theorem LR.s1 {R : Heap → Prop} (hz : E.S P w0 n l H o R) (h : ∀ H', R H' → LR false P w0 ops Q n l rest H') (hw : Wd ops l o := by exact Wd.u rfl) (hd : o.dst = none := by exact rfl) : LR false P w0 ops Q n l (o :: rest) H := LR.s hz hw hd h
theorem LR.e1 {α : Type} {g : α → Value} {φ : α → Prop} {d : Nat} (hy : ∃ x, (∀ H', Y P w0 n l H' o (g x)) ∧ φ x) (h : ∀ x, φ x → LR m P w0 ops Q n ((d, g x) :: l) rest H) (hw : Wd ops l o := by exact Wd.u rfl) (hd : o.dst = some d := by exact rfl) (hn : Nat.blt d n = true := by exact rfl) : LR m P w0 ops Q n l (o :: rest) H := LR.e hy hw hd hn h
end
section
variable {P : Program} {w0 : World} {Q : Exit → Act → World → Prop} {n k : Nat} {dn : List Nat} {l : FL} {H : Heap} {ops : Array Oper} {o : Oper} {SH : Heap → Prop} {X : List Nat}
theorem LH.t1 {v : Value} {d : Nat} (i : Nat) (hi : ops[i]? = some o) (hy : ∀ H', SH H' → Y P w0 n l H' o v) (hS : SH H) (h : LH P w0 ops Q SH X n k (i :: dn) ((d, v) :: l) H)
 (hX : X.all (fun j => Nat.beq j i || Region.waitsFor .any ops j i) = true := by kernel_rfl) (hs : Region.noSelect ops = true := by kernel_rfl) (hfr : Region.free .any ops (lst ops.size dn) i = true := by kernel_rfl) (hr : (Region.ready .any ops (lst ops.size dn)).contains i = true := by kernel_rfl)
 (hw : Wd ops l o := by exact Wd.u rfl) (hd : o.dst = some d := by exact rfl) (hn : Nat.blt d n = true := by exact rfl) : LH P w0 ops Q SH X n (k + 1) dn l H := LH.take i hX hi hs hfr hr hy hw hd hn hS h
theorem LH.m1 {x : Operand} {v : Value} {d : Nat} (i : Nat) (hi : ops[i]? = some o) (hS : SH H) (h : LH P w0 ops Q SH X n k (i :: dn) ((d, v) :: l) H) (ho : o.op = .move x := by exact rfl) (hx : opv l x = some v := by exact rfl)
 (hX : X.all (fun j => Nat.beq j i || Region.waitsFor .any ops j i) = true := by kernel_rfl) (hs : Region.noSelect ops = true := by kernel_rfl) (hfr : Region.free .any ops (lst ops.size dn) i = true := by kernel_rfl) (hr : (Region.ready .any ops (lst ops.size dn)).contains i = true := by kernel_rfl)
 (hw : Wd ops l o := by exact Wd.u rfl) (hd : o.dst = some d := by exact rfl) (hn : Nat.blt d n = true := by exact rfl) : LH P w0 ops Q SH X n (k + 1) dn l H := LH.take i hX hi hs hfr hr (fun _ _ => Y.move ho hx) hw hd hn hS h
theorem LH.u1 {v : Value} {d : Nat} (i : Nat) (hi : ops[i]? = some o) (hy : ∀ H', SH H' → Y P w0 n l H' o v) (hw : Wd ops l o) (hS : SH H) (h : LH P w0 ops Q SH X n k (i :: dn) ((d, v) :: l) H)
 (hX : X.all (fun j => Nat.beq j i || Region.waitsFor .any ops j i) = true := by kernel_rfl) (hs : Region.noSelect ops = true := by kernel_rfl) (hfr : Region.free .any ops (lst ops.size dn) i = true := by kernel_rfl) (hr : (Region.ready .any ops (lst ops.size dn)).contains i = true := by kernel_rfl)
 (hd : o.dst = some d := by exact rfl) (hn : Nat.blt d n = true := by exact rfl) : LH P w0 ops Q SH X n (k + 1) dn l H := LH.take i hX hi hs hfr hr hy hw hd hn hS h
theorem LH.o1 (i : Nat) (h : LO P w0 ops Q SH X n k i dn l H) (hr : Region.ready .any ops (lst ops.size dn) = [i] := by kernel_rfl) : LH P w0 ops Q SH X n (k + 1) dn l H := LH.one hr h
end
theorem MI.q {ks : List Nat} {h k2 : Nat} (x : Nx 0 h k2) : MI ks h k2 := MI.app MI.z x (Nat.le_refl _)
theorem MI.r {ks : List Nat} {h k k2 : Nat} (x : Nx k h k2) (hm : k ∈ ks := by simp) : MI ks h k2 := MI.app (MI.root hm) x (Nat.le_refl _)
theorem MIL.o {ks : List Nat} {h k : Nat} (d : MI ks h k) : MIL ks h [k] := MIL.cons d MIL.nil
theorem DL.o {a k : Nat} (d : Dj a k) : DL a [k] := DL.cons d DL.nil
theorem DFL.o {F : Nat → Prop} {k : Nat} (d : DF F k) : DFL F [k] := DFL.cons d DFL.nil
theorem Mo.tq {js : List Nat} {H0 H H' : Heap} (x : Nw H0 H) (s : Mo (Ms js) H H') (d : MIL [] H0.size js) : Nw H0 H' := (Mo.trL (ks := []) (x.mdn []) s d).nil
def a'3 := @Tryz.isAgg3
def a'4 := @Tryz.isAgg4
def a'5 := @Tryz.isAgg5
def a'9 := @Tryz.isAgg9
def a'31 := @Tryz.isAgg31
def a'32 := @Tryz.isAgg32
def a'34 := @Tryz.isAgg34
def a'43 := @Tryz.isAgg43
def a'51 := @Tryz.isAgg51
def a'60 := @Tryz.isAgg60
def a'69 := @Tryz.isAgg69
def a'70 := @Tryz.isAgg70
def a'73 := @Tryz.isAgg73
def a'76 := @Tryz.isAgg76
def a'81 := @Tryz.isAgg81
def a'83 := @Tryz.isAgg83
def a'86 := @Tryz.isAgg86
def a'98 := @Tryz.isAgg98
def a'104 := @Tryz.isAgg104
def a'112 := @Tryz.isAgg112
def a'114 := @Tryz.isAgg114
def a'124 := @Tryz.isAgg124
def a'137 := @Tryz.isAgg137
def c'4 := @Tryz.call4
def c'5 := @Tryz.call5
def c'6 := @Tryz.call6
def c'7 := @Tryz.call7
def c'8 := @Tryz.call8
def c'9 := @Tryz.call9
def c'10 := @Tryz.call10
def c'11 := @Tryz.call11
def c'12 := @Tryz.call12
def c'13 := @Tryz.call13
def c'14 := @Tryz.call14
def c'15 := @Tryz.call15
def c'16 := @Tryz.call16
def c'17 := @Tryz.call17
def c'18 := @Tryz.call18
def c'19 := @Tryz.call19
def c'20 := @Tryz.call20
def c'21 := @Tryz.call21
def c'22 := @Tryz.call22
def c'23 := @Tryz.call23
def c'24 := @Tryz.call24
def c'25 := @Tryz.call25
def c'26 := @Tryz.call26
def c'27 := @Tryz.call27
def c'28 := @Tryz.call28
def c'29 := @Tryz.call29
def c'30 := @Tryz.call30
def c'31 := @Tryz.call31
def c'32 := @Tryz.call32
def c'33 := @Tryz.call33
def c'34 := @Tryz.call34
def c'35 := @Tryz.call35
def c'36 := @Tryz.call36
def c'37 := @Tryz.call37
def c'38 := @Tryz.call38
def c'39 := @Tryz.call39
def c'40 := @Tryz.call40
def c'41 := @Tryz.call41
def c'42 := @Tryz.call42
def c'43 := @Tryz.call43
def c'44 := @Tryz.call44
def c'45 := @Tryz.call45
def c'46 := @Tryz.call46
def c'47 := @Tryz.call47
def c'48 := @Tryz.call48
def c'49 := @Tryz.call49
def c'50 := @Tryz.call50
def c'51 := @Tryz.call51
def c'52 := @Tryz.call52
def c'53 := @Tryz.call53
def c'54 := @Tryz.call54
def c'55 := @Tryz.call55
def c'56 := @Tryz.call56
def c'57 := @Tryz.call57
def c'58 := @Tryz.call58
def c'59 := @Tryz.call59
def c'60 := @Tryz.call60
def c'61 := @Tryz.call61
def c'62 := @Tryz.call62
def c'63 := @Tryz.call63
def c'64 := @Tryz.call64
def c'65 := @Tryz.call65
def c'66 := @Tryz.call66
def c'67 := @Tryz.call67
def c'69 := @Tryz.call69
def c'70 := @Tryz.call70
def c'73 := @Tryz.call73
def c'74 := @Tryz.call74
def c'75 := @Tryz.call75
def c'77 := @Tryz.call77
def c'88 := @Tryz.call88
def c'91 := @Tryz.call91
def c'92 := @Tryz.call92
def s'2 := @Tryz.sizeOf2
def s'3 := @Tryz.sizeOf3
def s'4 := @Tryz.sizeOf4
def s'5 := @Tryz.sizeOf5
def s'9 := @Tryz.sizeOf9
def s'31 := @Tryz.sizeOf31
def s'32 := @Tryz.sizeOf32
def s'34 := @Tryz.sizeOf34
def s'43 := @Tryz.sizeOf43
def s'48 := @Tryz.sizeOf48
def s'51 := @Tryz.sizeOf51
def s'60 := @Tryz.sizeOf60
def s'69 := @Tryz.sizeOf69
def s'70 := @Tryz.sizeOf70
def s'73 := @Tryz.sizeOf73
def s'76 := @Tryz.sizeOf76
def s'81 := @Tryz.sizeOf81
def s'83 := @Tryz.sizeOf83
def s'85 := @Tryz.sizeOf85
def s'86 := @Tryz.sizeOf86
def s'98 := @Tryz.sizeOf98
def s'103 := @Tryz.sizeOf103
def s'104 := @Tryz.sizeOf104
def s'112 := @Tryz.sizeOf112
def s'114 := @Tryz.sizeOf114
def s'124 := @Tryz.sizeOf124
def s'137 := @Tryz.sizeOf137
def u'9 := @Tryz.runUnderlying9
def u'22 := @Tryz.runUnderlying22
def u'31 := @Tryz.runUnderlying31
def u'32 := @Tryz.runUnderlying32
def u'34 := @Tryz.runUnderlying34
def u'43 := @Tryz.runUnderlying43
def u'48 := @Tryz.runUnderlying48
def u'50 := @Tryz.runUnderlying50
def u'51 := @Tryz.runUnderlying51
def u'53 := @Tryz.runUnderlying53
def u'60 := @Tryz.runUnderlying60
def u'69 := @Tryz.runUnderlying69
def u'70 := @Tryz.runUnderlying70
def u'72 := @Tryz.runUnderlying72
def u'76 := @Tryz.runUnderlying76
def u'81 := @Tryz.runUnderlying81
def u'85 := @Tryz.runUnderlying85
def u'86 := @Tryz.runUnderlying86
def u'88 := @Tryz.runUnderlying88
def u'91 := @Tryz.runUnderlying91
def u'98 := @Tryz.runUnderlying98
def u'103 := @Tryz.runUnderlying103
def u'104 := @Tryz.runUnderlying104
def u'106 := @Tryz.runUnderlying106
def u'114 := @Tryz.runUnderlying114
def u'116 := @Tryz.runUnderlying116
def u'124 := @Tryz.runUnderlying124
def u'137 := @Tryz.runUnderlying137
def u'154 := @Tryz.runUnderlying154
def z'5 := @Tryz.zeroValue5
def z'34 := @Tryz.zeroValue34
def z'76 := @Tryz.zeroValue76
def z'78 := @Tryz.zeroValue78
def z'83 := @Tryz.zeroValue83
def z'98 := @Tryz.zeroValue98
def z'137 := @Tryz.zeroValue137
end Go.Proofs.YtfbfjhppppoilaaGreatDoor.E

namespace Go.Proofs.YtfbfjhppppoilaaGreatDoor.E
section
variable {P : Program} {w0 : World} {n : Nat} {l : FL} {H : Heap} {o : Oper}
theorem Y.ext {f : FuncId} {fn : Func} {e : Array Value → Sem Value} {args : List Operand} {ats : Array TypeId} {vs : List Value} {v : Value} (ho : o.op = .call { callee := .value (.func f), args := args.toArray, argTypes := ats }) (hf : P.funcs[f]? = some fn)
 (hname : (fn.name == "runtime.NumGoroutine") = false) (hb : fn.body.isNone = true) (hn : Extern.findNext fn = none) (he : Extern.find fn = some e) (hv : opvs l args = some vs) (hr : ∀ w, At w0 H w → (e vs.toArray).run P w = .ok v w) : Y P w0 n l H o v := by
 intro a w hfr ha; have h1 : a.eval (.func f) = .func (.func f) #[] #[] := rfl; have h2 := hfr.evals hv; have h3 := run_callFunc_extern (P := P) hf hname hb hn he vs.toArray w; rw [hr w ha] at h3; simp only [Result.andThen] at h3; simp [execOp, ho, resolve, Deferred.ofValue, h1, invoke, h2, h3]
end
end Go.Proofs.YtfbfjhppppoilaaGreatDoor.E

namespace Go.Proofs.YtfbfjhppppoilaaGreatDoor.E
section
variable {P : Program} {w0 : World} {Q : Exit → Act → World → Prop} {n : Nat} {l : FL} {H : Heap} {ops : Array Oper} {rest : List Oper} {o : Oper}
theorem Y.makeFunc {f : FuncId} {caps : List Operand} {vs : List Value} (ho : o.op = .makeFunc (.func f) #[] caps.toArray) (hv : opvs l caps = some vs) : Y P w0 n l H o (.func (.func f) #[] vs.toArray) := by
 intro a w hf ha; have h2 := hf.evals hv; simp [execOp, ho, Instr.makeFunc, h2]
end
end Go.Proofs.YtfbfjhppppoilaaGreatDoor.E

namespace Go.Proofs.YtfbfjhppppoilaaGreatDoor.E
open Go.MapKept
structure Mp {κ β : Type} (H : Heap) (fk : κ → Value) (fv : β → Value) (b : Nat) (m : List (κ × β)) : Prop where
 mo : MapOf (fun x => x = b) H fk fv (.map (some b)) m
section
variable {κ β : Type} {H H' : Heap} {fk : κ → Value} {fv : β → Value} {b k : Nat} {m : List (κ × β)} {ks : List Nat}
theorem Mp.lt (h : Mp H fk fv b m) : b < H.size := h.mo.blk_lt
theorem Mp.up {S : Nat → Prop} (h : Mp H fk fv b m) (s : Mo S H H') (hS : ¬ S b) : Mp H' fk fv b m := ⟨h.mo.up s (fun x _ e h2 => hS (by rw [← e]; exact h2))⟩
theorem Mp.nw (h : Mp H fk fv b m) (s : Nw H H') : Mp H' fk fv b m := ⟨h.mo.nw s⟩
theorem Mp.upL (x : Mp H fk fv b m) (s : Mo (Ms ks) H H') (d : DL (b + 1) ks) : Mp H' fk fv b m := x.up s (fun h2 => d (b + 1) h2 b rfl rfl)
end
section
variable {P : Program} {w0 : World} {n : Nat} {l : FL} {H : Heap} {o : Oper} {κ β : Type} [DecidableEq κ] {fk : κ → Value} {fv : β → Value} {b : Nat} {m : List (κ × β)} {d : TypeDesc}
theorem Z.makeMp (fk : κ → Value) (fv : β → Value) {t : TypeId} (ho : o.op = .makeMap t none) : Z P w0 n l H o (fun r H' => r = .map (some H.size) ∧ Mp H' fk fv H.size ([] : List (κ × β)) ∧ Nw H H' ∧ ∃ ob, H' = H.push ob) := by
 intro a w hf ha; refine ⟨.map (some w.heap.size), H.push (.map #[] 0), w.alloc (.map #[] 0), ?_, ha.alloc _, by rw [ha.heap], ⟨H.size, #[], 0, rfl, rfl, by simp, stamped_empty 0, rfl⟩, Nw.pu _ _, _, rfl⟩; simp [execOp, ho, Instr.makeMap]
theorem S.putMp {t kt et : TypeId} {x i y : Operand} {k : κ} (z : β) (h : Mp H fk fv b m) (hfk : KeyFn d fk) (ho : o.op = .mapUpdate t x i y) (hm : ∀ w, (underlying t).run P w = .ok (.map kt et) w) (hk : P.underlying kt = some d)
 (hx : opv l x = some (.map (some b))) (hi : opv l i = some (fk k)) (hy : opv l y = some (fv z)) : S P w0 n l H o (fun H' => Mp H' fk fv b (mput m k z) ∧ Mo (fun c => c = b) H H') :=
 (S.mapUpdate h.mo hfk ho hm hk hx hi hy).mono fun H' ⟨h1, h2⟩ => ⟨⟨h1⟩, h2⟩
end
theorem mget_put {κ β : Type} [DecidableEq κ] (m : List (κ × β)) (k : κ) (b : β) (q : κ) : mget (mput m k b) q = if q = k then some b else mget m q := by
 have h1 : ∀ m : List (κ × β), mget (m.map (fun p => if p.1 = k then (p.1, b) else p)) q = if q = k then (mget m q).map (fun _ => b) else mget m q := by
  intro m
  induction m with
  | nil => simp [mget]
  | cons p m ih =>
    simp only [List.map_cons]; by_cases hp : p.1 = k
    · rw [if_pos hp]
      by_cases hq : q = p.1
      · have : q = k := hq.trans hp
        simp [mget, hq, hp]
      · simp only [mget]
        rw [if_neg hq, ih, if_neg hq]
    · rw [if_neg hp]
      by_cases hq : q = p.1
      · have : ¬ q = k := fun e => hp (by rw [← hq, e])
        simp [mget, hq, hp]
      · simp only [mget]
        rw [if_neg hq, ih, if_neg hq]
 have h2 : ∀ m : List (κ × β), mget (m ++ [(k, b)]) q = (mget m q).or (if q = k then some b else none) := by
  intro m
  induction m with
  | nil => simp [mget]
  | cons p m ih =>
    simp only [List.cons_append, mget]; split
    · simp
    · exact ih
 unfold mput; split
 · rename_i h
   rw [h1]; by_cases hq : q = k
   · subst hq
     obtain ⟨z, hz⟩ := Option.isSome_iff_exists.1 h; simp [hz]
   · simp [hq]
 · rename_i h
   rw [h2]; by_cases hq : q = k
   · subst hq
     have : mget m q = none := by simpa using h
     simp [this]
   · simp [hq]
section
variable {P : Program} {w0 : World} {Q : Exit → Act → World → Prop} {n : Nat} {l : FL} {H : Heap} {ops : Array Oper} {rest : List Oper} {o : Oper}
theorem LR.zn {R : Value → Heap → Prop} (hz : Z P w0 n l H o R) (hw : Wd ops l o) (hd : o.dst = none)
 (h : ∀ v H', R v H' → LR false P w0 ops Q n l rest H') : LR false P w0 ops Q n l (o :: rest) H := by
 intro a w hf ha; obtain ⟨v, H', w', hr, ha', hR⟩ := hz a w hf ha; have hh := h v H' hR a w' hf ha'; simp only [Md] at hh ⊢; unfold wpList; rw [if_pos (hw n a hf)]; refine .inl ?_; unfold Oper.wp; rw [hr]; show wpList P ops Q rest (a.put o.dst v) w'; rw [hd]; exact hh
end
section
variable {P : Program} {w0 : World} {Q : Exit → Act → World → Prop} {SH : Heap → Prop} {X : List Nat} {n k : Nat} {l : FL} {H : Heap} {ops : Array Oper} {o : Oper} {dn : List Nat}
end
end Go.Proofs.YtfbfjhppppoilaaGreatDoor.E

namespace Go.Proofs.YtfbfjhppppoilaaGreatDoor.E
open Go.MapKept
abbrev Ide := { l : List UInt8 // l.length = 32 }
def Zid : Ide := ⟨List.replicate 32 0, by simp⟩
instance : Inhabited Ide := ⟨Zid⟩
theorem nodup_inj {α β : Type} {f : α → β} : ∀ {l : List α}, (l.map f).Nodup → ∀ {x y : α}, x ∈ l → y ∈ l → f x = f y → x = y
 | [], _, _, _, h, _, _ => by cases h
 | a :: l, hn, x, y, hx, hy, e => by
   simp only [List.map_cons, List.nodup_cons] at hn; rcases List.mem_cons.1 hx with rfl | hx2 <;> rcases List.mem_cons.1 hy with rfl | hy2
   · rfl
   · exact (hn.1 (List.mem_map.2 ⟨y, hy2, e.symm⟩)).elim
   · exact (hn.1 (List.mem_map.2 ⟨x, hx2, e⟩)).elim
   · exact nodup_inj hn.2 hx2 hy2 e
structure KeyA {κ : Type} [DecidableEq κ] (P : Program) (kt : TypeId) (fk : κ → Value) : Prop where
 und : ∃ len e, P.underlying kt = some (.array len e)
 check : ∀ em k w, (Instr.checkKey em 10000 kt (fk k)).run P w = .ok () w
 eq : ∀ a b w, (Op.equal kt (fk a) (fk b)).run P w = .ok (decide (a = b)) w
 same : ∀ k, Instr.sameBits 10000 (fk k) (fk k) = true
 inj : ∀ a b, fk a = fk b → a = b
section
variable {P : Program} {w0 : World} {n : Nat} {l : FL} {H : Heap} {o : Oper}
variable {κ β : Type} [DecidableEq κ] {G : Nat → Prop} {fk : κ → Value} {fv : β → Value} {v : Value} {m : List (κ × β)} {kt : TypeId} {b : Nat}
theorem find_entriesA {k : κ} {w : World} (hk : KeyA P kt fk) : ∀ (es : List MapEntry) (m : List (κ × β)) (i : Nat), es.map (fun e => (e.key, e.val)) = m.map (fun p => (fk p.1, fv p.2)) →
 (mget m k = none ∧ (Instr.findAsking kt (fk k) es i).run P w = .ok none w ∧ ∀ x ∈ es, x.key ≠ fk k) ∨ ∃ j e b, mget m k = some b ∧ (Instr.findAsking kt (fk k) es i).run P w = .ok (some (i + j, fv b)) w ∧ es[j]? = some e ∧ e.key = fk k ∧ e.val = fv b
 | [], m, i, h => by
   have : m = [] := by cases m <;> simp_all
   subst this
   exact .inl ⟨rfl, by simp [Instr.findAsking], by simp⟩
 | e :: es, m, i, h => by
   match m, h with
   | (a, c) :: m, h =>
     simp only [List.map_cons, List.cons.injEq, Prod.mk.injEq] at h; obtain ⟨⟨h1, h2⟩, h3⟩ := h; have hq := hk.eq k a w; rw [← h1] at hq; by_cases hka : k = a
     · subst hka
       simp only [decide_true] at hq; exact .inr ⟨0, e, c, by simp [mget], by simp [Instr.findAsking, hq, h2], rfl, h1, h2⟩
     · simp only [hka, decide_false] at hq
       rcases find_entriesA (k := k) (w := w) hk es m (i + 1) h3 with ⟨q1, q2, q3⟩ | ⟨j, e', b', q1, q2, q3, q4, q5⟩
       · refine .inl ⟨?_, by simp [Instr.findAsking, hq, q2], ?_⟩
         · simp only [mget, hka, if_false]; exact q1
         · intro x hx
           cases hx with
           | head => intro q; exact hka (hk.inj _ _ (by rw [← q, h1]))
           | tail _ hx => exact q3 x hx
       · refine .inr ⟨j + 1, e', b', ?_, ?_, by simpa using q3, q4, q5⟩
         · simp only [mget, hka, if_false]; exact q1
         · simp [Instr.findAsking, hq, q2]; omega
theorem mo_set {r : Nat} (ob : Obj) : Mo (fun c => c = r) H (H.setIfInBounds r ob) := ⟨by simp, fun b hb hne => by simp [Ne.symm hne]⟩
theorem modify_entriesA {k : κ} {b : β} {key : Value} (hinj : ∀ a b, fk a = fk b → a = b) (hkey : key = fk k) : ∀ (es : List MapEntry) (m : List (κ × β)) (j : Nat) (e : MapEntry), es.map (fun e => (e.key, e.val)) = m.map (fun p => (fk p.1, fv p.2)) → (es.map (·.key)).Nodup → es[j]? = some e → e.key = fk k →
 (es.modify j (fun e => { e with key := key, val := fv b })).map (fun e => (e.key, e.val)) = (m.map (fun p => if p.1 = k then (p.1, b) else p)).map (fun p => (fk p.1, fv p.2))
 | [], _, _, _, _, _, h, _ => by simp at h
 | x :: es, m, j, e, h, hn, hj, he => by
   match m, h with
   | (a, c) :: m, h =>
     simp only [List.map_cons, List.cons.injEq, Prod.mk.injEq] at h; obtain ⟨⟨h1, h2⟩, h3⟩ := h; simp only [List.map_cons, List.nodup_cons] at hn
     cases j with
     | zero =>
       simp only [List.getElem?_cons_zero, Option.some.injEq] at hj; subst hj; have hak : a = k := hinj _ _ (by rw [← h1, he]); subst hak; simp only [List.modify_zero_cons, List.map_cons, if_true, hkey]; congr 1; rw [h3, List.map_map]; apply List.map_congr_left; intro p hp
       have : p.1 ≠ a := by
        intro e; apply hn.1; have : (fk p.1, fv p.2) ∈ es.map (fun e => (e.key, e.val)) := by rw [h3]; exact List.mem_map.2 ⟨p, hp, rfl⟩
        obtain ⟨y, hy, hye⟩ := List.mem_map.1 this; simp only [Prod.mk.injEq] at hye; exact List.mem_map.2 ⟨y, hy, by rw [hye.1, e, h1]⟩
       simp [this]
     | succ j =>
       simp only [List.getElem?_cons_succ] at hj
       have hak : a ≠ k := by
        intro q; subst q; apply hn.1; rw [h1, ← he]; exact List.mem_map.2 ⟨e, List.mem_of_getElem? hj, rfl⟩
       simp only [List.modify_succ_cons, List.map_cons, hak, if_false, h1, h2]; rw [modify_entriesA hinj hkey es m j e h3 hn.2 hj he]
def mdel (m : List (κ × β)) (k : κ) : List (κ × β) := m.filter (fun p => decide (p.1 ≠ k))
theorem mget_del (m : List (κ × β)) (k q : κ) : mget (mdel m k) q = if q = k then none else mget m q := by
 induction m with
 | nil => simp [mdel, mget]
 | cons p m ih =>
   unfold mdel at ih ⊢; by_cases hp : p.1 = k
   · rw [List.filter_cons_of_neg (by simp [hp]), ih]
     by_cases hq : q = k
     · simp [hq]
     · rw [if_neg hq, if_neg hq]; simp only [mget]; rw [if_neg (fun e => hq (e.trans hp))]
   · rw [List.filter_cons_of_pos (by simp [hp])]
     simp only [mget]; by_cases hq : q = p.1
     · rw [if_pos hq, if_pos hq, if_neg (fun e => hp (hq.symm.trans e))]
     · rw [if_neg hq, if_neg hq, ih]
theorem mget_mem {m : List (κ × β)} {k : κ} {z : β} (h : mget m k = some z) : (k, z) ∈ m := by
 induction m with
 | nil => cases h
 | cons p m ih =>
   simp only [mget] at h; split at h
   · rename_i e; cases h; rw [e]; exact .head _
   · exact .tail _ (ih h)
theorem mget_none {m : List (κ × β)} {k : κ} (h : mget m k = none) : ∀ p ∈ m, p.1 ≠ k := by
 induction m with
 | nil => simp
 | cons p m ih =>
   simp only [mget] at h; split at h
   · cases h
   · rename_i hne
     intro q hq e
     cases hq with
     | head => exact hne e.symm
     | tail _ hq => exact ih h q hq e
theorem mget_of_mem {m : List (κ × β)} (hn : (m.map (·.1)).Nodup) {k : κ} {z : β} (h : (k, z) ∈ m) : mget m k = some z := by
 induction m with
 | nil => cases h
 | cons p m ih =>
   simp only [List.map_cons, List.nodup_cons] at hn; simp only [mget]
   cases h with
   | head => simp
   | tail _ h =>
     rw [if_neg ?_]
     · exact ih hn.2 h
     · intro e
       exact hn.1 (List.mem_map.2 ⟨(k, z), h, e⟩)
theorem isSome_iff_key {m : List (κ × β)} {k : κ} : (mget m k).isSome = true ↔ k ∈ m.map (·.1) := by
 constructor
 · intro h
   obtain ⟨z, hz⟩ := Option.isSome_iff_exists.1 h; exact List.mem_map.2 ⟨_, mget_mem hz, rfl⟩
 · intro h
   obtain ⟨p, hp, e⟩ := List.mem_map.1 h
   cases hg : mget m k with
   | some z => rfl
   | none => exact absurd e (mget_none hg p hp)
theorem erase_entries {k : κ} (hinj : ∀ a b, fk a = fk b → a = b) : ∀ (es : List MapEntry) (m : List (κ × β)) (j : Nat) (e : MapEntry), es.map (fun e => (e.key, e.val)) = m.map (fun p => (fk p.1, fv p.2)) → (es.map (·.key)).Nodup → es[j]? = some e → e.key = fk k →
 (es.eraseIdx j).map (fun e => (e.key, e.val)) = (mdel m k).map (fun p => (fk p.1, fv p.2))
 | [], _, _, _, _, _, h, _ => by simp at h
 | x :: es, m, j, e, h, hn, hj, he => by
   match m, h with
   | (a, c) :: m, h =>
     simp only [List.map_cons, List.cons.injEq, Prod.mk.injEq] at h; obtain ⟨⟨h1, h2⟩, h3⟩ := h; simp only [List.map_cons, List.nodup_cons] at hn
     cases j with
     | zero =>
       simp only [List.getElem?_cons_zero, Option.some.injEq] at hj; subst hj; have hak : a = k := hinj _ _ (by rw [← h1, he]); subst hak
       have hm : mdel ((a, c) :: m) a = m := by
        unfold mdel; rw [List.filter_cons_of_neg (by simp)]; apply List.filter_eq_self.2; intro p hp; simp only [decide_eq_true_eq]; intro e; apply hn.1; have : (fk p.1, fv p.2) ∈ es.map (fun e => (e.key, e.val)) := by rw [h3]; exact List.mem_map.2 ⟨p, hp, rfl⟩
        obtain ⟨y, hy, hye⟩ := List.mem_map.1 this; simp only [Prod.mk.injEq] at hye; exact List.mem_map.2 ⟨y, hy, by rw [hye.1, e, h1]⟩
       rw [hm]
       simpa using h3
     | succ j =>
       simp only [List.getElem?_cons_succ] at hj
       have hak : a ≠ k := by
        intro q; subst q; apply hn.1; rw [h1, ← he]; exact List.mem_map.2 ⟨e, List.mem_of_getElem? hj, rfl⟩
       have hm : mdel ((a, c) :: m) k = (a, c) :: mdel m k := by
        unfold mdel; rw [List.filter_cons_of_pos (by simp [hak])]
       rw [hm]; simp only [List.eraseIdx_cons_succ, List.map_cons, h1, h2]; rw [erase_entries hinj es m j e h3 hn.2 hj he]
theorem Mp.le (h : Mp H fk fv b m) : b + 1 ≤ H.size := h.lt
structure Mr (H : Heap) (fk : κ → Value) (fv : β → Value) (b : Nat) (m : List (κ × β)) (es : Array MapEntry) (clock : Nat) : Prop where
 at_ : H[b]? = some (.map es clock)
 st : Stamped es clock
 eq : es.toList.map (fun e => (e.key, e.val)) = m.map (fun p => (fk p.1, fv p.2))
theorem Mp.raw (h : Mp H fk fv b m) : ∃ es clock, Mr H fk fv b m es clock := by
 obtain ⟨r, es, clock, hv, h2, h3, h4, h5⟩ := h.mo.ex; obtain rfl := h2; exact ⟨es, clock, h3, h4, h5⟩
section
variable {es : Array MapEntry} {clock : Nat} {H' : Heap}
theorem Mr.mp (h : Mr H fk fv b m es clock) : Mp H fk fv b m := ⟨⟨b, es, clock, rfl, rfl, h.at_, h.st, h.eq⟩⟩
theorem Mr.lt (h : Mr H fk fv b m es clock) : b < H.size := h.mp.lt
theorem Mr.up {S : Nat → Prop} (h : Mr H fk fv b m es clock) (s : Mo S H H') (hS : ¬ S b) : Mr H' fk fv b m es clock := ⟨by rw [s.same b h.lt hS]; exact h.at_, h.st, h.eq⟩
theorem Mr.nw (h : Mr H fk fv b m es clock) (s : Nw H H') : Mr H' fk fv b m es clock := h.up s (fun e => e)
theorem Mr.upL {ks : List Nat} (h : Mr H fk fv b m es clock) (s : Mo (Ms ks) H H') (d : DL (b + 1) ks) : Mr H' fk fv b m es clock := h.up s (fun h2 => d (b + 1) h2 b rfl rfl)
theorem Mr.mo (h : Mr H fk fv b m es clock) : MapOf (fun x => x = b) H fk fv (.map (some b)) m := h.mp.mo
end
structure Itr (H : Heap) (b r : Nat) (fk : κ → Value) (es : Array MapEntry) (clock : Nat) (dn : List κ) : Prop where
 ex : ∃ vis : List MapEntry, H[b]? = some (.mapIter (some r) clock (vis.map (·.born)).toArray clock) ∧ (∀ e ∈ vis, e ∈ es.toList) ∧ vis.map (·.key) = dn.map fk
section
variable {es : Array MapEntry} {clock r : Nat} {H' : Heap} {dn : List κ}
theorem Itr.lt (h : Itr H b r fk es clock dn) : b < H.size := by
 obtain ⟨vis, h1, _⟩ := h.ex; exact (Array.getElem?_eq_some_iff.1 h1).1
theorem Itr.up {S : Nat → Prop} (h : Itr H b r fk es clock dn) (s : Mo S H H') (hS : ¬ S b) : Itr H' b r fk es clock dn := by
 obtain ⟨vis, h1, h2⟩ := h.ex; exact ⟨vis, by rw [s.same b h.lt hS]; exact h1, h2⟩
theorem Itr.nw (h : Itr H b r fk es clock dn) (s : Nw H H') : Itr H' b r fk es clock dn := h.up s (fun e => e)
theorem Itr.upL {ks : List Nat} (h : Itr H b r fk es clock dn) (s : Mo (Ms ks) H H') (d : DL (b + 1) ks) : Itr H' b r fk es clock dn := h.up s (fun h2 => d (b + 1) h2 b rfl rfl)
theorem Z.rangeA {t et : TypeId} {x : Operand} (h : Mr H fk fv b m es clock) (ho : o.op = .range t x) (hm : ∀ w, (underlying t).run P w = .ok (.map kt et) w) (hx : opv l x = some (.map (some b))) :
 Z P w0 n l H o (fun v H' => v = .pointer (some ⟨H.size, 0, none⟩) ∧ Itr H' H.size b fk es clock ([] : List κ) ∧ Nw H H' ∧ ∃ ob, H' = H.push ob) := by
 intro ac w hf ha; have h3' : w.heap[b]? = some (.map es clock) := by rw [ha.heap]; exact h.at_
 refine ⟨.pointer (some ⟨w.heap.size, 0, none⟩), H.push (.mapIter (some b) clock #[] clock), w.alloc (.mapIter (some b) clock #[] clock), ?_, ha.alloc _, by rw [ha.heap], ⟨[], by simp, by simp, rfl⟩, Nw.pu _ _, _, rfl⟩; simp [execOp, ho, hf.eval hx, Instr.range, hm, MapKept.run_getObj_map h3']
def nxt (q : Bool) (a c : Value) : Value := .tuple (if q then #[.bool true, a, c] else #[.bool false])
theorem Y.ext0 {x : Operand} {q : Bool} {a c : Value} (ho : o.op = .extract x 0) (hx : opv l x = some (nxt q a c)) : Y P w0 n l H o (.bool q) := by
 intro ac w hf ha; cases q <;> simp [execOp, ho, hf.eval hx, nxt, Instr.extract]
theorem seen_mem (hinj : ∀ a b, fk a = fk b → a = b) {m : List (κ × β)} {vis : List MapEntry} (hs : Stamped es clock) (hv : ∀ e ∈ vis, e ∈ es.toList) (hd : vis.map (·.key) = dn.map fk) {e : MapEntry} (he : e ∈ es.toList) {a : κ} (ha : e.key = fk a) : e.born ∈ vis.map (·.born) ↔ a ∈ dn := by
 have uniqB : ∀ x ∈ es.toList, ∀ y ∈ es.toList, x.born = y.born → x = y := fun x hx y hy hb => nodup_inj hs.2.1 hx hy hb; have uniqK : ∀ x ∈ es.toList, ∀ y ∈ es.toList, x.key = y.key → x = y := fun x hx y hy hb => nodup_inj hs.2.2 hx hy hb; constructor
 · intro h
   obtain ⟨y, hy, hb⟩ := List.mem_map.1 h; have := uniqB y (hv y hy) e he hb; subst this; have h2 : y.key ∈ dn.map fk := by rw [← hd]; exact List.mem_map.2 ⟨y, hy, rfl⟩
   obtain ⟨c, hc, hce⟩ := List.mem_map.1 h2; rw [hinj _ _ (ha.symm.trans hce.symm)]; exact hc
 · intro h
   have h2 : fk a ∈ vis.map (·.key) := by rw [hd]; exact List.mem_map.2 ⟨a, h, rfl⟩
   obtain ⟨y, hy, hk⟩ := List.mem_map.1 h2; have := uniqK y (hv y hy) e he (hk.trans ha.symm); subst this; exact List.mem_map.2 ⟨y, hy, rfl⟩
theorem Z.nextA {x : Operand} [Inhabited κ] [Inhabited β] (h : Itr H b r fk es clock dn) (hmr : Mr H fk fv r m es clock) (hinj : ∀ a b, fk a = fk b → a = b) (ho : o.op = .next x false) (hx : opv l x = some (.pointer (some ⟨b, 0, none⟩))) :
 Z P w0 n l H o (fun v H' => ∃ (q : Bool) (a : κ) (c : β) (dn' : List κ), v = nxt q (fk a) (fv c) ∧ Itr H' b r fk es clock dn' ∧ (q = true → (a, c) ∈ m ∧ a ∉ dn ∧ dn' = dn ++ [a]) ∧ (q = false → (∀ p ∈ m, p.1 ∈ dn) ∧ dn' = dn) ∧ Mo (fun g => g = b) H H') := by
 intro ac w hf ha; obtain ⟨vis, h1, h2, h3⟩ := h.ex; have h1' : w.heap[b]? = some (.mapIter (some r) clock (vis.map (·.born)).toArray clock) := by rw [ha.heap]; exact h1
 have hm' : w.heap[r]? = some (.map es clock) := by rw [ha.heap]; exact hmr.at_
 have hold : ∀ x ∈ es.toList, x.born < clock := hmr.st.1; have hlt := h.lt
 have pairs : ∀ e ∈ es.toList, ∃ a c, (a, c) ∈ m ∧ e.key = fk a ∧ e.val = fv c := by
  intro e he; have : (e.key, e.val) ∈ m.map (fun p => (fk p.1, fv p.2)) := by rw [← hmr.eq]; exact List.mem_map.2 ⟨e, he, rfl⟩
  obtain ⟨p, hp, hpe⟩ := List.mem_map.1 this; simp only [Prod.mk.injEq] at hpe; exact ⟨p.1, p.2, hp, hpe.1.symm, hpe.2.symm⟩
 rcases run_next_at (P := P) w o.type b r clock clock _ es clock h1' hm' hold (Nat.le_refl _) with ⟨hl, hr⟩ | ⟨e, he, w1, hw1, hr⟩
 · refine ⟨.tuple #[.bool false], H, w, by simp [execOp, ho, hf.eval hx, hr], ha, false, default, default, dn, rfl, h, by simp, fun _ => ⟨fun p hp => ?_, rfl⟩, Mo.refl _ _⟩
   have : (fk p.1, fv p.2) ∈ es.toList.map (fun e => (e.key, e.val)) := by rw [hmr.eq]; exact List.mem_map.2 ⟨p, hp, rfl⟩
   obtain ⟨e, he, hee⟩ := List.mem_map.1 this; simp only [Prod.mk.injEq] at hee; have hs := all_seen es _ hl e he; refine (seen_mem (m := m) hinj hmr.st h2 h3 he hee.1).1 ?_
   simpa using hs
 · obtain ⟨hes, hns⟩ := mem_left he
   obtain ⟨a, c, hac, hk, hv⟩ := pairs e hes
   have hw1' : At w0 H w1 := by
    rcases hw1 with rfl | rfl
    · exact ha
    · exact ha.drew
   refine ⟨.tuple #[.bool true, e.key, e.val], H.setIfInBounds b (.mapIter (some r) clock ((vis.map (·.born)).toArray.push e.born) clock), _, by simp [execOp, ho, hf.eval hx, hr]; rfl, ?_, true, a, c, dn ++ [a], by rw [hk, hv]; rfl, ⟨vis ++ [e], ?_, ?_, ?_⟩, fun _ => ⟨hac, ?_, rfl⟩, by simp, mo_set _⟩
   · exact ⟨by simp [ChangeMaps.setBlock, hw1'.heap], hw1'.os, hw1'.tape, hw1'.output, hw1'.dr⟩
   · simp [hlt]
   · intro x hx
     rcases List.mem_append.1 hx with h | h
     · exact h2 x h
     · simp only [List.mem_singleton] at h; subst h; exact hes
   · simp [h3, hk]
   · intro had
     have := (seen_mem (m := m) hinj hmr.st h2 h3 hes hk).2 had; simp at hns; simp at this; obtain ⟨x, hx, hxe⟩ := this; exact hns x hx hxe
theorem Y.entryA {x : Operand} {a : κ} {c : β} (h : Itr H b r fk es clock (dn ++ [a])) (hmr : Mr H fk fv r m es clock) (hinj : ∀ a b, fk a = fk b → a = b) (hac : (a, c) ∈ m) (ho : o.op = .entry x) (hx : opv l x = some (.pointer (some ⟨b, 0, none⟩))) : Y P w0 n l H o (.tuple #[fk a, fv c]) := by
 intro ac w hf ha; obtain ⟨vis, h1, h2, h3⟩ := h.ex; have h1' : w.heap[b]? = some (.mapIter (some r) clock (vis.map (·.born)).toArray clock) := by rw [ha.heap]; exact h1
 have hm' : w.heap[r]? = some (.map es clock) := by rw [ha.heap]; exact hmr.at_
 have hne : vis ≠ [] := by intro e; subst e; simp at h3
 obtain ⟨e, he⟩ : ∃ e, vis.getLast? = some e := by
  rw [List.getLast?_eq_some_getLast hne]; exact ⟨_, rfl⟩
 have hev : e ∈ vis := List.mem_of_getLast? he
 have hek : e.key = fk a := by
  have := congrArg List.getLast? h3
  simpa [he] using this
 have hes := h2 e hev; have hback : (vis.map (·.born)).toArray.back? = some e.born := by simp [he]
 have hfind : es.find? (fun x => x.born == e.born) = some e := by
  rw [← Array.find?_toList]
  obtain ⟨x, hx⟩ : ∃ x, es.toList.find? (fun x => x.born == e.born) = some x := by
   rw [← Option.isSome_iff_exists, List.find?_isSome]; exact ⟨e, hes, by simp⟩
  have hxm := List.mem_of_find?_eq_some hx; have hxb := List.find?_some hx; simp only [beq_iff_eq] at hxb; rw [hx, nodup_inj hmr.st.2.1 hxm hes hxb]
 have hval : e.val = fv c := by
  have : (fk a, fv c) ∈ es.toList.map (fun e => (e.key, e.val)) := by rw [hmr.eq]; exact List.mem_map.2 ⟨_, hac, rfl⟩
  obtain ⟨y, hy, hye⟩ := List.mem_map.1 this; simp only [Prod.mk.injEq] at hye; have := nodup_inj hmr.st.2.2 hy hes (hye.1.trans hek.symm); rw [← this]; exact hye.2
 simp [execOp, ho, hf.eval hx, Instr.entry, getObj, Sem.run, h1', hm', hback, hfind, hek, hval]
end
end
section
variable {P : Program} {w0 : World} {n : Nat} {l : FL} {H : Heap} {o : Oper}
end
section
variable {P : Program} {w0 : World} {Q : Exit → Act → World → Prop} {n : Nat} {l : FL} {H : Heap} {ops : Array Oper} {rest : List Oper} {o : Oper}
end
section
variable {P : Program} {w0 : World} {Q : Exit → Act → World → Prop} {n k i : Nat} {dn : List Nat} {l : FL} {H : Heap} {ops : Array Oper} {o : Oper} {SH : Heap → Prop} {X : List Nat}
end
end Go.Proofs.YtfbfjhppppoilaaGreatDoor.E

namespace Go.Proofs.YtfbfjhppppoilaaGreatDoor.E
abbrev Pth := List UInt8
def blt (a b : Pth) : Prop := Op.bytesLess a b = true
instance (a b : Pth) : Decidable (blt a b) := inferInstanceAs (Decidable (_ = _))
theorem blt_irr (a : Pth) : ¬ blt a a := by
 unfold blt
 induction a with
 | nil => simp [Op.bytesLess]
 | cons x a ih => simp only [Op.bytesLess]; simpa using ih
theorem blt_total : ∀ {a b : Pth}, ¬ blt a b → ¬ blt b a → a = b
 | [], [], _, _ => rfl
 | [], _ :: _, h, _ => by simp [blt, Op.bytesLess] at h
 | _ :: _, [], _, h => by simp [blt, Op.bytesLess] at h
 | x :: a, y :: b, h1, h2 => by
   simp only [blt, Op.bytesLess] at h1 h2; by_cases e1 : x < y
   · simp [e1] at h1
   · by_cases e2 : y < x
     · simp [e2] at h2
     · have : x = y := by apply UInt8.toNat.inj; rw [UInt8.lt_iff_toNat_lt] at e1 e2; omega
       subst this; rw [blt_total (a := a) (b := b) (by simpa [blt] using h1) (by simpa [blt] using h2)]
theorem blt_trans : ∀ {a b c : Pth}, blt a b → blt b c → blt a c
 | [], [], _, h, _ => by simp [blt, Op.bytesLess] at h
 | _ :: _, [], _, h, _ => by simp [blt, Op.bytesLess] at h
 | _, _ :: _, [], _, h => by simp [blt, Op.bytesLess] at h
 | [], _ :: _, _ :: _, _, _ => by simp [blt, Op.bytesLess]
 | x :: a, y :: b, z :: c, h1, h2 => by
   simp only [blt, Op.bytesLess, Bool.or_eq_true, decide_eq_true_eq, Bool.and_eq_true, beq_iff_eq] at h1 h2 ⊢; rcases h1 with h1 | ⟨rfl, h1⟩
   · rcases h2 with h2 | ⟨rfl, h2⟩
     · left; rw [UInt8.lt_iff_toNat_lt] at *; omega
     · exact .inl h1
   · rcases h2 with h2 | ⟨rfl, h2⟩
     · exact .inl h2
     · exact .inr ⟨rfl, blt_trans h1 h2⟩
theorem blt_asym {a b : Pth} (h : blt a b) : ¬ blt b a := fun h2 => blt_irr a (blt_trans h h2)
theorem blt_ne {a b : Pth} (h : blt a b) : a ≠ b := fun e => by subst e; exact blt_irr a h
def Rise (l : List Pth) : Prop := l.Pairwise blt
theorem rise_nodup {l : List Pth} (h : Rise l) : l.Nodup := by
 rw [List.nodup_iff_pairwise_ne]; exact h.imp (fun h => blt_ne h)
theorem rise_ext : ∀ {a b : List Pth}, Rise a → Rise b → (∀ x, x ∈ a ↔ x ∈ b) → a = b
 | [], [], _, _, _ => rfl
 | [], y :: b, _, _, h => by have := (h y).2 List.mem_cons_self; cases this
 | x :: a, [], _, _, h => by have := (h x).1 List.mem_cons_self; cases this
 | x :: a, y :: b, ha, hb, h => by
   unfold Rise at ha hb; rw [List.pairwise_cons] at ha hb
   have e : x = y := by
    rcases List.mem_cons.1 ((h x).1 List.mem_cons_self) with e | h1
    · exact e
    · rcases List.mem_cons.1 ((h y).2 List.mem_cons_self) with e | h2
      · exact e.symm
      · exact absurd (ha.1 _ h2) (blt_asym (hb.1 _ h1))
   subst e; congr 1; refine rise_ext ha.2 hb.2 (fun z => ⟨fun hz => ?_, fun hz => ?_⟩)
   · rcases List.mem_cons.1 ((h z).1 (List.mem_cons_of_mem _ hz)) with e | h1
     · subst e; exact absurd (ha.1 _ hz) (blt_irr _)
     · exact h1
   · rcases List.mem_cons.1 ((h z).2 (List.mem_cons_of_mem _ hz)) with e | h1
     · subst e; exact absurd (hb.1 _ hz) (blt_irr _)
     · exact h1
abbrev Nms := List (Pth × Nat)
def Asc (l : Nms) : Prop := l.Pairwise (fun x y => blt x.1 y.1)
theorem Asc.rise {l : Nms} (h : Asc l) : Rise (l.map (·.1)) := by unfold Rise; rw [List.pairwise_map]; exact h
theorem Asc.nodup {l : Nms} (h : Asc l) : (l.map (·.1)).Nodup := rise_nodup h.rise
theorem Asc.filter {l : Nms} (h : Asc l) (p : Pth × Nat → Bool) : Asc (l.filter p) := List.Pairwise.filter _ h
def nput : Nms → Pth → Nat → Nms
 | [], p, i => [(p, i)]
 | x :: l, p, i => if blt x.1 p then x :: nput l p i else if x.1 = p then (p, i) :: l else (p, i) :: x :: l
theorem mget_nput (l : Nms) (p : Pth) (i : Nat) (q : Pth) : mget (nput l p i) q = if q = p then some i else mget l q := by
 induction l with
 | nil => simp [nput, mget]
 | cons x l ih =>
   unfold nput; split
   · rename_i h
     simp only [mget, ih]; by_cases hq : q = x.1
     · have : ¬ q = p := fun e => blt_ne h (by rw [← hq, e])
       rw [if_pos hq, if_pos hq, if_neg this]
     · rw [if_neg hq, if_neg hq]
   · split
     · rename_i h1 h2
       simp only [mget]; by_cases hq : q = p
       · simp [hq]
       · rw [if_neg hq, if_neg hq, if_neg (fun e => hq (e.trans h2))]
     · simp only [mget]
theorem mem_nput {l : Nms} {p : Pth} {i : Nat} {x : Pth × Nat} (h : x ∈ nput l p i) : x = (p, i) ∨ x ∈ l := by
 induction l with
 | nil => simp [nput] at h; exact .inl h
 | cons y l ih =>
   unfold nput at h; split at h
   · rcases List.mem_cons.1 h with e | h
     · exact .inr (by rw [e]; exact List.mem_cons_self)
     · rcases ih h with e | h
       · exact .inl e
       · exact .inr (List.mem_cons_of_mem _ h)
   · split at h
     · rcases List.mem_cons.1 h with e | h
       · exact .inl e
       · exact .inr (List.mem_cons_of_mem _ h)
     · rcases List.mem_cons.1 h with e | h
       · exact .inl e
       · exact .inr h
theorem asc_nput {l : Nms} (h : Asc l) (p : Pth) (i : Nat) : Asc (nput l p i) := by
 induction l with
 | nil => exact List.pairwise_singleton _ _
 | cons x l ih =>
   unfold Asc at h ⊢; rw [List.pairwise_cons] at h; unfold nput; split
   · rename_i h1
     rw [List.pairwise_cons]; refine ⟨fun y hy => ?_, ih h.2⟩; rcases mem_nput hy with e | hy
     · rw [e]; exact h1
     · exact h.1 y hy
   · rename_i h1
     split
     · rename_i h2
       rw [List.pairwise_cons]; exact ⟨fun y hy => by rw [← h2]; exact h.1 y hy, h.2⟩
     · rename_i h2
       have h3 : blt p x.1 := Classical.byContradiction (fun h3 => h2 (blt_total h1 h3)); rw [List.pairwise_cons]; refine ⟨fun y hy => ?_, List.pairwise_cons.2 h⟩; rcases List.mem_cons.1 hy with e | hy
       · rw [e]; exact h3
       · exact blt_trans h3 (h.1 y hy)
theorem asc_ext {a b : Nms} (ha : Asc a) (hb : Asc b) (h : ∀ p, mget a p = mget b p) : a = b := by
 have hk : a.map (·.1) = b.map (·.1) := rise_ext ha.rise hb.rise (fun x => by rw [← isSome_iff_key, ← isSome_iff_key, h])
 have key : ∀ (a b : Nms), a.map (·.1) = b.map (·.1) → Asc a → Asc b → (∀ p, mget a p = mget b p) → a = b := by
  intro a
  induction a with
  | nil => intro b hk _ _ _; cases b with
    | nil => rfl
    | cons y b => cases hk
  | cons x a ih =>
    intro b hk ha hb h
    cases b with
    | nil => cases hk
    | cons y b =>
      simp only [List.map_cons, List.cons.injEq] at hk
      have e2 : x.2 = y.2 := by
       have := h x.1; simp only [mget, if_pos, hk.1] at this; exact Option.some.inj this
      have e : x = y := Prod.ext hk.1 e2; subst e; congr 1; refine ih b hk.2 (List.pairwise_cons.1 ha).2 (List.pairwise_cons.1 hb).2 (fun p => ?_); have h1 := h p; simp only [mget] at h1; by_cases hp : p = x.1
      · have n1 : mget a p = none := Option.not_isSome_iff_eq_none.1 (fun q => by
         rw [isSome_iff_key] at q; obtain ⟨z, hz, e⟩ := List.mem_map.1 q; exact blt_ne ((List.pairwise_cons.1 ha).1 z hz) (by rw [e, hp]))
        have n2 : mget b p = none := Option.not_isSome_iff_eq_none.1 (fun q => by
         rw [isSome_iff_key] at q; obtain ⟨z, hz, e⟩ := List.mem_map.1 q; exact blt_ne ((List.pairwise_cons.1 hb).1 z hz) (by rw [e, hp]))
        rw [n1, n2]
      · rw [if_neg hp, if_neg hp] at h1; exact h1
 exact key a b hk ha hb h
theorem asc_del {l : Nms} (h : Asc l) (p : Pth) : Asc (mdel l p) := List.Pairwise.filter _ h
theorem mget_filter {l : Nms} {f : Pth → Bool} (p : Pth) : mget (l.filter (fun x => f x.1)) p = if f p = true then mget l p else none := by
 induction l with
 | nil => simp [mget]
 | cons x l ih =>
   by_cases hx : f x.1 = true
   · rw [List.filter_cons_of_pos (by simpa using hx)]
     simp only [mget, ih]; by_cases hp : p = x.1
     · rw [if_pos hp, if_pos hp, hp, if_pos hx]
     · rw [if_neg hp, if_neg hp]
   · rw [List.filter_cons_of_neg (by simpa using hx), ih]
     simp only [mget]; by_cases hp : p = x.1
     · rw [hp, if_neg hx, if_neg hx]
     · rw [if_neg hp]
def okc (c : UInt8) : Bool := (97 ≤ c && c ≤ 122) || (48 ≤ c && c ≤ 57) || c == 46 || c == 95 || c == 45 || c == 47
def slk (p : Pth) : Bool := (List.range p.length).all (fun i => !(p.getD i 0 == 47 && (i == 0 || i == p.length - 1 || p.getD (i - 1) 0 == 47)))
def nameB (p : Pth) : Bool := decide (1 ≤ p.length) && decide (p.length ≤ 100) && p.all okc && slk p
def headP (p : Pth) : Pth := p.take (p.length - 1 - (p.reverse.takeWhile (fun c => c ≠ 47)).length)
def dirP (p : Pth) : Pth := if nameB p = true then headP p else []
structure Chg where
 g : Pth
 n : Pth
 f : Option Nat
 deriving DecidableEq
def Chg.ap (c : Chg) (l : Nms) : Nms :=
 let l1 := if c.g = [] then l else mdel l c.g
 match c.f with
 | none => l1
 | some i => nput l1 c.n i
def Chg.dir (c : Chg) : Pth := dirP (if c.g = [] then c.n else c.g)
def apl (cs : List Chg) (l : Nms) : Nms := cs.foldl (fun l c => c.ap l) l
theorem apl_app (a b : List Chg) (l : Nms) : apl (a ++ b) l = apl b (apl a l) := by unfold apl; rw [List.foldl_append]
theorem asc_ap {l : Nms} (h : Asc l) (c : Chg) : Asc (c.ap l) := by
 unfold Chg.ap; have h1 : Asc (if c.g = [] then l else mdel l c.g) := by split; exact h; exact asc_del h _
 cases c.f with
 | none => exact h1
 | some i => exact asc_nput h1 _ _
theorem asc_apl {l : Nms} (h : Asc l) : ∀ cs : List Chg, Asc (apl cs l) := by
 intro cs
 induction cs generalizing l with
 | nil => exact h
 | cons c cs ih => exact ih (asc_ap h c)
def Chg.at (c : Chg) (q : Pth) (o : Option Nat) : Option Nat :=
 match c.f with
 | none => if c.g ≠ [] ∧ q = c.g then none else o
 | some i => if q = c.n then some i else if c.g ≠ [] ∧ q = c.g then none else o
theorem mget_ap (c : Chg) (l : Nms) (q : Pth) : mget (c.ap l) q = c.at q (mget l q) := by
 unfold Chg.ap Chg.at
 cases c.f with
 | none =>
   simp only; by_cases hg : c.g = []
   · simp [hg]
   · rw [if_neg hg, mget_del]; simp [hg]
 | some i =>
   simp only; rw [mget_nput]; by_cases hg : c.g = []
   · simp [hg]
   · rw [if_neg hg, mget_del]; simp [hg]
structure Wr where
 b : Bool
 d : List UInt8
 deriving DecidableEq, Inhabited
structure Fdt where
 now : List UInt8
 stays : List UInt8
 w : List Wr
 deriving DecidableEq, Inhabited
def Wr.on (w : Wr) (b : List UInt8) (n : Nat) : List UInt8 := (if w.b = true then b else []) ++ w.d.take n
def Wr.ways (w : Wr) : Nat := max 1 (2 * w.d.length)
def Wr.part (w : Wr) (b : List UInt8) (way : Nat) : List UInt8 :=
 if way < w.d.length ∨ w.d.length = 0 then w.on b (min (way + 1) w.d.length) else w.on b (way - w.d.length) ++ List.replicate (w.d.length - (way - w.d.length)) 0
def waysF (ws : List Wr) : Nat := 1 + (ws.map Wr.ways).sum
def wayW : List Wr → List UInt8 → Nat → List UInt8
 | [], b, _ => b
 | w :: ws, b, k => if k = 0 then b else if k ≤ w.ways then w.part b (k - 1) else wayW ws (w.on b w.d.length) (k - w.ways)
def onAll (ws : List Wr) (b : List UInt8) : List UInt8 := ws.foldl (fun b w => w.on b w.d.length) b
structure Dk where
 cap : Nat
 most : Nat
 fs : List Fdt
 now : Nms
 stays : Nms
 log : List Chg
 ops : Nat
 left : Nat
 dead : Bool
def fget (fs : List Fdt) (i : Nat) : Fdt := fs.getD i ⟨[], [], []⟩
def Dk.empty (cap most : Nat) : Dk := ⟨cap, most, [], [], [], [], 0, 0, false⟩
def Dk.begin (d : Dk) : Bool × Dk :=
 if d.dead = true then (false, d)
 else if d.left = 1 then (false, { d with left := 0, dead := true })
 else (true, { d with left := d.left - 1, ops := d.ops + 1 })
def Dk.look (d : Dk) (p : Pth) : Nat := if nameB p = true then (if (mget d.now p).isSome then 0 else 2) else 7
def usedL (fs : List Fdt) (l : Nms) : Nat := (l.map (fun x => (fget fs x.2).now.length)).sum
def Dk.used (d : Dk) : Nat := usedL d.fs d.now
def Dk.chgs (d : Dk) (n : Pth) : List Chg := d.log.filter (fun c => c.dir = n)
def Dk.change (d : Dk) (c : Chg) : Dk := { d with now := c.ap d.now, log := d.log ++ [c] }
def Dk.make (d : Dk) (p : Pth) : Dk × Nat := match mget d.now p with
 | some i => (d, i)
 | none => (({ d with fs := d.fs ++ [⟨[], [], []⟩] } : Dk).change ⟨[], p, some d.fs.length⟩, d.fs.length)
def Dk.wasL (d : Dk) (p : Pth) : List UInt8 := match mget d.now p with
 | some i => (fget d.fs i).now
 | none => []
def Dk.putF (d : Dk) (i : Nat) (x : Fdt) : Dk := { d with fs := d.fs.set i x }
def Dk.write (d : Dk) (p : Pth) (w : Wr) : Dk :=
 let (d2, i) := d.make p
 d2.putF i ⟨w.on (fget d2.fs i).now w.d.length, (fget d2.fs i).stays, (fget d2.fs i).w ++ [w]⟩
def Dk.layE (d : Dk) (p : Pth) (w : Wr) : Nat :=
 if nameB p = false then 7
 else if d.most < (w.on (d.wasL p) w.d.length).length then 5
 else if d.cap + (d.wasL p).length < d.used + (w.on (d.wasL p) w.d.length).length then 12
 else 0
def Dk.lay (d : Dk) (p : Pth) (w : Wr) : Nat × Dk :=
 let (g, d1) := d.begin
 if g = false then (11, d1) else (d1.layE p w, if d1.layE p w = 0 then d1.write p w else d1)
def Dk.syncF (d : Dk) (i : Nat) : Dk := d.putF i ⟨(fget d.fs i).now, (fget d.fs i).now, []⟩
def Dk.sync (d : Dk) (p : Pth) : Nat × Dk :=
 let (g, d1) := d.begin
 if g = false then (11, d1) else (d1.look p, if d1.look p = 0 then d1.syncF ((mget d1.now p).getD 0) else d1)
def Dk.renE (d : Dk) (a b : Pth) : Nat :=
 if nameB a = false ∨ nameB b = false then 7 else if dirP a ≠ dirP b then 13 else d.look a
def Dk.rename (d : Dk) (a b : Pth) : Nat × Dk :=
 let (g, d1) := d.begin
 if g = false then (11, d1) else (d1.renE a b, if d1.renE a b = 0 ∧ a ≠ b then d1.change ⟨a, b, some ((mget d1.now a).getD 0)⟩ else d1)
def Dk.remove (d : Dk) (p : Pth) : Nat × Dk :=
 let (g, d1) := d.begin
 if g = false then (11, d1) else (d1.look p, if d1.look p = 0 then d1.change ⟨p, [], none⟩ else d1)
def merge (now stays : Nms) (n : Pth) : Nms := (now.filter (fun x => dirP x.1 = n)).foldl (fun l x => nput l x.1 x.2) (stays.filter (fun x => !decide (dirP x.1 = n)))
def Dk.stayD (d : Dk) (n : Pth) : Dk := { d with stays := merge d.now d.stays n, log := d.log.filter (fun c => !decide (c.dir = n)) }
def dirE (n : Pth) : Nat := if n ≠ [] ∧ nameB n = false then 7 else 0
def Dk.syncDir (d : Dk) (n : Pth) : Nat × Dk :=
 let (g, d1) := d.begin
 if g = false then (11, d1) else (dirE n, if dirE n = 0 then d1.stayD n else d1)
def Dk.readE (d : Dk) (p : Pth) : Nat := if d.dead = true then 11 else d.look p
def Dk.readL (d : Dk) (p : Pth) : List UInt8 := if d.readE p = 0 then d.wasL p else []
def Dk.listE (d : Dk) (n : Pth) : Nat := if d.dead = true then 11 else dirE n
def Dk.listL (d : Dk) (n : Pth) : List Pth := if d.listE n = 0 then (d.now.filter (fun x => dirP x.1 = n)).map (·.1) else []
def Dk.stop (d : Dk) (n : Nat) : Dk := { d with left := n }
def pickN (picks : List Int) (at_ of : Nat) : Nat := if at_ < picks.length then (picks.getD at_ 0 % (of : Int)).toNat else 0
def crashD (picks : List Int) (d : Dk) (s : Nms × Nat) (n : Pth) : Nms × Nat :=
 if d.chgs n = [] then s else (apl ((d.chgs n).take (pickN picks s.2 ((d.chgs n).length + 1))) s.1, s.2 + 1)
def crashF (picks : List Int) (s : List Fdt × Nat) (x : Pth × Nat) : List Fdt × Nat :=
 let f := fget s.1 x.2
 if f.w = [] then s
 else
  let b := wayW f.w f.stays (pickN picks s.2 (waysF f.w))
  (s.1.set x.2 ⟨b, b, []⟩, s.2 + 1)
def insP : List Pth → Pth → List Pth
 | [], p => [p]
 | x :: l, p => if blt x p then x :: insP l p else if x = p then x :: l else p :: x :: l
def Dk.dirty (d : Dk) : List Pth := (d.log.map Chg.dir).foldl insP []
def Dk.crashN (d : Dk) (picks : List Int) : Nms × Nat := d.dirty.foldl (crashD picks d) (d.stays, 0)
def Dk.crashA (d : Dk) (picks : List Int) : List Fdt × Nat := (d.crashN picks).1.foldl (crashF picks) (d.fs, (d.crashN picks).2)
def Dk.crash (d : Dk) (picks : List Int) : Dk :=
 { d with fs := (d.crashA picks).1, now := (d.crashN picks).1, stays := (d.crashN picks).1, log := [], left := 0, dead := false }
theorem mem_insP {l : List Pth} {p q : Pth} : q ∈ insP l p ↔ q = p ∨ q ∈ l := by
 induction l with
 | nil => simp [insP]
 | cons x l ih =>
   unfold insP; split
   · simp only [List.mem_cons, ih]
     constructor
     · rintro (h | h | h)
       · exact .inr (.inl h)
       · exact .inl h
       · exact .inr (.inr h)
     · rintro (h | h | h)
       · exact .inr (.inl h)
       · exact .inl h
       · exact .inr (.inr h)
   · split
     · rename_i h; subst h
       simp only [List.mem_cons]; constructor
       · rintro (h | h)
         · exact .inl h
         · exact .inr (.inr h)
       · rintro (h | h | h)
         · exact .inl h
         · exact .inl h
         · exact .inr h
     · simp only [List.mem_cons]
theorem rise_insP {l : List Pth} (h : Rise l) (p : Pth) : Rise (insP l p) := by
 induction l with
 | nil => exact List.pairwise_singleton _ _
 | cons x l ih =>
   unfold Rise at h ⊢; have h0 := h; rw [List.pairwise_cons] at h; unfold insP; split
   · rename_i h1
     rw [List.pairwise_cons]; refine ⟨fun y hy => ?_, ih h.2⟩; rcases mem_insP.1 hy with e | hy
     · rw [e]; exact h1
     · exact h.1 y hy
   · rename_i h1
     split
     · exact h0
     · rename_i h2
       have h3 : blt p x := Classical.byContradiction (fun h3 => h2 (blt_total h1 h3)); rw [List.pairwise_cons]; refine ⟨fun y hy => ?_, h0⟩; rcases List.mem_cons.1 hy with e | hy
       · rw [e]; exact h3
       · exact blt_trans h3 (h.1 y hy)
theorem foldl_insP (m : List Pth) : ∀ {l : List Pth}, Rise l → Rise (m.foldl insP l) ∧ ∀ q, q ∈ m.foldl insP l ↔ q ∈ m ∨ q ∈ l := by
 induction m with
 | nil => intro l h; exact ⟨h, fun q => by simp⟩
 | cons p m ih =>
   intro l h; obtain ⟨h1, h2⟩ := ih (rise_insP h p); refine ⟨h1, fun q => ?_⟩; rw [List.foldl_cons, h2, mem_insP, List.mem_cons]; constructor
   · rintro (h | h | h)
     · exact .inl (.inr h)
     · exact .inl (.inl h)
     · exact .inr h
   · rintro ((h | h) | h)
     · exact .inr (.inl h)
     · exact .inl h
     · exact .inr (.inr h)
theorem Dk.dirty_rise (d : Dk) : Rise d.dirty := (foldl_insP _ List.Pairwise.nil).1
theorem Dk.mem_dirty (d : Dk) (n : Pth) : n ∈ d.dirty ↔ d.chgs n ≠ [] := by
 unfold Dk.dirty; rw [(foldl_insP _ List.Pairwise.nil).2]; unfold Dk.chgs; rw [ne_eq, List.filter_eq_nil_iff]; simp
theorem crashD_skip {picks : List Int} {d : Dk} {s : Nms × Nat} {n : Pth} (h : d.chgs n = []) : crashD picks d s n = s := by unfold crashD; rw [if_pos h]
theorem crashN_of (d : Dk) (picks : List Int) : ∀ (L : List Pth) (s : Nms × Nat), L.foldl (crashD picks d) s = (L.filter (fun n => !(d.chgs n).isEmpty)).foldl (crashD picks d) s := by
 intro L
 induction L with
 | nil => intro s; rfl
 | cons n L ih =>
   intro s; rw [List.foldl_cons]; by_cases h : d.chgs n = []
   · rw [List.filter_cons_of_neg (by simp [h]), crashD_skip h, ih]
   · rw [List.filter_cons_of_pos (by simpa using h), List.foldl_cons, ih]
theorem Dk.crashN_any (d : Dk) (picks : List Int) {L : List Pth} (hL : Rise L) (h : ∀ n, d.chgs n ≠ [] → n ∈ L) : L.foldl (crashD picks d) (d.stays, 0) = d.crashN picks := by
 unfold Dk.crashN; rw [crashN_of]; congr 1; refine rise_ext (List.Pairwise.filter _ hL) d.dirty_rise (fun n => ?_); rw [List.mem_filter, d.mem_dirty]; constructor
 · rintro ⟨_, h2⟩; simpa using h2
 · intro h2; exact ⟨h n h2, by simpa using h2⟩
theorem mget_fold (l : Nms) : ∀ (m : Nms) (q : Pth), Asc l → mget (l.foldl (fun l x => nput l x.1 x.2) m) q = match mget l q with | some i => some i | none => mget m q := by
 induction l with
 | nil => intro m q _; rfl
 | cons x l ih =>
   intro m q h; unfold Asc at h; rw [List.pairwise_cons] at h; rw [List.foldl_cons, ih _ _ h.2, mget_nput]; simp only [mget]; by_cases hq : q = x.1
   · have : mget l q = none := Option.not_isSome_iff_eq_none.1 (fun c => by
      rw [isSome_iff_key] at c; obtain ⟨z, hz, e⟩ := List.mem_map.1 c; exact blt_ne (h.1 z hz) (by rw [e, hq]))
     rw [if_pos hq, if_pos hq, this]
   · rw [if_neg hq, if_neg hq]
theorem mget_merge {now stays : Nms} (h : Asc now) (n q : Pth) : mget (merge now stays n) q = if dirP q = n then mget now q else mget stays q := by
 unfold merge; rw [mget_fold _ _ _ (h.filter _), mget_filter (f := fun p => decide (dirP p = n)), mget_filter (f := fun p => !decide (dirP p = n))]; by_cases hq : dirP q = n
 · simp only [hq, decide_true, if_true, Bool.not_true, Bool.false_eq_true, if_false]
   cases mget now q <;> rfl
 · simp [hq]
theorem asc_fold (l : Nms) : ∀ m : Nms, Asc m → Asc (l.foldl (fun l x => nput l x.1 x.2) m) := by
 induction l with
 | nil => intro m h; exact h
 | cons x l ih => intro m h; exact ih _ (asc_nput h _ _)
theorem asc_merge {now stays : Nms} (h : Asc stays) (n : Pth) : Asc (merge now stays n) := asc_fold _ _ (h.filter _)
end Go.Proofs.YtfbfjhppppoilaaGreatDoor.E

namespace Go.Proofs.YtfbfjhppppoilaaGreatDoor.E
section
variable {h k kk : Nat} {ks : List Nat} {G F : Nat → Prop} {H0 H H' : Heap}
theorem Nx.z {a : Nat} (x : Nx 0 h k) : Nx a h k := by unfold Nx at *; omega
end
section
variable {κ β : Type} [DecidableEq κ] {fk : κ → Value} {fv : β → Value} {b m r : Nat} {l : List (κ × β)} {es : Array MapEntry} {clock : Nat} {dn : List κ} {H H' : Heap}
end
section
variable {κ α : Type} {G : Nat → Prop} {e : TypeId} {H H' : Heap} {f : α → List Value} {sz : Nat} {val : κ → Value} {ch : κ → List α} {ks : List Nat}
end
end Go.Proofs.YtfbfjhppppoilaaGreatDoor.E

namespace Go.Proofs.YtfbfjhppppoilaaGreatDoor.E
abbrev FW (ro : Option Nat) : Fence := { Fence.wide with round := ro }
structure Lpr (H : Heap) (b : Nat) (r : Loop) : Prop where
 at_ : H[b]? = some (.loop r)
structure Dfr (H : Heap) (b : Nat) : Prop where
 at_ : H[b]? = some (.deferred (some []))
section
variable {H H' : Heap} {b : Nat} {r : Loop} {ks : List Nat}
theorem Lpr.lt (h : Lpr H b r) : b < H.size := (Array.getElem?_eq_some_iff.1 h.at_).1
theorem Lpr.up {S : Nat → Prop} (h : Lpr H b r) (s : Mo S H H') (hS : ¬ S b) : Lpr H' b r := ⟨by rw [s.same b h.lt hS]; exact h.at_⟩
theorem Lpr.nw (h : Lpr H b r) (s : Nw H H') : Lpr H' b r := h.up s (fun e => e)
theorem Lpr.upL (h : Lpr H b r) (s : Mo (Ms ks) H H') (d : DL (b + 1) ks) : Lpr H' b r := h.up s (fun h2 => d (b + 1) h2 b rfl rfl)
theorem Dfr.lt (h : Dfr H b) : b < H.size := (Array.getElem?_eq_some_iff.1 h.at_).1
theorem Dfr.up {S : Nat → Prop} (h : Dfr H b) (s : Mo S H H') (hS : ¬ S b) : Dfr H' b := ⟨by rw [s.same b h.lt hS]; exact h.at_⟩
theorem Dfr.nw (h : Dfr H b) (s : Nw H H') : Dfr H' b := h.up s (fun e => e)
theorem Dfr.upL (h : Dfr H b) (s : Mo (Ms ks) H H') (d : DL (b + 1) ks) : Dfr H' b := h.up s (fun h2 => d (b + 1) h2 b rfl rfl)
end
theorem Var.le {e : TypeId} {H : Heap} {b : Nat} {cs : List Value} (h : Var e H b cs) : b + 1 ≤ H.size := h.lt
def LRI (ro : Option Nat) (P : Program) (w0 : World) (ops : Array Oper) (Q : Exit → Act → World → Prop) (n : Nat) (l : FL) (rest : List Oper) (H : Heap) : Prop :=
 ∀ a w, Fr n l a → At w0 H w → wpListIn (FW ro) 0 P ops Q rest a w
def YCt (P : Program) (w0 : World) (lp : Nat) (args : List Value) (H : Heap) (R : Value → Heap → Prop) : Prop :=
 ∀ w, At w0 H w → YieldAt (FW none) 0 P lp args.toArray w (fun e w' => ∃ r H', e = .returned r ∧ At w0 H' w' ∧ R r H')
section
variable {ro : Option Nat} {P : Program} {w0 : World} {Q : Exit → Act → World → Prop} {n : Nat} {l : FL} {H : Heap} {ops : Array Oper} {rest : List Oper} {o : Oper}
theorem LRI.nil (h : QN w0 Q n l H) : LRI ro P w0 ops Q n l [] H := fun a w hf ha => h a w hf ha
theorem LRI.v {v : Value} {d : Nat} (hy : Y P w0 n l H o v) (hnd : ∀ c, o.op ≠ .defer c) (hw : Wd ops l o) (hd : o.dst = some d) (hn : Nat.blt d n = true) (h : LRI ro P w0 ops Q n ((d, v) :: l) rest H) : LRI ro P w0 ops Q n l (o :: rest) H := by
 intro a w hf ha; have hp := hf.put hn v; rw [← hd] at hp; unfold wpListIn; rw [if_pos (hw n a hf)]; refine ⟨fun _ _ => trivial, ?_⟩; rw [Oper.semAt_eq _ _ _ hnd, hy a w hf ha]; exact h _ w hp ha
theorem LRI.z {R : Value → Heap → Prop} {d : Nat} (hz : Z P w0 n l H o R) (hnd : ∀ c, o.op ≠ .defer c) (hw : Wd ops l o) (hd : o.dst = some d) (hn : Nat.blt d n = true) (h : ∀ v H', R v H' → LRI ro P w0 ops Q n ((d, v) :: l) rest H') : LRI ro P w0 ops Q n l (o :: rest) H := by
 intro a w hf ha; obtain ⟨v, H', w', hr, ha', hR⟩ := hz a w hf ha; have hp := hf.put hn v; rw [← hd] at hp; unfold wpListIn; rw [if_pos (hw n a hf)]; refine ⟨fun _ _ => trivial, ?_⟩; rw [Oper.semAt_eq _ _ _ hnd, hr]; exact h v H' hR _ w' hp ha'
theorem LRI.s {R : Heap → Prop} (hz : S P w0 n l H o R) (hnd : ∀ c, o.op ≠ .defer c) (hw : Wd ops l o) (hd : o.dst = none) (h : ∀ H', R H' → LRI ro P w0 ops Q n l rest H') : LRI ro P w0 ops Q n l (o :: rest) H := by
 intro a w hf ha; obtain ⟨H', w', hr, ha', hR⟩ := hz a w hf ha; unfold wpListIn; rw [if_pos (hw n a hf)]; refine ⟨fun _ _ => trivial, ?_⟩; rw [Oper.semAt_eq _ _ _ hnd, hr]; show wpListIn (FW ro) 0 P ops Q rest (a.put o.dst undef) w'; rw [hd]; exact h H' hR a w' hf ha'
theorem LRI.round {R : Value → Heap → Prop} {d lp : Nat} {c : Operand} {args : List Operand} {ats : Array TypeId} {vs : List Value} (ho : o.op = .call { callee := .value c, args := args.toArray, argTypes := ats })
 (hcv : opv l c = some (.func (.yield lp) #[] #[])) (hv : opvs l args = some vs) (hw : Wd ops l o) (hd : o.dst = some d) (hn : Nat.blt d n = true) (hc : YCt P w0 lp vs H R)
 (h : ∀ v H', R v H' → LRI none P w0 ops Q n ((d, v) :: l) rest H') : LRI none P w0 ops Q n l (o :: rest) H := by
 intro a w hf ha; obtain ⟨fn, tmps, assign, body, hy, hr⟩ := hc w ha
 have he : (execOp a.eval o).run P w = .ok (.round lp fn tmps assign body) w := by
  have h2 := hf.evals hv; have h3 : (args.toArray.map a.eval) = vs.toArray := by rw [List.map_toArray, h2]
  simp [execOp, ho, resolve, Deferred.ofValue, hf.eval hcv, invoke, h2, hy]
 unfold wpListIn; rw [if_pos (hw n a hf)]; refine ⟨fun _ _ => trivial, ?_⟩; rw [Oper.semAt_eq _ _ _ (by intro c e; rw [ho] at e; cases e), he, Oper.uponIn_round]; refine ⟨fun q => (by cases q), ?_⟩; refine hr.mono ?_; rintro e w' ⟨r, H', rfl, ha', hR⟩; have hp := hf.put hn r; rw [← hd] at hp; exact h r H' hR _ w' hp ha'
theorem CW.region_in {id : Nat} {lo : List Oper} (h : LRI none P w0 lo.toArray Q n l lo H) : CW P w0 Q n l (.region id lo.toArray false) H :=
 fun a w hf ha => wpIn_wide.1 (wpIn_region_lit (h a w hf ha))
theorem LRI.mono {Q2 : Exit → Act → World → Prop} (hq : ∀ e a w, Q e a w → Q2 e a w) {id : Nat} {lo : List Oper} (h : LRI ro P w0 lo.toArray Q n l lo H) {a : Act} {w : World} (hf : Fr n l a) (ha : At w0 H w) : (Code.region id lo.toArray false).wpIn (FW ro) 0 P Q2 a w :=
 Code.wpIn_mono hq (wpIn_region_lit (h a w hf ha))
theorem YCt.of {r : Loop} {x : Value} {p lp ida idb idc : Nat} {la lb : List Oper} {R : Value → Heap → Prop} (hl : Lpr H lp r) (hst : r.state = .ready) (hpe : r.pending = none) (hps : r.params = #[p]) (hA : r.assign = .region ida la.toArray false) (hB : r.body = .block idb (.region idc lb.toArray false))
 (hf : Fr n l { tmps := r.tmps.setIfInBounds p x, defers := [] })
 (h : LRI (some lp) P w0 la.toArray (fun e a1 w1 => e = .normal ∧ ∃ l2 H2, Fr n l2 a1 ∧ At w0 H2 w1 ∧ Lpr H2 lp r ∧
  LRI (some lp) P w0 lb.toArray (fun e a3 w3 => e = .normal ∧ ∃ H3, At w0 H3 w3 ∧ Lpr H3 lp { r with state := .busy } ∧ R (.bool true) (H3.setIfInBounds lp (.loop r))) n l2 lb (H2.setIfInBounds lp (.loop { r with state := .busy }))) n l la H) :
 YCt P w0 lp [x] H R := by
 intro w ha; have hlw : w.heap[lp]? = some (.loop r) := by rw [ha.heap]; exact hl.at_
 refine ⟨r.fn, r.tmps.setIfInBounds p x, r.assign, r.body, ?_, ?_⟩
 · have := run_yield (P := P) (args := #[x]) hlw (by rw [hps]; rfl)
   rw [hps] at this
   simpa using this
 · refine roundIn_of_wpIn (F := FW none) trivial ?_
   rw [hA, hB]; refine LRI.mono (ro := some lp) ?_ h hf ha; rintro e a1 w1 ⟨rfl, l2, H2, hf2, ha2, hl2, hb⟩; have hlw2 : w1.heap[lp]? = some (.loop r) := by rw [ha2.heap]; exact hl2.at_
   refine ⟨_, run_beginRound (P := P) hlw2 hst, ?_⟩
   have ha3 : At w0 (H2.setIfInBounds lp (.loop { r with state := .busy })) (w1.putObj lp (.loop { r with state := .busy })) := by
    unfold World.putObj; rw [ha2.heap]; exact ha2.set
   refine wpIn_block ?_; refine LRI.mono (ro := some lp) ?_ hb hf2 ha3; rintro e a3 w3 ⟨rfl, H3, ha4, hl4, hR⟩; have hlw4 : w3.heap[lp]? = some (.loop { r with state := .busy }) := by rw [ha4.heap]; exact hl4.at_
   refine ⟨_, _, run_endRound (P := P) none hlw4, .bool true, H3.setIfInBounds lp (.loop r), rfl, ?_, hR⟩
   have hr2 : ({ ({ r with state := .busy } : Loop) with state := if (none : Option Code).isNone then .ready else .done, pending := none } : Loop) = r := by
    cases r; simp only at hst hpe; subst hst hpe; rfl
   rw [hr2]; unfold World.putObj; rw [ha4.heap]; exact ha4.set
end
end Go.Proofs.YtfbfjhppppoilaaGreatDoor.E

namespace Go.Proofs.YtfbfjhppppoilaaGreatDoor.E
section
variable {F : Nat → Prop} {a k k2 h h2 m : Nat} {K K0 K2 K3 ks : List Nat}
def DKL (K ks : List Nat) : Prop := ∀ k ∈ K, DL k ks
def NxK (K : List Nat) (h : Nat) (K2 : List Nat) : Prop := ∀ k ∈ K2, k = 0 ∨ k ∈ K ∨ h < k
def BK (K : List Nat) (h : Nat) : Prop := ∀ k ∈ K, k ≤ h
theorem DL.zK : DL 0 K := fun k _ => Dj.z2
theorem DL.app (d : DL a K) (e : DL a ks) : DL a (K ++ ks) := fun k hk => (List.mem_append.1 hk).elim (d k) (e k)
theorem DFL.app (d : DFL F K) (e : DFL F ks) : DFL F (K ++ ks) := fun k hk => (List.mem_append.1 hk).elim (d k) (e k)
theorem DKL.nil : DKL K [] := fun k _ => DL.nil
theorem DKL.cons (d : DL m K) (e : DKL K ks) : DKL K (m :: ks) := fun k hk => DL.cons (d k hk).symm (e k hk)
theorem DKL.symm (d : DKL K K2) : DKL K2 K := fun k hk j hj => (d j hj k hk).symm
theorem MIL.app {js : List Nat} (d : MIL ks h K) (e : MIL ks h js) : MIL ks h (K ++ js) := fun k hk => (List.mem_append.1 hk).elim (d k) (e k)
theorem DL.newK (b : BK K h) : DL (h + 1) K := fun k hk => (Dj.new (b k hk)).symm
theorem DL.appK (d : DL a K) (ha : a ≤ h) (x : NxK K h K2) : DL a K2 := fun k hk => by
 rcases x k hk with e | e | e
 · subst e; exact Dj.z
 · exact d k e
 · intro c h1 h2; omega
theorem DFL.appK (d : DFL F K) (hb : BF F h) (x : NxK K h K2) : DFL F K2 := fun k hk b hF he => by
 have := hb b hF; rcases x k hk with e | e | e
 · omega
 · exact d k e b hF he
 · omega
theorem DKL.appK (d : DKL K0 K) (b : BK K0 h) (x : NxK K h K2) : DKL K0 K2 := fun k hk => DL.appK (d k hk) (b k hk) x
theorem DL.app2 (d : DL k K) (b : BK K h) (x : Nx k h k2) : DL k2 K := fun j hj => by
 rcases x with e | e | e
 · subst e; exact Dj.z2
 · subst e; exact d j hj
 · have := b j hj; intro c h1 h2; omega
theorem NxK.refl (K : List Nat) (h : Nat) : NxK K h K := fun k hk => .inr (.inl hk)
theorem NxK.tr (x : NxK K h K2) (y : NxK K2 h2 K3) (hh : h ≤ h2) : NxK K h K3 := fun k hk => by
 rcases y k hk with e | e | e
 · exact .inl e
 · exact x k e
 · exact .inr (.inr (by omega))
theorem NxK.cons (d : Nx 0 h a) (x : NxK K h K2) : NxK K h (a :: K2) := fun k hk => by
 rcases List.mem_cons.1 hk with e | e
 · subst e; unfold Nx at d; omega
 · exact x k e
def KM (K : List Nat) (k : Nat) : Prop := ∀ c, c + 1 = k → c + 1 ∈ K
theorem KM.of (h : k ∈ K) : KM K k := fun c e => by rw [e]; exact h
theorem KM.or (h : KM K k) : k = 0 ∨ k ∈ K := by
 cases k with
 | zero => exact .inl rfl
 | succ c => exact .inr (h c rfl)
theorem DL.at (d : DL a K) (m : KM K k) : Dj a k := by
 rcases m.or with e | e
 · subst e; exact Dj.z
 · exact d k e
theorem DFL.at (d : DFL F K) (m : KM K k) : DF F k := by
 rcases m.or with e | e
 · subst e; exact DF.z
 · exact d k e
theorem MIL.at (d : MIL ks h K) (m : KM K k) : MI ks h k := by
 rcases m.or with e | e
 · subst e; exact MI.z
 · exact d k e
theorem NxK.app {k0 : Nat} (x : NxK K h K2) (hm : KM K2 k0) (y : Nx k0 h2 a) (hh : h ≤ h2) : NxK K h (a :: K2) := fun k hk => by
 rcases List.mem_cons.1 hk with e | e
 · subst e
   rcases y with y | y | y
   · exact .inl y
   · rcases hm.or with e2 | e2
     · exact .inl (y.trans e2)
     · rw [y]; exact x k0 e2
   · exact .inr (.inr (by omega))
 · exact x k e
theorem NxK.consE (x : NxK K h K2) (e : a = 0 ∨ a ∈ K2 ∨ h < a) : NxK K h (a :: K2) := fun k hk => by
 rcases List.mem_cons.1 hk with q | q
 · subst q
   rcases e with e | e | e
   · exact .inl e
   · exact x k e
   · exact .inr (.inr e)
 · exact x k q
theorem DL.nxK (b : BK K h) (x : Nx 0 h a) : DL a K := fun k hk => by
 have := b k hk; intro c h1 h2; unfold Nx at x; omega
theorem MIL.ofK (x : NxK K h K2) (hk : ∀ k ∈ K, k ∈ ks) : MIL ks h K2 := fun k hk2 b hb e => by
 rcases x k hk2 with e2 | e2 | e2
 · omega
 · unfold Ms; rw [e]; exact hk k e2
 · omega
theorem MIL.ofK0 (x : NxK [] h K2) : MIL ks h K2 := fun k hk2 b hb e => by
 rcases x k hk2 with e2 | e2 | e2
 · omega
 · cases e2
 · omega
end
section
open Go.MapKept
variable {P : Program} {w0 : World} {n : Nat} {l : FL} {H : Heap} {o : Oper} {κ β : Type} [DecidableEq κ] {fk : κ → Value} {fv : β → Value} {b : Nat} {m : List (κ × β)} {d : TypeDesc}
theorem Z.delS {t u kt et : TypeId} {x i : Operand} {k : κ} (h : Mp H fk fv b m) (hfk : KeyFn d fk) (ho : o.op = .call { callee := .builtin .delete, args := #[x, i], argTypes := #[t, u] }) (hm : ∀ w, (underlying t).run P w = .ok (.map kt et) w) (hk : P.underlying kt = some d)
 (hx : opv l x = some (.map (some b))) (hi : opv l i = some (fk k)) : Z P w0 n l H o (fun r H' => r = .tuple #[] ∧ Mp H' fk fv b (mdel m k) ∧ Mo (fun c => c = b) H H') := by
 intro ac w hf ha; obtain ⟨r, es, clock, hv, h2, h3, h4, h5⟩ := h.mo.ex; obtain rfl := h2; have h3' : w.heap[r]? = some (.map es clock) := by rw [ha.heap]; exact h3
 have hlt := (Array.getElem?_eq_some_iff.1 h3).1; have hget : ∀ ob, (H.setIfInBounds r ob)[r]? = some ob := fun ob => by simp [hlt]
 rcases find_entries (k := k) hfk es.toList m 0 h5 with ⟨q1, q2, q3⟩ | ⟨j, e', b', q1, q2, q3, q4, q5⟩
 · refine ⟨_, H.setIfInBounds r (.map es clock), { w with heap := H.setIfInBounds r (.map es clock) }, ?_, ha.set, rfl, ⟨⟨r, _, _, rfl, rfl, hget _, h4, ?_⟩⟩, mo_set _⟩
   · simp [execOp, ho, hf.eval hx, hf.eval hi, resolve, invoke, builtin, Builtin.delete_, hm, MapKept.run_getObj_map h3', MapKept.run_checkKey hk (hfk.key k), MapKept.run_findKey hk q2, MapKept.run_setObj_map _ h3', ha.heap]
   · rw [h5]
     congr 1; unfold mdel; exact (List.filter_eq_self.2 (fun p hp => by simpa using mget_none q1 p hp)).symm
 · have hj : es[j]? = some e' := by simpa using q3
   refine ⟨_, H.setIfInBounds r (.map (es.eraseIdxIfInBounds j) clock), { w with heap := H.setIfInBounds r (.map (es.eraseIdxIfInBounds j) clock) }, ?_, ha.set, rfl, ⟨⟨r, _, _, rfl, rfl, hget _, stamped_erase h4 _, ?_⟩⟩, mo_set _⟩
   · simp [execOp, ho, hf.eval hx, hf.eval hi, resolve, invoke, builtin, Builtin.delete_, hm, MapKept.run_getObj_map h3', MapKept.run_checkKey hk (hfk.key k), MapKept.run_findKey hk q2, MapKept.run_setObj_map _ h3', ha.heap]
   · have hjl : j < es.size := (Array.getElem?_eq_some_iff.1 hj).1
     rw [Array.eraseIdxIfInBounds, dif_pos hjl, Array.toList_eraseIdx]; exact erase_entries hfk.inj es.toList m j e' h5 h4.2.2 q3 q4
end
end Go.Proofs.YtfbfjhppppoilaaGreatDoor.E

namespace Go.Proofs.YtfbfjhppppoilaaGreatDoor.SimA
open E Go.RowKit
set_option maxRecDepth 20000
theorem Ct.still {P : Program} {w0 : World} {f : FuncId} {args : Array Value} {H : Heap} {v : Value} (h : ∀ w, At w0 H w → Calls P f args w fun e w' => e = .returned v ∧ w' = w) : Ct P w0 f args H (fun r H2 => r = v ∧ Nw H H2) :=
 fun w ha => (h w ha).mono (fun e w' ⟨he, hw⟩ => ⟨v, H, he, by rw [hw]; exact ha, rfl, Nw.refl _⟩)
abbrev MX (m : Int) (H : Heap) : Prop := PtF (fun b => b = 0) H ⟨0, 0, none⟩ [.int .i64 m]
theorem MX.cell {m : Int} {H : Heap} {w0 w : World} (h : MX m H) (ha : At w0 H w) : w.cell? ⟨0, 0, none⟩ = some (.int .i64 m) := by
 have := h.pt.cells 0 (.int .i64 m) rfl; rw [ha.cell]; exact this
theorem contains_ct (s sub : List UInt8) (mx_ : Int) (w0 : World) (H0 : Heap) (mx : MX mx_ H0) (hs : s.length < 4294967281) : Ct Tryz.prog w0 66 #[Str s, Str sub] H0 (fun r H2 => r = .bool (Lib.contains s sub) ∧ Nw H0 H2) :=
 Ct.still (fun w ha => by
  have h : Calls Tryz.prog 66 #[Str s, Str sub] w fun e w' => e = .returned (.bool (Lib.contains s sub)) ∧ w' = w := Any.strings_Contains Tryz.lays144 ⟨s.toArray⟩ ⟨sub.toArray⟩ mx_ w (by simpa [ByteArray.size] using hs) (mx.cell ha); exact h)
theorem idx_ct (s : List UInt8) (c : UInt8) (w0 : World) (H0 : Heap) : Ct Tryz.prog w0 67 #[Str s, .int .u8 c.toNat] H0 (fun r H2 => r = .int .i64 (Lib.indexByte s c) ∧ Nw H0 H2) :=
 Ct.still (fun w ha => by
  have h : Calls Tryz.prog 67 #[Str s, .int .u8 c.toNat] w fun e w' => e = .returned (.int .i64 (Lib.indexByte s ((c.toNat : Int)).toNat.toUInt8)) ∧ w' = w := Any.strings_IndexByte Tryz.lays137 ⟨s.toArray⟩ c.toNat w; have e : ((c.toNat : Int)).toNat.toUInt8 = c := by simp
  rw [e] at h; exact h)
def lastL (p : List UInt8) : List UInt8 := (p.reverse.takeWhile (fun c => c ≠ 47)).reverse
theorem lastL_at {p : List UInt8} {j : Nat} (hj : j ≤ p.length) (h1 : ∀ q (h : q < p.length), j ≤ q → p[q] ≠ 47) (h2 : ∀ h : 0 < j, p[j - 1]'(by omega) = 47) : lastL p = p.drop j := by
 have e : p.reverse = (p.drop j).reverse ++ (p.take j).reverse := by rw [← List.reverse_append, List.take_append_drop]
 have hd : ∀ c ∈ (p.drop j).reverse, (decide (c ≠ 47)) = true := by
  intro c hc; rw [List.mem_reverse, List.mem_iff_getElem] at hc; obtain ⟨q, hq, rfl⟩ := hc; rw [List.getElem_drop]
  simpa using h1 (j + q) (by simpa using (by rw [List.length_drop] at hq; omega)) (by omega)
 unfold lastL; rw [e, List.takeWhile_append_of_pos hd]; rcases Nat.eq_zero_or_pos j with h0 | h0
 · subst h0; simp
 · have e2 : (p.take j).reverse = 47 :: (p.take (j - 1)).reverse := by
    have : p.take j = p.take (j - 1) ++ [47] := by
     have h3 := List.take_succ_eq_append_getElem (l := p) (i := j - 1) (by omega); rw [show j - 1 + 1 = j by omega, h2 h0] at h3; exact h3
    rw [this]; simp
   rw [e2, List.takeWhile_cons]; simp
theorem Ct.still2 {P : Program} {w0 : World} {f : FuncId} {args : Array Value} {H : Heap} {v : Value} (h : ∀ w, At w0 H w → Calls P f args w fun e w' => e = .returned v ∧ (w' = w ∨ w' = w.drew)) : Ct P w0 f args H (fun r H2 => r = v ∧ Nw H H2) :=
 fun w ha => (h w ha).mono (fun e w' ⟨he, hw⟩ => by
  rcases hw with rfl | rfl
  · exact ⟨v, H, he, ha, rfl, Nw.refl _⟩
  · exact ⟨v, H, he, ha.drew, rfl, Nw.refl _⟩)
theorem trim_ct (s : List UInt8) (w0 : World) (H0 : Heap) (hs : s.length ≤ 9223372036854775807) : Ct Tryz.prog w0 65 #[Str s, Str [47]] H0 (fun r H2 => r = Str (Lib.trimB s 47) ∧ Nw H0 H2) :=
 Ct.still2 (fun w ha => by
  have h : Calls Tryz.prog 65 #[Str s, Str [47]] w fun e w' => e = .returned (.string ⟨(Lib.trimB (⟨s.toArray⟩ : ByteArray).data.toList 47).toArray⟩) ∧ (w' = w ∨ w' = w.drew) := Any.strings_Trim_one Tryz.lays160 ⟨s.toArray⟩ 47 (by decide) w (by simpa [ByteArray.size] using hs); exact h)
def dd : List UInt8 → Bool
 | [] => false
 | [_] => false
 | a :: b :: l => (a == 47 && b == 47) || dd (b :: l)
theorem dd_index : ∀ s : List UInt8, (0 ≤ Lib.index s [47, 47]) ↔ dd s = true
 | [] => by simp [Lib.index, dd]
 | [a] => by simp [Lib.index, dd, List.isPrefixOf]
 | a :: b :: l => by
   have ih := dd_index (b :: l); have hg := Lib.index_ge (b :: l) [47, 47]; rw [Lib.index]; by_cases h : a = 47 ∧ b = 47
   · obtain ⟨rfl, rfl⟩ := h
     simp [List.isPrefixOf, dd]
   · have hp : ([47, 47] : List UInt8).isPrefixOf (a :: b :: l) = false := by
      simp only [List.isPrefixOf, Bool.and_true, Bool.and_eq_false_iff, beq_eq_false_iff_ne]; by_cases h1 : a = 47
      · exact .inr (fun e => h ⟨h1, e.symm⟩)
      · exact .inl (fun e => h1 e.symm)
     have hd : dd (a :: b :: l) = dd (b :: l) := by
      rw [dd]
      have : (a == 47 && b == 47) = false := by
       rw [Bool.and_eq_false_iff, beq_eq_false_iff_ne, beq_eq_false_iff_ne]; by_cases h1 : a = 47
       · exact .inr (fun e => h ⟨h1, e⟩)
       · exact .inl h1
      rw [this, Bool.false_or]
     rw [hp, hd, ← ih]; simp only [Bool.false_eq_true, if_false]; by_cases hm : Lib.index (b :: l) [47, 47] = -1
     · simp [hm]
     · simp [hm]; omega
theorem dd_iff : ∀ s : List UInt8, dd s = true ↔ ∃ i, i + 1 < s.length ∧ s.getD i 0 = 47 ∧ s.getD (i + 1) 0 = 47
 | [] => by simp [dd]
 | [a] => by simp [dd]
 | a :: b :: l => by
   rw [dd, Bool.or_eq_true, dd_iff (b :: l), Bool.and_eq_true, beq_iff_eq, beq_iff_eq]; constructor
   · rintro (⟨h1, h2⟩ | ⟨i, h1, h2, h3⟩)
     · exact ⟨0, by simp, by simpa using h1, by simpa using h2⟩
     · exact ⟨i + 1, by simp at h1 ⊢; omega, by simpa using h2, by simpa using h3⟩
   · rintro ⟨i, h1, h2, h3⟩
     cases i with
     | zero => exact .inl ⟨by simpa using h2, by simpa using h3⟩
     | succ i => exact .inr ⟨i, by simp at h1 ⊢; omega, by simpa using h2, by simpa using h3⟩
theorem slk_iff {p : List UInt8} (h0 : 1 ≤ p.length) : slk p = true ↔ p.getD 0 0 ≠ 47 ∧ p.getD (p.length - 1) 0 ≠ 47 ∧ dd p = false := by
 unfold slk; rw [List.all_eq_true]; simp only [List.mem_range, Bool.not_eq_true', Bool.and_eq_false_iff, beq_eq_false_iff_ne, Bool.or_eq_false_iff]; constructor
 · intro h
   refine ⟨?_, ?_, ?_⟩
   · rcases h 0 (by omega) with h | h
     · exact h
     · exact absurd rfl h.1.1
   · rcases h (p.length - 1) (by omega) with h | h
     · exact h
     · exact absurd rfl h.1.2
   · cases hd : dd p with
     | false => rfl
     | true =>
       obtain ⟨i, h1, h2, h3⟩ := (dd_iff p).1 hd; rcases h (i + 1) h1 with h | h
       · exact absurd h3 h
       · exact absurd h2 (by simpa using h.2)
 · rintro ⟨h1, h2, h3⟩ i hi
   by_cases e : p.getD i 0 = 47
   · refine .inr ⟨⟨fun e0 => ?_, fun e0 => ?_⟩, fun e0 => ?_⟩
     · subst e0; exact h1 e
     · subst e0; exact h2 e
     · have : dd p = true := (dd_iff p).2 ⟨i - 1, by
        rcases Nat.eq_zero_or_pos i with h | h
        · subst h; exact absurd e h1
        · omega, e0, by
        rcases Nat.eq_zero_or_pos i with h | h
        · subst h; exact absurd e h1
        · rw [show i - 1 + 1 = i by omega]; exact e⟩
       rw [h3] at this; cases this
   · exact .inl e
theorem trimB_iff {p : List UInt8} (h0 : 1 ≤ p.length) : Lib.trimB p 47 = p ↔ p.getD 0 0 ≠ 47 ∧ p.getD (p.length - 1) 0 ≠ 47 := by
 have hL : ∀ q : List UInt8, (Lib.trimLeftB q 47).length ≤ q.length := fun q => (List.dropWhile_suffix _).length_le; have hR : ∀ q : List UInt8, (Lib.trimRightB q 47).length ≤ q.length := fun q => by unfold Lib.trimRightB; rw [List.length_reverse]; have := (List.dropWhile_suffix (l := q.reverse) (fun x : UInt8 => x == 47)).length_le; rwa [List.length_reverse] at this
 have hl1 : ∀ q : List UInt8, 1 ≤ q.length → (Lib.trimLeftB q 47 = q ↔ q.getD 0 0 ≠ 47) := by
  intro q hq
  cases q with
  | nil => simp at hq
  | cons a l =>
    unfold Lib.trimLeftB; rw [List.dropWhile_cons]; by_cases ha : a = 47
    · have : (List.dropWhile (fun x : UInt8 => x == 47) l).length ≤ l.length := (List.dropWhile_suffix _).length_le
      simp only [ha, beq_self_eq_true, if_true, List.getD_cons_zero, ne_eq, not_true, iff_false]; intro e; rw [e] at this; simp only [List.length_cons] at this; omega
    · simp [ha]
 have hr1 : Lib.trimRightB p 47 = p ↔ p.getD (p.length - 1) 0 ≠ 47 := by
  have h := hl1 p.reverse (by rw [List.length_reverse]; omega)
  have e1 : p.reverse.getD 0 0 = p.getD (p.length - 1) 0 := by
   simp [List.getD, List.getElem?_reverse (show 0 < p.length by omega)]
  rw [← e1, ← h]; unfold Lib.trimRightB Lib.trimLeftB; constructor
  · intro h; have := congrArg List.reverse h; rwa [List.reverse_reverse] at this
  · intro h; rw [h, List.reverse_reverse]
 unfold Lib.trimB; constructor
 · intro h
   have e : Lib.trimRightB p 47 = p := by
    refine (List.IsPrefix.eq_of_length_le ?_ ?_)
    · unfold Lib.trimRightB
      rw [← List.reverse_suffix, List.reverse_reverse]; exact List.dropWhile_suffix _
    · have h1 := congrArg List.length h
      have h2 := hL (Lib.trimRightB p 47); omega
   rw [e] at h; exact ⟨(hl1 p h0).1 h, hr1.1 e⟩
 · rintro ⟨h1, h2⟩
   rw [hr1.2 h2]; exact (hl1 p h0).2 h1
theorem name_iff (p : List UInt8) : nameB p = true ↔ p ≠ [] ∧ p.length ≤ 100 ∧ Lib.trimB p 47 = p ∧ Lib.contains p [47, 47] = false ∧ ∀ i (h : i < p.length), okc p[i] = true := by
 have hc : Lib.contains p [47, 47] = dd p := by
  unfold Lib.contains; rw [Bool.eq_iff_iff, decide_eq_true_iff]; exact dd_index p
 unfold nameB; simp only [Bool.and_eq_true, decide_eq_true_eq, List.all_eq_true]; rw [hc]; constructor
 · rintro ⟨⟨⟨h1, h2⟩, h3⟩, h4⟩
   have h5 := (slk_iff h1).1 h4; exact ⟨fun e => by rw [e] at h1; simp at h1, h2, (trimB_iff h1).2 ⟨h5.1, h5.2.1⟩, h5.2.2, fun i h => h3 _ (List.getElem_mem h)⟩
 · rintro ⟨h1, h2, h3, h4, h5⟩
   have h0 : 1 ≤ p.length := by cases p with
    | nil => exact absurd rfl h1
    | cons a l => simp
   have h6 := (trimB_iff h0).1 h3; refine ⟨⟨⟨h0, h2⟩, fun x hx => ?_⟩, (slk_iff h0).2 ⟨h6.1, h6.2, h4⟩⟩; obtain ⟨i, hi, rfl⟩ := List.mem_iff_getElem.1 hx; exact h5 i hi
theorem nameF {p : List UInt8} (h : ¬ (p ≠ [] ∧ p.length ≤ 100 ∧ Lib.trimB p 47 = p ∧ Lib.contains p [47, 47] = false ∧ ∀ i (h : i < p.length), okc p[i] = true)) : nameB p = false := by
 cases hn : nameB p with
 | false => rfl
 | true => exact absurd ((name_iff p).1 hn) h
theorem okc_iff (c : UInt8) : okc c = true ↔ (97 ≤ c.toNat ∧ c.toNat ≤ 122) ∨ (48 ≤ c.toNat ∧ c.toNat ≤ 57) ∨ 0 ≤ Lib.indexByte [46, 95, 45, 47] c := by
 have h : ∀ n : Fin 256, (okc (UInt8.ofNat n.val) = decide ((97 ≤ n.val ∧ n.val ≤ 122) ∨ (48 ≤ n.val ∧ n.val ≤ 57) ∨ 0 ≤ Lib.indexByte [46, 95, 45, 47] (UInt8.ofNat n.val))) := by decide +kernel
 have := h ⟨c.toNat, c.toNat_lt⟩; simp only [UInt8.ofNat_toNat] at this; rw [this, decide_eq_true_iff]
theorem head_of {s : List UInt8} {j : Nat} (hj : j ≤ s.length) (h : lastL s = s.drop j) : headP s = s.take (j - 1) := by
 unfold headP; have h1 := congrArg List.length h; unfold lastL at h1; rw [List.length_reverse, List.length_drop] at h1; rw [h1]; congr 1; omega
theorem lix_ct0 (s : List UInt8) (w0 : World) (H0 : Heap)
 (hl : s.length ≤ 9223372036854775807) :
 Ct Tryz.prog w0 91 #[Str s, .int .u8 (47 : UInt8).toNat] H0 (fun r H2 => ∃ j : Nat, r = .int .i64 ((j : Int) - 1) ∧ (j ≤ s.length) ∧ (lastL s = s.drop j) ∧ Nw H0 H2) := by
 refine Ct.enter (args := [Str s, .int .u8 (47 : UInt8).toNat]) Tryz.func91 rfl rfl rfl ?_; intro Q0 hret; have hm0 : Nw H0 H0 := Mo.refl _ _; refine CW.s1 (fun hK1 => CW.region ?_); refine LR.a1 (LR.nil (hK1 _ _ ?_)); refine CW.s2 (fun hK2 hE2 => CW.s1 (fun hK3 => CW.region ?_)); refine LR.m1 ?_; refine LR.v1 (Y.slen rfl u'9 rfl) ?_; refine LR.v1 (Y.subi rfl rfl rfl (by omega)) ?_; refine LR.a1 (LR.nil (hK3 _ _ ?_)); refine CW.block (fun _ _ hX4 hE4 => ?_)
 refine CW.loop (fun (j : (Nat)) => [(0, Str s), (1, .int .u8 (47 : UInt8).toNat), (5, .int .i64 ((j : Int) - 1))])
  (fun (j : (Nat)) (H : Heap) => (j ≤ s.length) ∧ (∀ q (h : q < s.length), j ≤ q → s[q] ≠ 47) ∧ Nw H0 H)
  (fun (j : (Nat)) => j) s.length ⟨rfl, rfl, rfl, trivial⟩ ?_ ?_
 ·
  exact ⟨(by omega), (fun q h h2 => absurd h2 (by omega)), Mo.refl _ _⟩
 intro j HL1 hI1 K5 hN5 hE5; obtain ⟨hj, hno, hlm1⟩ := hI1; replace hm0 := hm0.tr hlm1; have hz1 := hlm1.size; refine CW.s2 (fun hK6 hE6 => CW.s1 (fun hK7 => CW.region ?_)); refine LR.m1 ?_; refine LR.v1 (Y.geq rfl rfl rfl) (LR.nil (hK7 _ _ ?_)); refine CW.condp rfl (fun c10 => ?_) (fun c10 => ?_)
 ·
  refine CW.skip (hK6 _ _ (CW.s2 (fun hK8 hE8 => CW.block (fun _ hK9 _ hE9 => CW.s1 (fun hK10 => CW.region ?_))))); refine LR.m1 ?_; refine LR.m1 ?_; refine LR.v1 (Y.sindex (j - 1) rfl u'9 rfl rfl (by first | rfl | omega) (by omega)) ?_; refine LR.m1 ?_; refine LR.v1 (Y.eql rfl rfl rfl) (LR.nil (hK10 _ _ ?_)); refine CW.condp rfl (fun c17 => ?_) (fun c17 => ?_)
  ·
   refine CW.s1 (fun hK11 => CW.region ?_); refine LR.m1 ?_; refine LR.a1 (LR.nil (hK11 _ _ ?_)); refine CW.ret (hE9 .ret nofun (by simp) _ _ (hE8 .ret nofun _ _ (hE5 .ret nofun _ _ (hE4 .ret nofun (by simp) _ _ (hE2 .ret nofun _ _ (hret .ret (.inr rfl) _ _ _ (res1 rfl rfl) ?_)))))); exact ⟨j, rfl, (by omega), lastL_at hj hno (fun h => by apply UInt8.toNat_inj.1; have := c17; simp at this ⊢; omega), hm0⟩
  ·
   refine CW.skip (hK9 _ _ (hK8 _ _ (CW.region ?_))); refine LR.m1 ?_; refine LR.v1 (Y.subi rfl rfl rfl (by omega)) ?_; refine LR.a1 (LR.nil ?_); refine QN.sub (hN5 (j - 1) _ ?_ ?_) ⟨rfl, (iv (by omega)), (iv (by omega)), trivial⟩
   · exact ⟨(by omega), (fun q h h2 => by rcases Nat.lt_or_ge q j with h5 | h5; (obtain rfl : q = j - 1 := by omega); exact (fun e => c17 (by first | (rw [e]; done) | (rw [e]; rfl))); exact hno q h h5), hlm1⟩
   · first | omega | (simp only; omega) | (simp; omega)
 ·
  refine CW.exit (hE6 (.exit 0) nofun _ _ (hE5 (.exit 0) nofun _ _ (hX4 _ _ ?_))); refine hK2 _ _ (CW.s1 (fun hK12 => CW.region ?_)); refine LR.a1 (LR.nil (hK12 _ _ ?_)); refine CW.ret (hret .ret (.inr rfl) _ _ _ (res1 rfl rfl) ?_); obtain rfl : j = 0 := by omega
  exact ⟨0, rfl, (by omega), lastL_at hj hno (fun h => absurd h (Nat.lt_irrefl _)), hm0⟩
theorem lix_ct (s : List UInt8) (w0 : World) (H0 : Heap)
 (hl : s.length ≤ 9223372036854775807) :
 Ct Tryz.prog w0 75 #[Str s, .int .u8 (47 : UInt8).toNat] H0 (fun r H2 => ∃ j : Nat, r = .int .i64 ((j : Int) - 1) ∧ (j ≤ s.length) ∧ (lastL s = s.drop j) ∧ Nw H0 H2) := by
 refine Ct.enter (args := [Str s, .int .u8 (47 : UInt8).toNat]) Tryz.func75 rfl rfl rfl ?_; intro Q0 hret; have hm0 : Nw H0 H0 := Mo.refl _ _; refine CW.s1 (fun hK1 => CW.region ?_); refine LR.a1 (LR.nil (hK1 _ _ ?_)); refine CW.s1 (fun hK2 => CW.region ?_); refine LR.m1 ?_; refine LR.m1 ?_; refine LR.call rfl c'91 rfl (Wd.u rfl) rfl rfl (lix_ct0 s w0 _ hl) ?_; rintro v7 H7 ⟨j7, rfl, hj7, hl7, hs7⟩; replace hm0 := hm0.tr hs7; refine LR.a1 (LR.nil (hK2 _ _ ?_)); refine CW.ret (hret .ret (.inr rfl) _ _ _ (res1 rfl rfl) ?_); exact ⟨j7, rfl, hj7, hl7, hm0⟩
theorem name_ct (mx_ : Int) (l : List UInt8) (w0 : World) (H0 : Heap)
 (mx : MX mx_ H0) (bf_mx : BF (fun b => b = 0) H0.size) (hl : l.length ≤ 4294967280) :
 Ct Tryz.prog w0 35 #[Str l] H0 (fun r H2 => r = .bool (nameB l) ∧ Nw H0 H2) := by
 refine Ct.enter (args := [Str l]) Tryz.func35 rfl rfl rfl ?_; intro Q0 hret; have hm0 : Nw H0 H0 := Mo.refl _ _; refine CW.s1 (fun hK1 => CW.region ?_); refine LR.a1 (LR.nil (hK1 _ _ ?_)); refine CW.s2 (fun hK2 hE2 => CW.s1 (fun hK3 => CW.region ?_)); refine LR.m1 ?_; refine LR.v1 (Y.seql rfl rfl rfl) ?_; refine LR.m1 ?_; refine LR.splitp (d := 7) rfl (fun g7 => ?_) (fun g7 => ?_)
 ·
  refine LR.g1 ?_; refine LR.g1 ?_; refine LR.g1 ?_; refine LR.v1 (Y.pick_t rfl rfl rfl) ?_; refine LR.m1 ?_; refine LR.g1 ?_; refine LR.g1 ?_; refine LR.g1 ?_; refine LR.g1 ?_; refine LR.v1 (Y.pick_t rfl rfl rfl) ?_; refine LR.m1 ?_; refine LR.g1 ?_; refine LR.g1 ?_; refine LR.v1 (Y.pick_t rfl rfl rfl) (LR.nil (hK3 _ _ ?_)); refine CW.cond_t rfl ?_; refine CW.s1 (fun hK4 => CW.region ?_); refine LR.a1 (LR.nil (hK4 _ _ ?_)); refine CW.ret (hE2 .ret nofun _ _ (hret .ret (.inr rfl) _ _ _ (res1 rfl rfl) ?_)); exact ⟨congrArg Value.bool (nameF (fun h => by obtain ⟨h1, h2, h3, h4, h5⟩ := h; first | exact h1 g7 | omega | exact g18 h3 | (rw [h4] at c21; cases c21))).symm, hm0⟩
 ·
  refine LR.w1 (Y.move rfl rfl) ?_; refine LR.w1 (Y.slen rfl u'9 rfl) ?_; refine LR.w1 (Y.gtr rfl rfl rfl) ?_; refine LR.v1 (Y.pick_f rfl rfl rfl) ?_; refine LR.m1 ?_; refine LR.splitp (d := 12) rfl (fun g12 => ?_) (fun g12 => ?_)
  ·
   refine LR.g1 ?_; refine LR.g1 ?_; refine LR.g1 ?_; refine LR.g1 ?_; refine LR.v1 (Y.pick_t rfl rfl rfl) ?_; refine LR.m1 ?_; refine LR.g1 ?_; refine LR.g1 ?_; refine LR.v1 (Y.pick_t rfl rfl rfl) (LR.nil (hK3 _ _ ?_)); refine CW.cond_t rfl ?_; refine CW.s1 (fun hK5 => CW.region ?_); refine LR.a1 (LR.nil (hK5 _ _ ?_)); refine CW.ret (hE2 .ret nofun _ _ (hret .ret (.inr rfl) _ _ _ (res1 rfl rfl) ?_)); exact ⟨congrArg Value.bool (nameF (fun h => by obtain ⟨h1, h2, h3, h4, h5⟩ := h; first | exact h1 g7 | omega | exact g18 h3 | (rw [h4] at c21; cases c21))).symm, hm0⟩
  ·
   refine LR.w1 (Y.move rfl rfl) ?_; refine LR.call rfl c'65 rfl (Wd.g rfl rfl rfl) rfl rfl (trim_ct l w0 _ (by omega)) ?_; rintro v14 H14 ⟨rfl, hs14⟩; replace mx := mx.nw hs14; replace hm0 := hm0.tr hs14; have hz1 := hs14.size; refine LR.w1 (Y.move rfl rfl) ?_; refine LR.w1 (Y.sneq rfl rfl rfl) ?_; refine LR.v1 (Y.pick_f rfl rfl rfl) ?_; refine LR.m1 ?_; refine LR.splitp (d := 18) rfl (fun g18 => ?_) (fun g18 => ?_)
   ·
    refine LR.g1 ?_; refine LR.g1 ?_; refine LR.v1 (Y.pick_t rfl rfl rfl) (LR.nil (hK3 _ _ ?_)); refine CW.cond_t rfl ?_; refine CW.s1 (fun hK6 => CW.region ?_); refine LR.a1 (LR.nil (hK6 _ _ ?_)); refine CW.ret (hE2 .ret nofun _ _ (hret .ret (.inr rfl) _ _ _ (res1 rfl rfl) ?_)); exact ⟨congrArg Value.bool (nameF (fun h => by obtain ⟨h1, h2, h3, h4, h5⟩ := h; first | exact h1 g7 | omega | exact g18 h3 | (rw [h4] at c21; cases c21))).symm, hm0⟩
   ·
    refine LR.w1 (Y.move rfl rfl) ?_; refine LR.call rfl c'66 rfl (Wd.g rfl rfl rfl) rfl rfl (contains_ct l [47, 47] mx_ w0 _ mx (by omega)) ?_; rintro v20 H20 ⟨rfl, hs20⟩; replace hm0 := hm0.tr hs20; have hz2 := hs20.size; refine LR.v1 (Y.pick_f rfl rfl rfl) (LR.nil (hK3 _ _ ?_)); refine CW.cond rfl (fun c21 => ?_) (fun c21 => ?_)
    ·
     refine CW.s1 (fun hK7 => CW.region ?_); refine LR.a1 (LR.nil (hK7 _ _ ?_)); refine CW.ret (hE2 .ret nofun _ _ (hret .ret (.inr rfl) _ _ _ (res1 rfl rfl) ?_)); exact ⟨congrArg Value.bool (nameF (fun h => by obtain ⟨h1, h2, h3, h4, h5⟩ := h; first | exact h1 g7 | omega | exact g18 h3 | (rw [h4] at c21; cases c21))).symm, hm0⟩
    ·
     refine CW.skip (hK2 _ _ (CW.s2 (fun hK8 hE8 => CW.s1 (fun hK9 => CW.region ?_)))); refine LR.m1 ?_; refine LR.z1 (Z.strbw rfl Tryz.underlying9 Tryz.underlying31 Tryz.underlying5 rfl (by omega)) ?_; rintro v23 H23 ⟨owb, hs23, hzs23⟩; replace hm0 := hm0.tr hs23; have hz3 := hs23.size; refine LR.v1 (Y.len owb.rd rfl u'31 rfl) ?_; refine LR.m1 (LR.nil (hK9 _ _ ?_)); refine CW.block (fun _ _ hX10 hE10 => ?_)
     refine CW.loop (fun (i : (Nat)) => [(23, v23), (24, .int .i64 l.length), (25, .int .i64 i)])
      (fun (i : (Nat)) (H : Heap) => (i ≤ l.length) ∧ (∀ q (h : q < l.length), q < i → okc l[q] = true) ∧ Nw H23 H)
      (fun (i : (Nat)) => l.length - i) 0 ⟨rfl, rfl, rfl, trivial⟩ ?_ ?_
     ·
      exact ⟨(by omega), (fun q h h2 => absurd h2 (by omega)), Mo.refl _ _⟩
     intro i HL1 hI1 K11 hN11 hE11; obtain ⟨hi, hok, hlm1⟩ := hI1; replace owb := owb.nw hlm1; replace hm0 := hm0.tr hlm1; have hz4 := hlm1.size; refine CW.s1 (fun hK12 => CW.region ?_); refine LR.v1 (Y.lss rfl rfl rfl) (LR.nil (hK12 _ _ ?_)); refine CW.s2 (fun hK13 hE13 => ?_); refine CW.condp rfl (fun c26 => ?_) (fun c26 => ?_)
     ·
      have hil : i < l.length := by omega
      refine CW.skip (hK13 _ _ (CW.s2 (fun hK14 hE14 => CW.block (fun _ hK15 _ hE15 => CW.s1 (fun hK16 => CW.region ?_))))); refine LR.v1 (Y.owAddr owb (i) rfl u'31 s'5 rfl rfl (by first | rfl | omega) (by first | omega | (simp; omega) | (simp; done))) ?_; refine LR.v1 (Y.load1 (owb.pt (j := i) (by first | omega | (simp; omega) | (simp; done))) rfl a'5 rfl) ?_; refine LR.a1 (LR.nil (hK16 _ _ ?_)); refine CW.s1 (fun hK17 => CW.region ?_); refine LR.m1 ?_; refine LR.v1 (Y.geq rfl rfl rfl) ?_; refine LR.m1 ?_; refine LR.splitp (d := 31) rfl (fun g31 => ?_) (fun g31 => ?_)
      ·
       refine LR.w1 (Y.move rfl rfl) ?_; refine LR.w1 (Y.leq rfl rfl rfl) ?_; refine LR.v1 (Y.pick_t rfl rfl rfl) ?_; refine LR.m1 ?_; refine LR.splitp (d := 35) rfl (fun g35 => ?_) (fun g35 => ?_)
       ·
        refine LR.g1 ?_; refine LR.g1 ?_; refine LR.g1 ?_; refine LR.gsu rfl rfl rfl rfl rfl ?_; refine LR.gsu rfl rfl rfl rfl rfl ?_; refine LR.g1 ?_; refine LR.v1 (Y.pick_t rfl rfl rfl) ?_; refine LR.m1 ?_; refine LR.g1 ?_; refine LR.g1 ?_; refine LR.g1 ?_; refine LR.v1 (Y.pick_t rfl rfl rfl) ?_; refine LR.v1 (Y.not rfl rfl) (LR.nil (hK17 _ _ ?_)); refine CW.cond_f rfl ?_; refine CW.skip (hK15 _ _ (hK14 _ _ (CW.region ?_))); refine LR.v1 (Y.addi rfl rfl rfl (by omega)) ?_; refine LR.m1 (LR.nil ?_); have hci : okc l[i] = true := (okc_iff _).2 (by simp at *; omega); refine QN.sub (hN11 (i + 1) _ ?_ ?_) ⟨rfl, (iv (by omega)), (iv (by omega)), trivial⟩
        · exact ⟨(by omega), (fun q h h2 => by rcases Nat.lt_or_ge q i with h5 | h5; exact hok q h h5; (obtain rfl : q = i := by omega); exact hci), hlm1⟩
        · first | omega | (simp only; omega) | (simp; omega)
       ·
        refine LR.w1 (Y.move rfl rfl) ?_; refine LR.w1 (Y.geq rfl rfl rfl) ?_; refine LR.w1 (Y.move rfl rfl) ?_; refine LR.splitp (d := 38) rfl (fun g38 => ?_) (fun g38 => ?_)
        ·
         refine LR.w1 (Y.move rfl rfl) ?_; refine LR.w1 (Y.leq rfl rfl rfl) ?_; refine LR.w1 (Y.pick_t rfl rfl rfl) ?_; refine LR.v1 (Y.pick_f rfl rfl rfl) ?_; refine LR.m1 ?_; refine LR.splitp (d := 43) rfl (fun g43 => ?_) (fun g43 => ?_)
         ·
          refine LR.g1 ?_; refine LR.g1 ?_; refine LR.g1 ?_; refine LR.v1 (Y.pick_t rfl rfl rfl) ?_; refine LR.v1 (Y.not rfl rfl) (LR.nil (hK17 _ _ ?_)); refine CW.cond_f rfl ?_; refine CW.skip (hK15 _ _ (hK14 _ _ (CW.region ?_))); refine LR.v1 (Y.addi rfl rfl rfl (by omega)) ?_; refine LR.m1 (LR.nil ?_); have hci : okc l[i] = true := (okc_iff _).2 (by simp at *; omega); refine QN.sub (hN11 (i + 1) _ ?_ ?_) ⟨rfl, (iv (by omega)), (iv (by omega)), trivial⟩
          · exact ⟨(by omega), (fun q h h2 => by rcases Nat.lt_or_ge q i with h5 | h5; exact hok q h h5; (obtain rfl : q = i := by omega); exact hci), hlm1⟩
          · first | omega | (simp only; omega) | (simp; omega)
         ·
          refine LR.w1 (Y.move rfl rfl) ?_; refine LR.call rfl c'67 rfl (Wd.g rfl rfl rfl) rfl rfl (idx_ct [46, 95, 45, 47] l[i] w0 _) ?_; rintro v45 H45 ⟨rfl, hs45⟩; replace hm0 := hm0.tr hs45; replace hlm1 := hlm1.tr hs45; have hz5 := hs45.size; refine LR.w1 (Y.geq rfl rfl rfl) ?_; refine LR.v1 (Y.pick_f rfl rfl rfl) ?_; refine LR.v1 (Y.notp rfl rfl) (LR.nil (hK17 _ _ ?_)); refine CW.condp rfl (fun c48 => ?_) (fun c48 => ?_)
          ·
           refine CW.s1 (fun hK18 => CW.region ?_); refine LR.a1 (LR.nil (hK18 _ _ ?_)); refine CW.ret (hE15 .ret nofun (by simp) _ _ (hE14 .ret nofun _ _ (hE11 .ret nofun _ _ (hE10 .ret nofun (by simp) _ _ (hE8 .ret nofun _ _ (hret .ret (.inr rfl) _ _ _ (res1 rfl rfl) ?_)))))); exact ⟨congrArg Value.bool (nameF (fun h => by have h9 := (okc_iff _).1 (h.2.2.2.2 i hil); simp at *; omega)).symm, hm0⟩
          ·
           refine CW.skip (hK15 _ _ (hK14 _ _ (CW.region ?_))); refine LR.v1 (Y.addi rfl rfl rfl (by omega)) ?_; refine LR.m1 (LR.nil ?_); have hci : okc l[i] = true := (okc_iff _).2 (by simp at *; omega); refine QN.sub (hN11 (i + 1) _ ?_ ?_) ⟨rfl, (iv (by omega)), (iv (by omega)), trivial⟩
           · exact ⟨(by omega), (fun q h h2 => by rcases Nat.lt_or_ge q i with h5 | h5; exact hok q h h5; (obtain rfl : q = i := by omega); exact hci), hlm1⟩
           · first | omega | (simp only; omega) | (simp; omega)
        ·
         refine LR.g1 ?_; refine LR.g1 ?_; refine LR.w1 (Y.pick_f rfl rfl rfl) ?_; refine LR.v1 (Y.pick_f rfl rfl rfl) ?_; refine LR.m1 ?_; refine LR.w1 (Y.move rfl rfl) ?_; refine LR.call rfl c'67 rfl (Wd.g rfl rfl rfl) rfl rfl (idx_ct [46, 95, 45, 47] l[i] w0 _) ?_; rintro v45 H45 ⟨rfl, hs45⟩; replace hm0 := hm0.tr hs45; replace hlm1 := hlm1.tr hs45; have hz6 := hs45.size; refine LR.w1 (Y.geq rfl rfl rfl) ?_; refine LR.v1 (Y.pick_f rfl rfl rfl) ?_; refine LR.v1 (Y.notp rfl rfl) (LR.nil (hK17 _ _ ?_)); refine CW.condp rfl (fun c48 => ?_) (fun c48 => ?_)
         ·
          refine CW.s1 (fun hK19 => CW.region ?_); refine LR.a1 (LR.nil (hK19 _ _ ?_)); refine CW.ret (hE15 .ret nofun (by simp) _ _ (hE14 .ret nofun _ _ (hE11 .ret nofun _ _ (hE10 .ret nofun (by simp) _ _ (hE8 .ret nofun _ _ (hret .ret (.inr rfl) _ _ _ (res1 rfl rfl) ?_)))))); exact ⟨congrArg Value.bool (nameF (fun h => by have h9 := (okc_iff _).1 (h.2.2.2.2 i hil); simp at *; omega)).symm, hm0⟩
         ·
          refine CW.skip (hK15 _ _ (hK14 _ _ (CW.region ?_))); refine LR.v1 (Y.addi rfl rfl rfl (by omega)) ?_; refine LR.m1 (LR.nil ?_); have hci : okc l[i] = true := (okc_iff _).2 (by simp at *; omega); refine QN.sub (hN11 (i + 1) _ ?_ ?_) ⟨rfl, (iv (by omega)), (iv (by omega)), trivial⟩
          · exact ⟨(by omega), (fun q h h2 => by rcases Nat.lt_or_ge q i with h5 | h5; exact hok q h h5; (obtain rfl : q = i := by omega); exact hci), hlm1⟩
          · first | omega | (simp only; omega) | (simp; omega)
      ·
       refine LR.g1 ?_; refine LR.g1 ?_; refine LR.v1 (Y.pick_f rfl rfl rfl) ?_; refine LR.m1 ?_; refine LR.w1 (Y.move rfl rfl) ?_; refine LR.w1 (Y.geq rfl rfl rfl) ?_; refine LR.w1 (Y.move rfl rfl) ?_; refine LR.splitp (d := 38) rfl (fun g38 => ?_) (fun g38 => ?_)
       ·
        refine LR.w1 (Y.move rfl rfl) ?_; refine LR.w1 (Y.leq rfl rfl rfl) ?_; refine LR.w1 (Y.pick_t rfl rfl rfl) ?_; refine LR.v1 (Y.pick_f rfl rfl rfl) ?_; refine LR.m1 ?_; refine LR.splitp (d := 43) rfl (fun g43 => ?_) (fun g43 => ?_)
        ·
         refine LR.g1 ?_; refine LR.g1 ?_; refine LR.g1 ?_; refine LR.v1 (Y.pick_t rfl rfl rfl) ?_; refine LR.v1 (Y.not rfl rfl) (LR.nil (hK17 _ _ ?_)); refine CW.cond_f rfl ?_; refine CW.skip (hK15 _ _ (hK14 _ _ (CW.region ?_))); refine LR.v1 (Y.addi rfl rfl rfl (by omega)) ?_; refine LR.m1 (LR.nil ?_); have hci : okc l[i] = true := (okc_iff _).2 (by simp at *; omega); refine QN.sub (hN11 (i + 1) _ ?_ ?_) ⟨rfl, (iv (by omega)), (iv (by omega)), trivial⟩
         · exact ⟨(by omega), (fun q h h2 => by rcases Nat.lt_or_ge q i with h5 | h5; exact hok q h h5; (obtain rfl : q = i := by omega); exact hci), hlm1⟩
         · first | omega | (simp only; omega) | (simp; omega)
        ·
         refine LR.w1 (Y.move rfl rfl) ?_; refine LR.call rfl c'67 rfl (Wd.g rfl rfl rfl) rfl rfl (idx_ct [46, 95, 45, 47] l[i] w0 _) ?_; rintro v45 H45 ⟨rfl, hs45⟩; replace hm0 := hm0.tr hs45; replace hlm1 := hlm1.tr hs45; have hz7 := hs45.size; refine LR.w1 (Y.geq rfl rfl rfl) ?_; refine LR.v1 (Y.pick_f rfl rfl rfl) ?_; refine LR.v1 (Y.notp rfl rfl) (LR.nil (hK17 _ _ ?_)); refine CW.condp rfl (fun c48 => ?_) (fun c48 => ?_)
         ·
          refine CW.s1 (fun hK20 => CW.region ?_); refine LR.a1 (LR.nil (hK20 _ _ ?_)); refine CW.ret (hE15 .ret nofun (by simp) _ _ (hE14 .ret nofun _ _ (hE11 .ret nofun _ _ (hE10 .ret nofun (by simp) _ _ (hE8 .ret nofun _ _ (hret .ret (.inr rfl) _ _ _ (res1 rfl rfl) ?_)))))); exact ⟨congrArg Value.bool (nameF (fun h => by have h9 := (okc_iff _).1 (h.2.2.2.2 i hil); simp at *; omega)).symm, hm0⟩
         ·
          refine CW.skip (hK15 _ _ (hK14 _ _ (CW.region ?_))); refine LR.v1 (Y.addi rfl rfl rfl (by omega)) ?_; refine LR.m1 (LR.nil ?_); have hci : okc l[i] = true := (okc_iff _).2 (by simp at *; omega); refine QN.sub (hN11 (i + 1) _ ?_ ?_) ⟨rfl, (iv (by omega)), (iv (by omega)), trivial⟩
          · exact ⟨(by omega), (fun q h h2 => by rcases Nat.lt_or_ge q i with h5 | h5; exact hok q h h5; (obtain rfl : q = i := by omega); exact hci), hlm1⟩
          · first | omega | (simp only; omega) | (simp; omega)
       ·
        refine LR.g1 ?_; refine LR.g1 ?_; refine LR.w1 (Y.pick_f rfl rfl rfl) ?_; refine LR.v1 (Y.pick_f rfl rfl rfl) ?_; refine LR.m1 ?_; refine LR.w1 (Y.move rfl rfl) ?_; refine LR.call rfl c'67 rfl (Wd.g rfl rfl rfl) rfl rfl (idx_ct [46, 95, 45, 47] l[i] w0 _) ?_; rintro v45 H45 ⟨rfl, hs45⟩; replace hm0 := hm0.tr hs45; replace hlm1 := hlm1.tr hs45; have hz8 := hs45.size; refine LR.w1 (Y.geq rfl rfl rfl) ?_; refine LR.v1 (Y.pick_f rfl rfl rfl) ?_; refine LR.v1 (Y.notp rfl rfl) (LR.nil (hK17 _ _ ?_)); refine CW.condp rfl (fun c48 => ?_) (fun c48 => ?_)
        ·
         refine CW.s1 (fun hK21 => CW.region ?_); refine LR.a1 (LR.nil (hK21 _ _ ?_)); refine CW.ret (hE15 .ret nofun (by simp) _ _ (hE14 .ret nofun _ _ (hE11 .ret nofun _ _ (hE10 .ret nofun (by simp) _ _ (hE8 .ret nofun _ _ (hret .ret (.inr rfl) _ _ _ (res1 rfl rfl) ?_)))))); exact ⟨congrArg Value.bool (nameF (fun h => by have h9 := (okc_iff _).1 (h.2.2.2.2 i hil); simp at *; omega)).symm, hm0⟩
        ·
         refine CW.skip (hK15 _ _ (hK14 _ _ (CW.region ?_))); refine LR.v1 (Y.addi rfl rfl rfl (by omega)) ?_; refine LR.m1 (LR.nil ?_); have hci : okc l[i] = true := (okc_iff _).2 (by simp at *; omega); refine QN.sub (hN11 (i + 1) _ ?_ ?_) ⟨rfl, (iv (by omega)), (iv (by omega)), trivial⟩
         · exact ⟨(by omega), (fun q h h2 => by rcases Nat.lt_or_ge q i with h5 | h5; exact hok q h h5; (obtain rfl : q = i := by omega); exact hci), hlm1⟩
         · first | omega | (simp only; omega) | (simp; omega)
     ·
      refine CW.exit (hE13 (.exit 0) nofun _ _ (hE11 (.exit 0) nofun _ _ (hX10 _ _ ?_))); refine hK8 _ _ (CW.s1 (fun hK22 => CW.region ?_)); refine LR.a1 (LR.nil (hK22 _ _ ?_)); refine CW.ret (hret .ret (.inr rfl) _ _ _ (res1 rfl rfl) ?_); obtain rfl : i = l.length := by omega
      exact ⟨congrArg Value.bool ((name_iff l).2 ⟨g7, by omega, by simpa using g18, by simpa using c21, fun i h => hok i h h⟩).symm, hm0⟩
theorem dir_ct (mx_ : Int) (l : List UInt8) (w0 : World) (H0 : Heap)
 (mx : MX mx_ H0) (bf_mx : BF (fun b => b = 0) H0.size) (hl : l.length ≤ 4294967280) :
 Ct Tryz.prog w0 51 #[Str l] H0 (fun r H2 => r = Str (dirP l) ∧ Nw H0 H2) := by
 refine Ct.enter (args := [Str l]) Tryz.func51 rfl rfl rfl ?_; intro Q0 hret; have hm0 : Nw H0 H0 := Mo.refl _ _; refine CW.s1 (fun hK1 => CW.region ?_); refine LR.a1 (LR.nil (hK1 _ _ ?_)); refine CW.s2 (fun hK2 hE2 => CW.s1 (fun hK3 => CW.region ?_)); refine LR.m1 ?_; refine LR.call rfl c'35 rfl (Wd.u rfl) rfl rfl (name_ct mx_ l w0 _ mx (bf_mx.mono (by omega)) hl) ?_; rintro v4 H4 ⟨rfl, hs4⟩; replace hm0 := hm0.tr hs4; have hz1 := hs4.size; refine LR.v1 (Y.not rfl rfl) (LR.nil (hK3 _ _ ?_)); refine CW.cond rfl (fun c5 => ?_) (fun c5 => ?_)
 ·
  refine CW.s1 (fun hK4 => CW.region ?_); refine LR.a1 (LR.nil (hK4 _ _ ?_)); refine CW.ret (hE2 .ret nofun _ _ (hret .ret (.inr rfl) _ _ _ (res1 rfl rfl) ?_)); exact ⟨by rw [dirP, if_neg (by simpa using c5)]; rfl, hm0⟩
 ·
  refine CW.skip (hK2 _ _ (CW.s1 (fun hK5 => CW.region ?_))); refine LR.m1 ?_; refine LR.m1 ?_; refine LR.call rfl c'75 rfl (Wd.u rfl) rfl rfl (lix_ct l w0 _ (by omega)) ?_; rintro v8 H8 ⟨j8, rfl, hj8, hl8, hs8⟩; replace hm0 := hm0.tr hs8; have hz2 := hs8.size; refine LR.v1 (Y.cast (v2 := .int .i64 ((j8 - 1 : Nat) : Int)) (Y.maxi rfl rfl rfl) (ivv (by omega))) ?_; refine LR.v1 (Y.sslice (0) (j8 - 1) rfl u'9 rfl (.inl ⟨rfl, rfl⟩) (.inr ⟨_, _, _, rfl, rfl, by first | rfl | omega⟩) (by omega) (by omega)) ?_; refine LR.a1 (LR.nil (hK5 _ _ ?_)); refine CW.ret (hret .ret (.inr rfl) _ _ _ (res1 rfl rfl) ?_); exact ⟨by rw [dirP, if_pos (by simpa using c5), head_of hj8 hl8]; simp, hm0⟩
end Go.Proofs.YtfbfjhppppoilaaGreatDoor.SimA

namespace Go.Proofs.YtfbfjhppppoilaaGreatDoor.E
open Go.ChangeShapes Go.WideShapes Go.ChangeAt Go.RowKit Go.Deep
theorem bulkAll_append {H : Type} (l r : List (DataW H)) : Rows.uptoBulkAll (l ++ r) = Rows.uptoBulkAll l + Rows.uptoBulkAll r := by
 induction l with
 | nil => simp [Rows.uptoBulkAll]
 | cons x l ih => simp only [List.cons_append, Rows.uptoBulkAll, ih]; omega
theorem list_of {α : Type} {n : Nat} {p : Nat → α → Prop} (h : ∀ i, i < n → ∃ x, p i x) : ∃ l : List α, l.length = n ∧ ∀ i x, l[i]? = some x → p i x := by
 induction n with
 | zero => exact ⟨[], rfl, fun i x h => by simp at h⟩
 | succ n ih =>
   obtain ⟨l, hl, hp⟩ := ih (fun i hi => h i (by omega)); obtain ⟨x, hx⟩ := h n (by omega); refine ⟨l ++ [x], by simp [hl], fun i y hy => ?_⟩; by_cases hi : i < l.length
   · rw [List.getElem?_append_left hi] at hy; exact hp i y hy
   · rw [List.getElem?_append_right (by omega)] at hy
     have : i - l.length = 0 := by have := (List.getElem?_eq_some_iff.1 hy).1; simp at this; omega
     rw [this] at hy; simp only [List.getElem?_cons_zero, Option.some.injEq] at hy; subst hy; have : i = n := by omega
     subst this; exact hx
theorem sum_le {α : Type} {H : Type} (B : α → Nat) (D : Nat → DataW H) (l : List α) (h : ∀ i x, l[i]? = some x → B x ≤ Rows.uptoBulk (D i)) : ∀ k, k ≤ l.length → ((l.take k).map B).sum ≤ Rows.uptoBulkAll ((List.range k).map D) := by
 intro k
 induction k with
 | zero => intro _; simp
 | succ k ih =>
   intro hk; rw [List.range_succ, List.map_append, bulkAll_append, List.take_succ_eq_append_getElem (show k < l.length from hk), List.map_append, List.sum_append]; have h1 := ih (by omega); have h2 := h k l[k] (by simp [show k < l.length from hk]); simp only [List.map_cons, List.map_nil, List.sum_cons, List.sum_nil, Rows.uptoBulkAll]; omega
section
variable {H : Type} {enc : TypeId × Value → H} {P : Program} {W : World} {base : Nat} {sp : Nat → Bool} {held : Bool}
theorem read_slice {α : Type} (f : α → List Value) (sz : Nat) (B : α → Nat) (Φ : α → Prop) {t e : TypeId} {v : Value} {d : DataW H} {p : List MemPlace} (hv : v.cells = #[v]) (ht : P.underlying t = some (.slice e)) (hc : P.cellsOf e = sz) (hf : ∀ x, (f x).length = sz) (hsz : 0 < sz)
 (elem : ∀ n cs' y ps, DataW.trod enc P W base sp held n e cs' = some (y, ps) → cs'.length = sz → ∃ x, cs' = f x ∧ Φ x ∧ B x ≤ Rows.uptoBulk y) (h : DataW.Trod enc P W base sp held t v d p) :
 ∃ l : List α, RdT W.heap f sz v l ∧ (∀ x ∈ l, Φ x) ∧ (l.map B).sum + 1 ≤ Rows.uptoBulk d := by
 obtain ⟨fuel, h⟩ := h; rw [hv] at h; rcases open_slice ht h with ⟨h1, h2⟩ | ⟨a, len, cap, m, n, D, Pl, h1, h2, h3, h4, h5, h6, h7⟩
 · simp only [Array.toList, List.cons.injEq, and_true] at h1
   simp only [Prod.mk.injEq] at h2; obtain ⟨rfl, rfl⟩ := h2; subst h1; exact ⟨[], Rd.nil _ _ _ _, by simp, by simp [Rows.uptoBulk]⟩
 · simp only [List.cons.injEq, and_true] at h1
   simp only [Prod.mk.injEq] at h6; obtain ⟨rfl, rfl⟩ := h6; subst h1; have hm : len ≤ m := by rw [h5]; split <;> omega
   have : ∀ i, i < len → ∃ x : α, ∃ cs', W.cells? base (a.add (i * sz)) sz = some cs' ∧ cs' = f x ∧ Φ x ∧ B x ≤ Rows.uptoBulk (D i) := by
    intro i hi; obtain ⟨cs', hcs, htr⟩ := h7 i (by omega); rw [hc] at hcs; obtain ⟨_, hl, _⟩ := World.cells?_some hcs; obtain ⟨x, hx⟩ := elem n cs' _ _ htr hl; exact ⟨x, cs', hcs, hx⟩
   obtain ⟨l, hl, hp⟩ := list_of this; refine ⟨l, ⟨some a, cap, by rw [hl], by omega, h4, fun hne => ?_⟩, fun x hx => ?_, ?_⟩
   · have hlen : 0 < l.length := List.length_pos_iff.2 hne
     obtain ⟨cs0, hcs0, hcs0', _⟩ := hp 0 l[0] (by simp [hlen]); obtain ⟨_, hl0, hcell0⟩ := World.cells?_some hcs0; have hc0 := hcell0 0 (by omega)
     have hh : W.cell? a = some (cs0[0]'(by omega)) := by
      simp only [Nat.zero_mul] at hc0; rw [← List.getElem?_eq_getElem, ← hc0]; simp [Addr.add]
     have hspot : a.spot = none := World.cell?_spot hh; refine ⟨a, rfl, hspot, trivial, World.block_lt_of_cell? W a hh, fun i x hx => ⟨rfl, fun j c hj => ?_⟩⟩; obtain ⟨cs', hcs', rfl, _, _⟩ := hp i x hx; obtain ⟨_, hl', hcell'⟩ := World.cells?_some hcs'; have hjl := (List.getElem?_eq_some_iff.1 hj).1; have := hcell' j (by rw [← hl']; exact hjl); rw [hj] at this; rw [add_eq hspot, add_eq rfl] at this; show cell W.heap _ = _; rw [← (At.cell (w0 := W) ⟨rfl, rfl, rfl, rfl, Nat.le_refl _⟩ _)]; exact this
   · obtain ⟨i, hi⟩ := List.mem_iff_getElem?.1 hx
     obtain ⟨_, _, _, h8, _⟩ := hp i x hi; exact h8
   · have := sum_le B D l (fun i x hx => by obtain ⟨_, _, _, _, h9⟩ := hp i x hx; exact h9) l.length (Nat.le_refl _)
     rw [List.take_length, hl] at this; simp only [Rows.uptoBulk]; omega
theorem sum_len {α : Type} (B : α → Nat) (hB : ∀ x, 1 ≤ B x) : ∀ (l : List α), l.length ≤ (l.map B).sum
 | [] => by simp
 | y :: l => by simp only [List.map_cons, List.sum_cons, List.length_cons]; have := hB y; have := sum_len B hB l; omega
theorem read_strs {t e : TypeId} {v : Value} {d : DataW H} {p : List MemPlace} (hv : v.cells = #[v]) (ht : P.underlying t = some (.slice e)) (he : P.underlying e = some .string) (hc : P.cellsOf e = 1) (h : DataW.Trod enc P W base sp held t v d p) :
 ∃ l : List (List UInt8), RdT W.heap fS 1 v l ∧ (l.map (fun s => s.length + 1)).sum + 1 ≤ Rows.uptoBulk d := by
 obtain ⟨l, h1, _, h2⟩ := read_slice fS 1 (fun s => s.length + 1) (fun _ => True) hv ht hc fS_len (by omega) (fun n cs' y ps hy hl => by
  obtain ⟨s, rfl, h3⟩ := DataW.trod_string he hy; simp only [Prod.mk.injEq] at h3; refine ⟨s.data.toList, rfl, trivial, ?_⟩; rw [h3.1.1]; simp [Rows.uptoBulk]) h
 exact ⟨l, h1, h2⟩
theorem u8_of {x : Int} (h : (Lit.int .u8 x).wf = true) : ∃ b : UInt8, x = b.toNat := by
 simp only [Lit.wf, Bool.and_eq_true, decide_eq_true_eq, show IntKind.u8.min = 0 by decide, show IntKind.u8.max = 255 by decide] at h; refine ⟨UInt8.ofNat x.toNat, ?_⟩; rw [UInt8.toNat_ofNat']; omega
theorem i64_of {x : Int} (h : (Lit.int .i64 x).wf = true) : -9223372036854775808 ≤ x ∧ x ≤ 9223372036854775807 := by
 simpa only [Lit.wf, Bool.and_eq_true, decide_eq_true_eq, show IntKind.i64.min = -9223372036854775808 by decide, show IntKind.i64.max = 9223372036854775807 by decide] using h
theorem read_bytes {t e : TypeId} {v : Value} {d : DataW H} {p : List MemPlace} (hv : v.cells = #[v]) (ht : P.underlying t = some (.slice e)) (he : P.underlying e = some (.int .u8)) (hc : P.cellsOf e = 1) (h : DataW.Trod enc P W base sp held t v d p) :
 ∃ l : List UInt8, RdT W.heap fB 1 v l ∧ l.length + 1 ≤ Rows.uptoBulk d := by
 obtain ⟨l, h1, _, h2⟩ := read_slice fB 1 (fun _ => 1) (fun _ => True) hv ht hc fB_len (by omega) (fun n cs' y ps hy hl => by
  obtain ⟨x, rfl, h3, h4⟩ := DataW.trod_int he hy; obtain ⟨b, rfl⟩ := u8_of h4; simp only [Prod.mk.injEq] at h3; refine ⟨b, rfl, trivial, ?_⟩; rw [h3.1]; simp [Rows.uptoBulk]) h
 exact ⟨l, h1, by have := sum_len (fun _ : UInt8 => 1) (fun _ => by omega) l; omega⟩
abbrev fP {β : Type} (x : SV × β) : List Value := [x.1.v]
theorem fP_len {β : Type} (x : SV × β) : (fP x).length = 1 := rfl
theorem fP_one {β : Type} (x : SV × β) : ∀ u ∈ fP x, u.oneCell' = true := by intro u hu; simp only [List.mem_singleton] at hu; subst hu; rfl
end
end Go.Proofs.YtfbfjhppppoilaaGreatDoor.E

namespace Go.Proofs.YtfbfjhppppoilaaGreatDoor.E
open Go.Lib
section
variable {P : Program} {w0 : World} {n : Nat} {l : FL} {H : Heap} {o : Oper} {α : Type} {f : α → List Value} {sz : Nat} {v : Value} {e : TypeId}
theorem zeroCells_rep' {z : Value} {z0 : α} (h : z.cells.toList = f z0) : ∀ m, (Builtin.zeroCells z.cells m).toList = (List.replicate m z0).flatMap f := by
 have hl : (f z0).length = z.cells.size := by rw [← h, Array.length_toList]
 have e0 : ∀ m, (Builtin.zeroCells z.cells m).toList = (List.range (m * z.cells.size)).map (fun i => z.cells[i % z.cells.size]!) := fun m => by
  unfold Builtin.zeroCells; rw [Array.toList_map, Array.toList_range]
 have e1 : (List.range z.cells.size).map (fun i => z.cells[i % z.cells.size]!) = f z0 := by
  rw [← h]; apply List.ext_getElem
  · simp
  · intro j h1 h2
    have hj : j < z.cells.size := by simpa using h1
    simp [Nat.mod_eq_of_lt hj, getElem!_pos z.cells j hj]
 intro m; rw [e0]
 induction m with
 | zero => simp
 | succ m ih =>
   rw [Nat.succ_mul, Nat.add_comm, List.range_add, List.map_append, List.map_map, e1, List.replicate_succ, List.flatMap_cons, ← ih]; congr 1; apply List.map_congr_left; intro j _; simp
theorem Z.apzOwn {G : Nat → Prop} {xs : List α} {s x : Operand} {t tn : TypeId} {kn kq : IntKind} {bytes m : Nat} {zv : Value} (h : Own G e H f sz v xs) (z0 : α) (ho : o.op = .call { callee := .builtin .append, args := #[s, x], argTypes := #[t, tn] })
 (hinf : Inf P t e sz bytes) (htn : P.underlying tn = some (.int kn)) (hzv : ∀ w, (zeroValue e).run P w = .ok zv w) (hz0 : zv.cells.toList = f z0) (hs0 : 0 < sz) (hs : opv l s = some v) (hx : opv l x = some (.int kq (m : Nat)))
 (hb : (xs.length + m) * bytes ≤ 140737488355328) (hm : xs.length + m ≤ 9223372036854775807) :
 Z P w0 n l H o (fun r H' => Own (fun b => G b ∨ H.size ≤ b) e H' f sz r (xs ++ List.replicate m z0) ∧ Mo G H H') := by
 obtain ⟨ht, i, z, hi, hz, hsz, hby, hzs⟩ := hinf; subst hsz; subst hby; intro a w hf ha
 have hzz : z = zv := by
  have h1 := hzv w; simp [zeroValue, typeInfo, hi, hz] at h1; exact h1
 subst hzz; have hl : ((List.replicate m z0).flatMap f).length = m * i.size := by rw [length_flatMap h.cells, List.length_replicate]
 have h1 : ∀ c ∈ (List.replicate m z0).flatMap f, c.oneCell' = true := by
  intro c hc; obtain ⟨y, hy, hc⟩ := List.mem_flatMap.1 hc; exact h.one y c hc
 have hzc : Builtin.zeroCells z.cells m = ((List.replicate m z0).flatMap f).toArray := by apply Array.ext'; rw [zeroCells_rep' hz0]
 have hw : IntKind.i64.wrap (m : Int) = m := by rw [IntKind.wrap_i64]; omega
 have hneg : ¬ ((m : Int) < 0) := by omega
 have h48i : ¬ (281474976710656 < (m : Int) * (i.bytes : Int)) := by
  have : m * i.bytes ≤ (xs.length + m) * i.bytes := Nat.mul_le_mul_right _ (by omega); rw [← Int.natCast_mul]; omega
 have grown : ∀ (old : Nat) (r : Value), old < xs.length + m → r = .slice (some ⟨w.heap.size, 0, none⟩) (xs.length + m) (grownCap w (xs.length + m) old e) → ∀ ob, ob = Obj.cells ((xs.flatMap f).toArray ++ Builtin.zeroCells z.cells m ++ Builtin.zeroCells z.cells (grownCap w (xs.length + m) old e - (xs.length + m))) e →
  At w0 (w.drew.alloc ob).heap (w.drew.alloc ob) ∧ Own (fun b => G b ∨ H.size ≤ b) e (w.drew.alloc ob).heap f i.size r (xs ++ List.replicate m z0) ∧ Mo G H (w.drew.alloc ob).heap := by
  rintro old r ho' rfl ob rfl; have hge := grownCap_ge w (xs.length + m) old e; have hcm : grownCap w (xs.length + m) old e ≤ maxLen := grownCap_le_maxLen w (xs.length + m) old e (by unfold maxLen; omega); have ha2 : At w0 H w.drew := ha.drew; refine ⟨⟨rfl, ha.os, ha.tape, ha.output, ha2.dr⟩, ?_, ?_⟩
  · have := Own.new (e := e) (G' := fun b => G b ∨ H.size ≤ b) (w := w.drew) (z := z) (cap := grownCap w (xs.length + m) old e) (zs := xs ++ List.replicate m z0) h.cells h.one hzs (.inr (by rw [ha2.heap]; exact Nat.le_refl _)) (by simpa using hge) hcm
    rw [hzc]
    simpa using this
  · rw [(ha2.alloc _).heap]; exact Mo.push _ _ _
 rcases h.ex with ⟨rfl, rfl⟩ | ⟨g, cap', cur, rfl, hg, hh, r1, r2, r3, r4⟩
 · by_cases hm0 : m = 0
   · subst hm0
     refine ⟨.slice none 0 0, H, w, ?_, ha, by simpa using h.imp (fun b _ hg => .inl hg), Mo.refl _ _⟩; simp [execOp, ho, resolve, invoke, builtin, hf.eval hs, hf.eval hx, Builtin.append_, run_underlying ht, run_underlying htn, sizeOf, typeInfo, hi, asInt, asIntOf, IntKind.wrap_i64]
   · simp only [List.length_nil, Nat.zero_add] at hb hm
     have hrun := run_append_nil_zeros (P := P) w t tn o.type e i z kq kn ht htn hi hz m (by omega) hs0 (by omega) (by omega); have := grown 0 _ (by simp; omega) rfl _ rfl; simp only [List.length_nil, Nat.zero_add, List.flatMap_nil, List.nil_append, Array.empty_append] at this; exact ⟨_, _, _, by simp [execOp, ho, resolve, invoke, builtin, hf.eval hs, hf.eval hx, hrun], this.1, this.2.1, this.2.2⟩
 · obtain ⟨fz, hh0, hsf⟩ := id hh
   have hg' : w.heap[g]? = some (.cells cur e fz) := by rw [ha.heap]; exact hh0
   by_cases hroom : xs.length + m ≤ cap'
   · have hfit : xs.length * i.size + ((List.replicate m z0).flatMap f).length ≤ cur.size := by rw [hl, r3, ← Nat.add_mul]; exact Nat.mul_le_mul_right _ hroom
     have hst := run_storeCells_soft P g (xs.length * i.size) e fz ((List.replicate m z0).flatMap f) 0 cur w hg' hsf (by simpa using hfit) h1; simp only [Nat.add_zero] at hst
     have hrun : (Builtin.append_ #[t, tn] o.type #[.slice (some ⟨g, 0, none⟩) xs.length cap', .int kq m]).run P w = .ok (.slice (some ⟨g, 0, none⟩) (xs.length + m) cap') (w.setRow g (cur.toList.take (xs.length * i.size) ++ (List.replicate m z0).flatMap f ++ cur.toList.drop (xs.length * i.size + ((List.replicate m z0).flatMap f).length)).toArray) := by
      by_cases hm0 : m = 0
      · subst hm0
        simp only [List.replicate_zero, List.flatMap_nil] at hst; simp [Builtin.append_, run_underlying ht, run_underlying htn, sizeOf, typeInfo, hi, asInt, asIntOf, IntKind.wrap_i64, r1, Addr.add_lit, hst]
      · have hns : ¬ (m * i.size = 0) := Nat.mul_ne_zero hm0 (by omega)
        simp [Builtin.append_, run_underlying ht, run_underlying htn, sizeOf, typeInfo, zeroValue, hi, hz, asInt, asIntOf, hw, hneg, h48i, hns, hroom, hzc, Addr.add_lit, hst]
     refine ⟨.slice (some ⟨g, 0, none⟩) (xs.length + m) cap', (w.setRow g (cur.toList.take (xs.length * i.size) ++ (List.replicate m z0).flatMap f ++ cur.toList.drop (xs.length * i.size + ((List.replicate m z0).flatMap f).length)).toArray).heap, w.setRow g (cur.toList.take (xs.length * i.size) ++ (List.replicate m z0).flatMap f ++ cur.toList.drop (xs.length * i.size + ((List.replicate m z0).flatMap f).length)).toArray, by simp [execOp, ho, resolve, invoke, builtin, hf.eval hs, hf.eval hx, hrun], ⟨rfl, ha.os, ha.tape, ha.output, ha.dr⟩, ⟨h.cells, h.one, .inr ⟨g, cap', _, by rw [List.length_append, List.length_replicate], .inl hg, ⟨fz, setRow_heap w g cur _ e _ hg', hsf.1, fun i hi => hsf.2 i (by simp only [List.size_toArray, List.length_append, List.length_take, List.length_drop, Array.length_toList] at hi; omega)⟩, by rw [List.length_append, List.length_replicate]; exact hroom, r2, ?_, ?_⟩⟩, ?_⟩
     · simp only [List.size_toArray, List.length_append, List.length_take, List.length_drop, Array.length_toList]
       omega
     · have hlx := length_flatMap h.cells xs
       rw [r4, ← List.flatMap_append, List.length_append, Nat.add_mul, List.length_replicate, ← hl, ← hlx, ← List.length_append, ← List.flatMap_append]; exact List.take_left
     · exact (setRow_mo ha g _).weaken (fun b _ e => by rw [e]; exact hg)
   · have holds : ∀ j c, (xs.flatMap f)[j]? = some c → w.drew.cell? ((⟨g, 0, none⟩ : Addr).add j) = some c := h.rd.pts h.cells rfl ha.drew
     have hold : (Builtin.firstCells i.size xs.length (.slice (some ⟨g, 0, none⟩) xs.length cap')).run P w.drew = .ok (xs.flatMap f).toArray w.drew := run_firstCells_some (P := P) w.drew i.size xs.length ⟨g, 0, none⟩ xs.length cap' _ (length_flatMap h.cells xs) holds
     have hrun := Lib.run_append_grow_zeros (P := P) w t tn o.type e i z kq kn ht htn hi hz (some ⟨g, 0, none⟩) xs.length cap' (xs.flatMap f) hold m (by omega) hs0 (by omega) (by omega) (by
      have : m * i.bytes ≤ (xs.length + m) * i.bytes := Nat.mul_le_mul_right _ (by omega); omega) (growslice_fits (by omega) hb)
     have := grown cap' _ (by omega) rfl _ rfl; exact ⟨_, _, _, by simp [execOp, ho, resolve, invoke, builtin, hf.eval hs, hf.eval hx, hrun], this.1, this.2.1, this.2.2⟩
theorem Z.apz {k : Nat} {xs : List α} {s x : Operand} {t tn : TypeId} {kn kq : IntKind} {bytes m : Nat} {zv : Value} (h : Ow k e H f sz v xs) (z0 : α) (ho : o.op = .call { callee := .builtin .append, args := #[s, x], argTypes := #[t, tn] })
 (hinf : Inf P t e sz bytes) (htn : P.underlying tn = some (.int kn)) (hzv : ∀ w, (zeroValue e).run P w = .ok zv w) (hz0 : zv.cells.toList = f z0) (hs0 : 0 < sz) (hs : opv l s = some v) (hx : opv l x = some (.int kq (m : Nat)))
 (hb : (xs.length + m) * bytes ≤ 140737488355328) (hm : xs.length + m ≤ 9223372036854775807) :
 Z P w0 n l H o (fun r H' => ∃ k', Ow k' e H' f sz r (xs ++ List.replicate m z0) ∧ (k' = 0 ∨ k' = k ∨ H.size < k') ∧ Mo (fun b => b + 1 = k) H H') :=
 (Z.apzOwn h.own z0 ho hinf htn hzv hz0 hs0 hs hx hb hm).mono fun r H' ⟨h1, h2⟩ => by
  obtain ⟨k', h3, h4⟩ := Ow.of h1; refine ⟨k', h3, ?_, h2⟩; rcases h4 with rfl | ⟨g, rfl, h5⟩
  · exact .inl rfl
  · omega
theorem Y.sliceV' {x : Operand} {lo hi : Option Operand} {t e : TypeId} {a : Option Addr} {len cap sz : Nat} (i j : Nat) (ho : o.op = .slice t x lo hi none) (ht : ∀ w, (underlying t).run P w = .ok (.slice e) w) (hs : ∀ w, (sizeOf e).run P w = .ok sz w) (hx : opv l x = some (.slice a len cap))
 (hlo : lo = none ∧ i = 0 ∨ ∃ p k iv, lo = some p ∧ opv l p = some (.int k iv) ∧ iv = (i : Int)) (hhi : hi = none ∧ j = len ∨ ∃ p k iv, hi = some p ∧ opv l p = some (.int k iv) ∧ iv = (j : Int)) (hij : i ≤ j) (hj : j ≤ cap) :
 Y P w0 n l H o (.slice (if cap = i then a else a.map (·.add (i * sz))) (j - i) (cap - i)) := by
 intro ac w hf ha
 have e1 : ∀ w, (Instr.sliceBounds true len cap (lo.map ac.eval) (hi.map ac.eval) none).run P w = .ok (i, j, cap) w := by
  intro w
  rcases hlo with ⟨rfl, rfl⟩ | ⟨p, k, iv, rfl, h1, rfl⟩ <;> rcases hhi with ⟨rfl, rfl⟩ | ⟨p2, k2, iv2, rfl, h3, rfl⟩ <;>
   simp [Instr.sliceBounds, Instr.sliceBound, asIntOf, hf.eval, *]
 have hu : ∀ w, (underlying t).run P w = .ok (.slice e) w := ht; simp [execOp, ho, hf.eval hx, Instr.sliceAt, Instr.slice, hu, hs, e1]
theorem Y.capV' {x : Operand} {t e : TypeId} {a : Option Addr} {len cap : Nat} (ho : o.op = .call { callee := .builtin .cap, args := #[x], argTypes := #[t] }) (ht : ∀ w, (underlying t).run P w = .ok (.slice e) w) (hx : opv l x = some (.slice a len cap)) : Y P w0 n l H o (.int .i64 cap) := by
 intro ac w hf ha; simp [execOp, ho, hf.eval hx, resolve, invoke, builtin, Builtin.cap_, ht, goInt]
end
end Go.Proofs.YtfbfjhppppoilaaGreatDoor.E

namespace Go.Proofs.YtfbfjhppppoilaaGreatDoor.SimB
open E Go.RowKit SimA
set_option maxRecDepth 20000
set_option maxRecDepth 100000 in
theorem inf31 : Inf Tryz.prog 31 5 1 1 := ⟨Tryz.underlying31, _, _, rfl, rfl, rfl, rfl, rfl⟩
set_option maxRecDepth 100000 in
theorem inf154 : Inf Tryz.prog 154 31 1 24 := ⟨Tryz.underlying154, _, _, rfl, rfl, rfl, rfl, rfl⟩
theorem bclone_ct (v1 : Value) (a : List UInt8) (w0 : World) (H0 : Heap)
 (ha : RdT H0 fB 1 v1 a) (hal : a.length ≤ 140737488355328) :
 Ct Tryz.prog w0 46 #[v1] H0 (fun r H2 => ∃ s : SV, ∃ k : Nat, r = s.v ∧ (Ow k 5 H2 fB 1 s.v a) ∧ (Nx 0 H0.size k) ∧ Nw H0 H2) := by
 refine Ct.enter (args := [v1]) Tryz.func46 rfl rfl rfl ?_; intro Q0 hret; have hm0 : Nw H0 H0 := Mo.refl _ _; replace ha := ha.bnd; obtain ⟨p, cp, rfl, _, _, hne⟩ := id ha.ex; refine CW.s1 (fun hK1 => CW.region ?_); refine LR.a1 (LR.nil (hK1 _ _ ?_)); refine CW.s2 (fun hK2 hE2 => CW.s1 (fun hK3 => CW.region ?_)); refine LR.m1 ?_; refine LR.v1 (Y.sleq rfl Tryz.underlying31 rfl rfl) (LR.nil (hK3 _ _ ?_)); refine CW.cond rfl (fun c4 => ?_) (fun c4 => ?_)
 ·
  obtain rfl : a = [] := by
   apply Decidable.byContradiction; intro h; obtain ⟨ad, h1, _⟩ := hne h; rw [h1] at c4; cases c4
  refine CW.s1 (fun hK4 => CW.region ?_); refine LR.a1 (LR.nil (hK4 _ _ ?_)); refine CW.ret (hE2 .ret nofun _ _ (hret .ret (.inr rfl) _ _ _ (res1 rfl rfl) ?_)); exact ⟨⟨none, 0, 0⟩, 0, rfl, Ow.nil fB_len fB_one, Nx.refl _ _, hm0⟩
 ·
  refine CW.skip (hK2 _ _ (CW.s1 (fun hK5 => CW.region ?_))); refine LR.z1 (Z.litw _ (([] : List UInt8)) rfl inf31 rfl rfl rfl (by decide) (by decide) fB_len fB_one (rfl)) ?_; rintro v5 H5 ⟨ow5, hs5, ob5, hH5⟩; have hzs5 : H5.size = H0.size + 1 := by rw [hH5]; simp
  have nx2 : Nx 0 H0.size (H0.size + 1) := Nx.new hm0.size; replace ha := ha.nw hs5; replace hm0 := hm0.tr hs5; have hz1 := hs5.size; refine LR.m1 ?_; refine LR.z1 (Z.apnd ow5 ha rfl inf31 rfl rfl (by first | omega | (simp; omega)) (by first | omega | (simp; omega))) ?_; rintro v7 H7 ⟨k7, ow7, hk7, hs7⟩; replace hk7 : Nx (H0.size + 1) H5.size k7 := hk7; replace hs7 := hs7.md; have nx4 : Nx 0 H0.size k7 := Nx.tr (nx2) hk7 hm0.size; replace hm0 := hm0.tq hs7 (MIL.o (MI.q nx2)); refine LR.a1 (LR.nil (hK5 _ _ ?_)); refine CW.ret (hret .ret (.inr rfl) _ _ _ (res1 rfl rfl) ?_); obtain ⟨s7, rfl⟩ : ∃ s : SV, v7 = s.v := ⟨toSV v7, ow7.sv.symm⟩; exact ⟨s7, k7, rfl, by simpa using ow7, nx4, hm0⟩
def catP (l : List (SV × List UInt8)) : List UInt8 := l.flatMap (·.2)
theorem catP_take {l : List (SV × List UInt8)} {i : Nat} (h : i < l.length) : catP (l.take (i + 1)) = catP (l.take i) ++ l[i].2 := by
 unfold catP; rw [List.take_succ_eq_append_getElem h, List.flatMap_append]; simp
theorem catP_le (l : List (SV × List UInt8)) (i : Nat) : (catP (l.take i)).length ≤ (catP l).length := by
 have : catP l = catP (l.take i) ++ catP (l.drop i) := by unfold catP; rw [← List.flatMap_append, List.take_append_drop]
 rw [this, List.length_append]; omega
theorem catP_at {l : List (SV × List UInt8)} {i : Nat} (h : i < l.length) : (catP (l.take i)).length + l[i].2.length ≤ (catP l).length := by
 have := catP_le l (i + 1); rw [catP_take h, List.length_append] at this; exact this
theorem grow_ct (m : Nat) (w0 : World) (H0 : Heap)
 (hm : m ≤ 1099511627776) :
 Ct Tryz.prog w0 92 #[.slice none 0 0, .int .i64 (m : Int)] H0 (fun r H2 => ∃ s : SV, ∃ k : Nat, r = s.v ∧ (Ow k 5 H2 fB 1 s.v []) ∧ (Nx 0 H0.size k) ∧ Nw H0 H2) := by
 refine Ct.enter (args := [.slice none 0 0, .int .i64 (m : Int)]) Tryz.func92 rfl rfl rfl ?_; intro Q0 hret; have hm0 : Nw H0 H0 := Mo.refl _ _; refine CW.s1 (fun hK1 => CW.region ?_); refine LR.a1 (LR.nil (hK1 _ _ ?_)); refine CW.s1 (fun hK2 => CW.s1 (fun hK3 => CW.region ?_)); refine LR.m1 ?_; refine LR.v1 ((Y.lss rfl rfl rfl).isF (by omega)) (LR.nil (hK3 _ _ ?_)); refine CW.cond_f rfl ?_; refine CW.skip (hK2 _ _ (CW.s1 (fun hK4 => CW.s1 (fun hK5 => CW.region ?_)))); refine LR.m1 ?_; refine LR.m1 ?_; refine LR.v1 (Y.capV' rfl u'31 rfl) ?_; refine LR.m1 ?_; refine LR.v1 (Y.cast (v2 := .int .i64 ((0 : Nat) : Int)) (Y.len (Rd.nil (fun _ => False) _ fB 1) rfl u'31 rfl) (rfl)) ?_; refine LR.v1 (Y.cast (v2 := .int .i64 ((0 : Nat) : Int)) (Y.subi rfl rfl rfl (by omega)) (rfl)) ?_; refine LR.v1 (Y.cast (v2 := .int .i64 (m : Int)) (Y.subi rfl rfl rfl (by omega)) (ivv (by simp))) ?_; refine LR.a1 (LR.nil (hK5 _ _ ?_)); refine CW.s1 (fun hK6 => CW.region ?_); refine LR.m1 ?_; refine LR.v1 (Y.gtr rfl rfl rfl) (LR.nil (hK6 _ _ ?_)); refine CW.condp rfl (fun c16 => ?_) (fun c16 => ?_)
 ·
  refine CW.region ?_; refine LR.m1 ?_; refine LR.m1 ?_; refine LR.v1 (Y.capV' rfl u'31 rfl) ?_; refine LR.v1 (Y.sliceV' 0 0 rfl u'31 s'5 rfl (.inl ⟨rfl, rfl⟩) (.inr ⟨_, _, _, rfl, rfl, rfl⟩) (by omega) (by omega)) ?_; refine LR.m1 ?_; have nl22 : Ow 0 5 H0 fB 1 (.slice none 0 0) [] := Ow.nil fB_len fB_one; refine LR.z1 (Z.apz (m := m) nl22 (0 : UInt8) rfl inf31 Tryz.underlying3 z'5 rfl (by decide) rfl rfl (by simp; omega) (by simp; omega)) ?_; rintro v22 H22 ⟨k22, ow22, hk22, hs22⟩; replace hk22 : Nx 0 H0.size k22 := hk22; replace hs22 := hs22.md; have nx1 : Nx 0 H0.size k22 := Nx.tr (Nx.refl 0 _) hk22 hm0.size; replace hm0 := hm0.tq hs22 (MIL.cons MI.z MIL.nil); have hz1 := hs22.size; have hle_ow22 := ow22.le; refine LR.m1 ?_; refine LR.v1 (Y.cast (v2 := .int .i64 ((0 : Nat) : Int)) (Y.len (Rd.nil (fun _ => False) _ fB 1) rfl u'31 rfl) (rfl)) ?_; refine LR.e1 (g := fun v => v) (Y.owFront ow22 (0) rfl u'31 s'5 rfl rfl (by first | rfl | omega) (by omega)) fun v25 ow25 => ?_; refine LR.a1 (LR.nil (hK4 _ _ ?_)); refine CW.s1 (fun hK7 => CW.region ?_); refine LR.m1 ?_; refine LR.a1 (LR.nil (hK7 _ _ ?_)); refine CW.ret (hret .ret (.inr rfl) _ _ _ (res1 rfl rfl) ?_); obtain ⟨s25, rfl⟩ : ∃ s : SV, v25 = s.v := ⟨toSV v25, ow25.sv.symm⟩; exact ⟨s25, k22, rfl, by simpa using ow25, nx1, hm0⟩
 ·
  refine CW.skip (hK4 _ _ (CW.s1 (fun hK8 => CW.region ?_))); refine LR.m1 ?_; refine LR.a1 (LR.nil (hK8 _ _ ?_)); refine CW.ret (hret .ret (.inr rfl) _ _ _ (res1 rfl rfl) ?_); exact ⟨⟨none, 0, 0⟩, 0, rfl, Ow.nil fB_len fB_one, Nx.refl _ _, hm0⟩
theorem concat_ct (v : Value) (l : List (SV × List UInt8)) (w0 : World) (H0 : Heap)
 (hl : RdT H0 fP 1 v l) (hx : ∀ x ∈ l, RdT H0 fB 1 x.1.v x.2) (hc : (catP l).length ≤ 1099511627776) :
 Ct Tryz.prog w0 77 #[v] H0 (fun r H2 => ∃ s : SV, ∃ k : Nat, r = s.v ∧ (Ow k 5 H2 fB 1 s.v (catP l)) ∧ (Nx 0 H0.size k) ∧ Nw H0 H2) := by
 refine Ct.enter (args := [v]) Tryz.func77 rfl rfl rfl ?_; intro Q0 hret; have hm0 : Nw H0 H0 := Mo.refl _ _; replace hl := hl.bnd; have bf_hl := hl.bf; replace hx := fun x hx0 => (hx x hx0).bnd; have bf_hx : BF (fun b => True ∧ b < H0.size) H0.size := fun b h => h.2; have hlm := hl.len; refine CW.s1 (fun hK1 => CW.region ?_); refine LR.a1 (LR.nil (hK1 _ _ ?_)); refine CW.s1 (fun hK2 => CW.region ?_); refine LR.a1 (LR.nil (hK2 _ _ ?_)); refine CW.s1 (fun hK3 => CW.s1 (fun hK4 => CW.region ?_)); refine LR.m1 ?_; refine LR.v1 (Y.len hl rfl u'154 rfl) ?_; refine LR.m1 (LR.nil (hK4 _ _ ?_)); refine CW.block (fun _ _ hX5 _ => ?_)
 refine CW.loop (fun (i : (Nat)) => [(0, v), (3, .int .i64 ((catP (l.take i)).length : Int)), (9, v), (10, .int .i64 l.length), (11, .int .i64 i)])
  (fun (i : (Nat)) (H : Heap) => (i ≤ l.length) ∧ Nw H0 H)
  (fun (i : (Nat)) => l.length - i) 0 ⟨rfl, rfl, rfl, rfl, rfl, trivial⟩ ?_ ?_
 ·
  exact ⟨(by omega), Mo.refl _ _⟩
 intro i HL1 hI1 K6 hN6 hE6; obtain ⟨hi, hlm1⟩ := hI1; replace hl := hl.nw hlm1; replace hx := fun x hx0 => (hx x hx0).nw hlm1; replace hm0 := hm0.tr hlm1; have hz1 := hlm1.size; refine CW.s1 (fun hK7 => CW.region ?_); refine LR.v1 (Y.lss rfl rfl rfl) (LR.nil (hK7 _ _ ?_)); refine CW.s2 (fun hK8 hE8 => ?_); refine CW.condp rfl (fun c12 => ?_) (fun c12 => ?_)
 ·
  have hil : i < l.length := by omega
  have hca := catP_at hil; have hxi := hx l[i] (List.getElem_mem hil); refine CW.skip (hK8 _ _ (CW.s1 (fun hK9 => CW.block (fun _ hK10 _ _ => CW.s1 (fun hK11 => CW.region ?_))))); refine LR.e1 (g := fun ad => .pointer (some ad)) (Y.iF hl (i) rfl u'154 s'31 rfl rfl) fun ad13 pt13 => ?_; refine LR.v1 (Y.load1 pt13.pt rfl a'31 rfl) ?_; refine LR.a1 (LR.nil (hK11 _ _ ?_)); refine CW.s1 (fun hK12 => CW.region ?_); refine LR.m1 ?_; refine LR.m1 ?_; refine LR.v1 (Y.len hxi rfl u'31 rfl) ?_; refine LR.v1 (Y.cast (v2 := .int .i64 ((catP (l.take (i + 1))).length : Int)) (Y.addi rfl rfl rfl (by omega)) (ivv (by rw [catP_take hil, List.length_append]; omega))) ?_; refine LR.a1 (LR.nil (hK12 _ _ ?_)); refine CW.s1 (fun hK13 => CW.region ?_); refine LR.m1 ?_; refine LR.v1 ((Y.lss rfl rfl rfl).isF (by omega)) (LR.nil (hK13 _ _ ?_)); refine CW.cond_f rfl ?_; refine CW.skip (hK10 _ _ (hK9 _ _ (CW.region ?_))); refine LR.v1 (Y.addi rfl rfl rfl (by omega)) ?_; refine LR.m1 (LR.nil ?_); have hci := catP_take hil; refine QN.sub (hN6 (i + 1) _ ?_ ?_) ⟨rfl, (iv (by omega)), rfl, (iv (by omega)), (iv (by omega)), trivial⟩
  · exact ⟨(by omega), hlm1⟩
  · first | omega | (simp only; omega) | (simp; omega)
 ·
  obtain rfl : i = l.length := by omega
  refine CW.exit (hE8 (.exit 0) nofun _ _ (hE6 (.exit 0) nofun _ _ (hX5 _ _ ?_))); refine hK3 _ _ (CW.s1 (fun hK14 => CW.region ?_)); refine LR.v1 (Y.cast (v2 := .int .i64 ((catP l).length : Int)) (Y.move rfl rfl) (by rw [List.take_length])) ?_; refine LR.call rfl c'92 rfl (Wd.u rfl) rfl rfl (grow_ct (catP l).length w0 _ hc) ?_; rintro v24 H24 ⟨s24, k24, rfl, ow6, hk24, hs24⟩; have df1 := DF.app (DF.z) (bf_hl.mono hm0.size) hk24; have df2 := DF.app (DF.z) (bf_hx.mono hm0.size) hk24; have nx3 : Nx 0 H0.size k24 := Nx.tr (Nx.refl 0 _) hk24 hm0.size; replace hl := hl.nw hs24; replace hx := fun x hx0 => (hx x hx0).nw hs24; replace hm0 := hm0.tr hs24; have hz2 := hs24.size; have hle_ow6 := ow6.le; refine LR.a1 (LR.nil (hK14 _ _ ?_)); refine CW.s1 (fun hK15 => CW.s1 (fun hK16 => CW.region ?_)); refine LR.m1 ?_; refine LR.v1 (Y.len hl rfl u'154 rfl) ?_; refine LR.m1 (LR.nil (hK16 _ _ ?_)); refine CW.block (fun _ _ hX17 _ => ?_)
  refine CW.loop (fun (s_ : (Nat) × (SV) × (Nat)) => match s_ with | (q, s6, k6) => [(6, s6.v), (25, v), (26, .int .i64 l.length), (27, .int .i64 q)])
   (fun (s_ : (Nat) × (SV) × (Nat)) (H : Heap) => match s_ with | (q, s6, k6) => (q ≤ l.length) ∧ (Ow k6 5 H fB 1 s6.v (catP (l.take q))) ∧ (Nx k24 H24.size k6) ∧ Mo (Ms [k24]) H24 H)
   (fun (s_ : (Nat) × (SV) × (Nat)) => match s_ with | (q, s6, k6) => l.length - q) (0, s24, k24) ⟨rfl, rfl, rfl, rfl, trivial⟩ ?_ ?_
  ·
   exact ⟨(by omega), by simpa [catP] using ow6, Nx.refl _ _, Mo.refl _ _⟩
  rintro ⟨q, s6, k6⟩ HL2 hI2 K18 hN18 hE18; obtain ⟨hq, ow6, nxl_ow6, hlm2⟩ := hI2; have df5 := DF.app (df2) (bf_hx.mono hm0.size) nxl_ow6; have nx6 : Nx 0 H0.size k6 := Nx.tr (nx3) nxl_ow6 hm0.size; replace hl := hl.upL hlm2 (DFL.o df1); replace hx := fun x hx0 => (hx x hx0).upL hlm2 (DFL.o df2); replace hm0 := hm0.tq hlm2 (MIL.o (MI.q nx3)); have hz3 := hlm2.size; have hle_ow6 := ow6.le; have nx7 := nxl_ow6; refine CW.s1 (fun hK19 => CW.region ?_); refine LR.v1 (Y.lss rfl rfl rfl) (LR.nil (hK19 _ _ ?_)); refine CW.s2 (fun hK20 hE20 => ?_); refine CW.condp rfl (fun c28 => ?_) (fun c28 => ?_)
  ·
   have hql : q < l.length := by omega
   have hcb := catP_at hql; have hxq := hx l[q] (List.getElem_mem hql); refine CW.skip (hK20 _ _ (CW.s1 (fun hK21 => CW.block (fun _ hK22 _ _ => CW.s1 (fun hK23 => CW.region ?_))))); refine LR.e1 (g := fun ad => .pointer (some ad)) (Y.iF hl (q) rfl u'154 s'31 rfl rfl) fun ad29 pt29 => ?_; refine LR.v1 (Y.load1 pt29.pt rfl a'31 rfl) ?_; refine LR.a1 (LR.nil (hK23 _ _ ?_)); refine CW.region ?_; refine LR.m1 ?_; refine LR.m1 ?_; refine LR.z1 (Z.apnd ow6 hxq rfl inf31 rfl rfl (by first | omega | (simp; omega)) (by first | omega | (simp; omega))) ?_; rintro v33 H33 ⟨k33, ow6, hk33, hs33⟩; replace hk33 : Nx k6 HL2.size k33 := hk33; replace hs33 := hs33.md; have nx11 : Nx k24 H24.size k33 := Nx.tr (nx7) hk33 hlm2.size; replace hx := fun x hx0 => (hx x hx0).upL hs33 (DFL.o df5); replace hlm2 := hlm2.trL hs33 (MIL.o (MI.r nx7)); have hz4 := hs33.size; have hle_ow6 := ow6.le; refine LR.a1 (LR.nil (hK22 _ _ ?_)); refine hK21 _ _ (CW.region ?_); refine LR.v1 (Y.addi rfl rfl rfl (by omega)) ?_; refine LR.m1 (LR.nil ?_); obtain ⟨s33, rfl⟩ : ∃ s : SV, v33 = s.v := ⟨toSV v33, ow6.sv.symm⟩; refine QN.sub (hN18 (q + 1, s33, k33) _ ?_ ?_) ⟨rfl, rfl, (iv (by omega)), (iv (by omega)), trivial⟩
   · exact ⟨(by omega), by rw [catP_take hql]; exact ow6, nx11, hlm2⟩
   · first | omega | (simp only; omega) | (simp; omega)
  ·
   refine CW.exit (hE20 (.exit 2) nofun _ _ (hE18 (.exit 2) nofun _ _ (hX17 _ _ ?_))); refine hK15 _ _ (CW.s1 (fun hK24 => CW.region ?_)); refine LR.m1 ?_; refine LR.a1 (LR.nil (hK24 _ _ ?_)); refine CW.ret (hret .ret (.inr rfl) _ _ _ (res1 rfl rfl) ?_); obtain rfl : q = l.length := by omega
   rw [List.take_length] at ow6; exact ⟨s6, k6, rfl, ow6, nx6, hm0⟩
abbrev Wx := Wr × SV
abbrev fW (x : Wx) : List Value := [.bool x.1.b, x.2.v]
theorem fW_len (x : Wx) : (fW x).length = 2 := rfl
theorem fW_one (x : Wx) : ∀ u ∈ fW x, u.oneCell' = true := by intro u hu; simp only [List.mem_cons, List.not_mem_nil, or_false] at hu; rcases hu with rfl | rfl <;> rfl
abbrev wV (x : Wx) : Value := .agg (fW x).toArray
theorem on_le (w : Wr) (b : List UInt8) (n : Nat) : (w.on b n).length ≤ b.length + n := by
 unfold Wr.on; rw [List.length_append, List.length_take]; split <;> simp <;> omega
theorem on_ct (x : Wx) (sb : SV) (b : List UInt8) (n : Nat) (w0 : World) (H0 : Heap)
 (hd : RdT H0 fB 1 x.2.v x.1.d) (hb : RdT H0 fB 1 sb.v b) (hn : n ≤ x.1.d.length) (hbl : b.length + n ≤ 1099511627776) :
 Ct Tryz.prog w0 63 #[wV x, sb.v, .int .i64 (n : Int)] H0 (fun r H2 => ∃ s : SV, ∃ k : Nat, r = s.v ∧ (Ow k 5 H2 fB 1 s.v (x.1.on b n)) ∧ (Nx 0 H0.size k) ∧ Nw H0 H2) := by
 refine Ct.enter (args := [wV x, sb.v, .int .i64 (n : Int)]) Tryz.func63 rfl rfl rfl ?_; intro Q0 hret; have hm0 : Nw H0 H0 := Mo.refl _ _; replace hd := hd.bnd; replace hb := hb.bnd; refine CW.s1 (fun hK1 => CW.region ?_); refine LR.z1 (Z.boxv rfl rfl) ?_; rintro v3 H3 ⟨rfl, vx, hs3, ob3, hH3⟩; have hzs3 : H3.size = H0.size + 1 := by rw [hH3]; simp
 replace hd := hd.nw hs3; replace hb := hb.nw hs3; replace hm0 := hm0.tr hs3; have hz1 := hs3.size; replace vx : Var 76 H3 H0.size (fW x) := vx; refine LR.a1 (LR.nil (hK1 _ _ ?_))
 refine CW.cut (fun (s_ : (SV) × (List UInt8)) => match s_ with | (s1, b1) => [(1, s1.v), (2, .int .i64 (n : Int)), (3, .pointer (some ⟨H0.size, 0, none⟩))])
  (fun (s_ : (SV) × (List UInt8)) (H : Heap) => match s_ with | (s1, b1) => (RdT H fB 1 s1.v b1) ∧ (b1 = if x.1.b = true then b else []) ∧ Nw H3 H) (fun _ hK2 _ => ?_) ?_
 ·
  have hcm2 : Nw H3 H3 := Mo.refl _ _; refine CW.s1 (fun hK3 => CW.region ?_); refine LR.v1 (Y.FA vx.pt rfl u'76 rfl s'4) ?_; refine LR.v1 (Y.load1 vx.pt rfl a'4 rfl) ?_; refine LR.v1 (Y.not rfl rfl) (LR.nil (hK3 _ _ ?_)); refine CW.cond rfl (fun c9 => ?_) (fun c9 => ?_)
  ·
   refine CW.region ?_; refine LR.a1 (LR.nil ?_); refine QN.sub (hK2 (⟨none, 0, 0⟩, []) _ ?_) ⟨rfl, (iv (by omega)), rfl, trivial⟩; exact ⟨Rd.nil _ _ _ _, by rw [if_neg (by simpa using c9)], hcm2⟩
  ·
   refine CW.skip ?_; refine QN.sub (hK2 (sb, b) _ ?_) ⟨rfl, (iv (by omega)), rfl, trivial⟩; exact ⟨hb.any, by rw [if_pos (by simpa using c9)], hcm2⟩
 ·
  rintro ⟨s1, b1⟩ Hcutc9 hIcutc9; obtain ⟨hb1, hb1e, hlmcutc9⟩ := hIcutc9; replace hd := hd.nw hlmcutc9; replace vx := vx.nw hlmcutc9; replace hm0 := hm0.tr hlmcutc9; have hz2 := hlmcutc9.size; have hb1l : b1.length ≤ b.length := by rw [hb1e]; split <;> simp
  refine CW.s1 (fun hK4 => CW.region ?_); refine LR.m1 ?_; refine LR.v1 (Y.FA vx.pt rfl u'76 rfl s'31) ?_; refine LR.v1 (Y.load1 (vx.pt.drop 1) rfl a'31 rfl) ?_; refine LR.m1 ?_; refine LR.e1 (g := fun v => v) (Y.slice hd (0) (n) rfl u'31 s'5 rfl (.inl ⟨rfl, rfl⟩) (.inr ⟨_, _, _, rfl, rfl, by first | rfl | omega⟩) (by omega) (by omega)) fun v14 rd14 => ?_; obtain ⟨s14, rfl⟩ : ∃ s : SV, v14 = s.v := ⟨toSV v14, rd14.sv.symm⟩; refine LR.z1 (Z.litw _ ([(s1, b1), (s14, (x.1.d.take n).drop 0)]) rfl inf154 rfl rfl rfl (by decide) (by decide) fP_len fP_one (rfl)) ?_; rintro v15 H15 ⟨ow15, hs15, ob15, hH15⟩; have hzs15 : H15.size = Hcutc9.size + 1 := by rw [hH15]; simp
  replace rd14 := rd14.nw hs15; replace hm0 := hm0.tr hs15; have hz3 := hs15.size; refine LR.call rfl c'77 rfl (Wd.u rfl) rfl rfl (concat_ct v15 [(s1, b1), (s14, (x.1.d.take n).drop 0)] w0 _ ow15.rd.any (fun x hx => by simp only [List.mem_cons, List.not_mem_nil, or_false] at hx; rcases hx with rfl | rfl; exact hb1.nw hs15; exact rd14.any) (by simp [catP]; omega)) ?_; rintro v16 H16 ⟨s16, k16, rfl, ow16, hk16, hs16⟩; have nx14 : Nx 0 H0.size k16 := Nx.tr (Nx.refl 0 _) hk16 hm0.size; replace hm0 := hm0.tr hs16; refine LR.a1 (LR.nil (hK4 _ _ ?_)); refine CW.ret (hret .ret (.inr rfl) _ _ _ (res1 rfl rfl) ?_); exact ⟨s16, k16, rfl, by have e : catP [(s1, b1), (s14, (x.1.d.take n).drop 0)] = x.1.on b n := (by unfold Wr.on; rw [← hb1e]; simp [catP]); rw [← e]; exact ow16, nx14, hm0⟩
theorem ways_ct (x : Wx) (w0 : World) (H0 : Heap)
 (hd : RdT H0 fB 1 x.2.v x.1.d) (hdl : x.1.d.length ≤ 1099511627776) :
 Ct Tryz.prog w0 73 #[wV x] H0 (fun r H2 => r = .int .i64 (x.1.ways : Int) ∧ Nw H0 H2) := by
 refine Ct.enter (args := [wV x]) Tryz.func73 rfl rfl rfl ?_; intro Q0 hret; have hm0 : Nw H0 H0 := Mo.refl _ _; replace hd := hd.bnd; refine CW.s1 (fun hK1 => CW.region ?_); refine LR.z1 (Z.boxv rfl rfl) ?_; rintro v1 H1 ⟨rfl, vx, hs1, ob1, hH1⟩; have hzs1 : H1.size = H0.size + 1 := by rw [hH1]; simp
 replace hd := hd.nw hs1; replace hm0 := hm0.tr hs1; have hz1 := hs1.size; replace vx : Var 76 H1 H0.size (fW x) := vx; refine LR.a1 (LR.nil (hK1 _ _ ?_)); refine CW.s1 (fun hK2 => CW.region ?_); refine LR.v1 (Y.FA vx.pt rfl u'76 rfl s'31) ?_; refine LR.v1 (Y.load1 (vx.pt.drop 1) rfl a'31 rfl) ?_; refine LR.v1 (Y.len hd rfl u'31 rfl) ?_; refine LR.v1 (Y.cast (v2 := .int .i64 ((2 * x.1.d.length : Nat) : Int)) (Y.muli rfl rfl rfl (by omega)) (ivv (by omega))) ?_; refine LR.v1 (Y.cast (v2 := .int .i64 (x.1.ways : Int)) (Y.maxi rfl rfl rfl) (ivv (by unfold Wr.ways; omega))) ?_; refine LR.a1 (LR.nil (hK2 _ _ ?_)); refine CW.ret (hret .ret (.inr rfl) _ _ _ (res1 rfl rfl) ?_); exact ⟨rfl, hm0⟩
theorem part_ct (x : Wx) (sb : SV) (b : List UInt8) (way : Nat) (w0 : World) (H0 : Heap)
 (hd : RdT H0 fB 1 x.2.v x.1.d) (hb : RdT H0 fB 1 sb.v b) (hw : way < x.1.ways) (hbl : b.length + x.1.d.length ≤ 1099511627776) :
 Ct Tryz.prog w0 74 #[wV x, sb.v, .int .i64 (way : Int)] H0 (fun r H2 => ∃ s : SV, ∃ k : Nat, r = s.v ∧ (Ow k 5 H2 fB 1 s.v (x.1.part b way)) ∧ (Nx 0 H0.size k) ∧ Nw H0 H2) := by
 refine Ct.enter (args := [wV x, sb.v, .int .i64 (way : Int)]) Tryz.func74 rfl rfl rfl ?_; intro Q0 hret; have hm0 : Nw H0 H0 := Mo.refl _ _; replace hd := hd.bnd; replace hb := hb.bnd; have hw2 : way < 1 ∨ way < 2 * x.1.d.length := by unfold Wr.ways at hw; omega
 refine CW.s1 (fun hK1 => CW.region ?_); refine LR.z1 (Z.boxv rfl rfl) ?_; rintro v3 H3 ⟨rfl, vx, hs3, ob3, hH3⟩; have hzs3 : H3.size = H0.size + 1 := by rw [hH3]; simp
 replace hd := hd.nw hs3; replace hb := hb.nw hs3; replace hm0 := hm0.tr hs3; have hz1 := hs3.size; replace vx : Var 76 H3 H0.size (fW x) := vx; refine LR.a1 (LR.nil (hK1 _ _ ?_)); refine CW.s1 (fun hK2 => CW.region ?_); refine LR.v1 (Y.FA vx.pt rfl u'76 rfl s'31) ?_; refine LR.v1 (Y.load1 (vx.pt.drop 1) rfl a'31 rfl) ?_; refine LR.v1 (Y.len hd rfl u'31 rfl) ?_; refine LR.a1 (LR.nil (hK2 _ _ ?_)); refine CW.s2 (fun hK3 hE3 => CW.s1 (fun hK4 => CW.region ?_)); refine LR.m1 ?_; refine LR.m1 ?_; refine LR.v1 (Y.lss rfl rfl rfl) ?_; refine LR.m1 ?_; refine LR.splitp (d := 14) rfl (fun g14 => ?_) (fun g14 => ?_)
 ·
  refine LR.g1 ?_; refine LR.g1 ?_; refine LR.v1 (Y.pick_t rfl rfl rfl) (LR.nil (hK4 _ _ ?_)); refine CW.cond_t rfl ?_; refine CW.s1 (fun hK5 => CW.region ?_); refine LR.v1 (Y.loadN vx.pt rfl a'76 s'76 (rfl) rfl) ?_; refine LR.m1 ?_; refine LR.m1 ?_; refine LR.v1 (Y.addi rfl rfl rfl (by omega)) ?_; refine LR.m1 ?_; refine LR.v1 (Y.cast (v2 := .int .i64 ((min (way + 1) x.1.d.length : Nat) : Int)) (Y.mini rfl rfl rfl) (ivv (by omega))) ?_; refine LR.call rfl c'63 rfl (Wd.u rfl) rfl rfl (on_ct x sb b (min (way + 1) x.1.d.length) w0 _ hd.any hb.any (by omega) (by omega)) ?_; rintro v24 H24 ⟨s24, k24, rfl, ow24, hk24, hs24⟩; have nx7 : Nx 0 H0.size k24 := Nx.tr (Nx.refl 0 _) hk24 hm0.size; replace hm0 := hm0.tr hs24; have hz2 := hs24.size; have hle_ow24 := ow24.le; refine LR.a1 (LR.nil (hK5 _ _ ?_)); refine CW.ret (hE3 .ret nofun _ _ (hret .ret (.inr rfl) _ _ _ (res1 rfl rfl) ?_)); exact ⟨s24, k24, rfl, by have h9 : x.1.part b way = x.1.on b (min (way + 1) x.1.d.length) := (by unfold Wr.part; rw [if_pos (by first | exact .inl (by omega) | exact .inr (by omega))]); rw [h9]; exact ow24, nx7, hm0⟩
 ·
  refine LR.w1 (Y.move rfl rfl) ?_; refine LR.w1 (Y.eql rfl rfl rfl) ?_; refine LR.v1 (Y.pick_f rfl rfl rfl) (LR.nil (hK4 _ _ ?_)); refine CW.condp rfl (fun c17 => ?_) (fun c17 => ?_)
  ·
   refine CW.s1 (fun hK6 => CW.region ?_); refine LR.v1 (Y.loadN vx.pt rfl a'76 s'76 (rfl) rfl) ?_; refine LR.m1 ?_; refine LR.m1 ?_; refine LR.v1 (Y.addi rfl rfl rfl (by omega)) ?_; refine LR.m1 ?_; refine LR.v1 (Y.cast (v2 := .int .i64 ((min (way + 1) x.1.d.length : Nat) : Int)) (Y.mini rfl rfl rfl) (ivv (by omega))) ?_; refine LR.call rfl c'63 rfl (Wd.u rfl) rfl rfl (on_ct x sb b (min (way + 1) x.1.d.length) w0 _ hd.any hb.any (by omega) (by omega)) ?_; rintro v24 H24 ⟨s24, k24, rfl, ow24, hk24, hs24⟩; have nx11 : Nx 0 H0.size k24 := Nx.tr (Nx.refl 0 _) hk24 hm0.size; replace hm0 := hm0.tr hs24; have hz3 := hs24.size; have hle_ow24 := ow24.le; refine LR.a1 (LR.nil (hK6 _ _ ?_)); refine CW.ret (hE3 .ret nofun _ _ (hret .ret (.inr rfl) _ _ _ (res1 rfl rfl) ?_)); exact ⟨s24, k24, rfl, by have h9 : x.1.part b way = x.1.on b (min (way + 1) x.1.d.length) := (by unfold Wr.part; rw [if_pos (by first | exact .inl (by omega) | exact .inr (by omega))]); rw [h9]; exact ow24, nx11, hm0⟩
  ·
   refine CW.skip (hK3 _ _ (CW.s1 (fun hK7 => CW.region ?_))); refine LR.m1 ?_; refine LR.m1 ?_; refine LR.v1 (Y.cast (v2 := .int .i64 ((way - x.1.d.length : Nat) : Int)) (Y.subi rfl rfl rfl (by omega)) (ivv (by omega))) ?_; refine LR.a1 (LR.nil (hK7 _ _ ?_)); refine CW.s1 (fun hK8 => CW.region ?_); refine LR.v1 (Y.loadN vx.pt rfl a'76 s'76 (rfl) rfl) ?_; refine LR.m1 ?_; refine LR.m1 ?_; refine LR.call rfl c'63 rfl (Wd.u rfl) rfl rfl (on_ct x sb b (way - x.1.d.length) w0 _ hd.any hb.any (by omega) (by omega)) ?_; rintro v31 H31 ⟨s31, k31, rfl, ow31, hk31, hs31⟩; have nx15 : Nx 0 H0.size k31 := Nx.tr (Nx.refl 0 _) hk31 hm0.size; replace hm0 := hm0.tr hs31; have hz4 := hs31.size; have hle_ow31 := ow31.le; have hol := on_le x.1 b (way - x.1.d.length); refine LR.m1 ?_; refine LR.m1 ?_; refine LR.v1 (Y.cast (v2 := .int .i64 ((x.1.d.length - (way - x.1.d.length) : Nat) : Int)) (Y.subi rfl rfl rfl (by omega)) (ivv (by omega))) ?_; refine LR.z1 (Z.apz (m := x.1.d.length - (way - x.1.d.length)) ow31 (0 : UInt8) rfl inf31 Tryz.underlying3 z'5 rfl (by decide) rfl rfl (by first | omega | (simp; omega)) (by first | omega | (simp; omega))) ?_; rintro v35 H35 ⟨k35, ow31, hk35, hs35⟩; replace hk35 : Nx k31 H31.size k35 := hk35; replace hs35 := hs35.md; have nx19 : Nx 0 H0.size k35 := Nx.tr (nx15) hk35 hm0.size; replace hm0 := hm0.tq hs35 (MIL.o (MI.q nx15)); have hz5 := hs35.size; have hle_ow31 := ow31.le; refine LR.a1 (LR.nil (hK8 _ _ ?_)); refine CW.ret (hret .ret (.inr rfl) _ _ _ (res1 rfl rfl) ?_); obtain ⟨s35, rfl⟩ : ∃ s : SV, v35 = s.v := ⟨toSV v35, ow31.sv.symm⟩; exact ⟨s35, k35, rfl, by have h9 : x.1.part b way = x.1.on b (way - x.1.d.length) ++ List.replicate (x.1.d.length - (way - x.1.d.length)) 0 := (by unfold Wr.part; rw [if_neg (by omega)]); rw [h9]; exact ow31, nx19, hm0⟩
end Go.Proofs.YtfbfjhppppoilaaGreatDoor.SimB
