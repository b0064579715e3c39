/-
  Contracts of functions of the program, and plain laws: put together of several texts.
-/
import Derived.WalkKit
import Derived.StillTail
import Derived.OrdersHeld
import Derived.Deep.RegionHeld3
import Derived.MapKept
import Derived.Lib.ConvBytes
import Derived.Lib.AppendStr
import Derived.Laws.Pointers
import Derived.Laws.Cover3
import Derived.Lib.BytesEntry
import Derived.Maps.RangeRun
import Derived.Lib.Bytealg
import Derived.Shelf.SlSortCmp.NoneTotal
import Derived.Test.YtepdhokpfecdnaaRows
import Derived.Test.YtepdhokpfecdnaaSort
/-
  Rules for straight-line code, branches, loops and calls, stated over the live slots of a frame and over the heap alone: no condition.
-/
namespace Go.Proofs.Ytepdhokpfecdnaa.E
set_option linter.unusedVariables false
set_option linter.unusedSimpArgs false
set_option linter.unusedSectionVars false

abbrev Heap := Array Obj
abbrev FL := List (Nat × Value)

/-- the value of a slot, if the frame list knows it -/
def lk : FL → Nat → Option Value
  | [], _ => none
  | (s, v) :: l, t => match Nat.beq s t with
    | true => some v
    | false => lk l t

structure Fr (n : Nat) (l : FL) (a : Act) : Prop where
  defers : a.defers = []
  size : a.tmps.size = n
  get : ∀ t v, lk l t = some v → a.tmps[t]? = some v

def opv (l : FL) : Operand → Option Value
  | .tmp t => lk l t
  | .const v => some v
  | .global g => some (.pointer (some ⟨g, 0, none⟩))
  | .func f => some (.func (.func f) #[] #[])

def opvs (l : FL) : List Operand → Option (List Value)
  | [] => some []
  | x :: r => match opv l x, opvs l r with
    | some v, some vs => some (v :: vs)
    | _, _ => none

theorem Fr.eval {n : Nat} {l : FL} {a : Act} (h : Fr n l a) {x : Operand} {v : Value} (e : opv l x = some v) : a.eval x = v := by
  cases x with
  | tmp t => have := h.get t v e; simp [Act.eval, Array.getD_eq_getD_getElem?, this]
  | const c => simpa [opv, Act.eval] using e
  | global g => simpa [opv, Act.eval] using e
  | func f => simpa [opv, Act.eval] using e

theorem Fr.evals {n : Nat} {l : FL} {a : Act} (h : Fr n l a) : ∀ {xs : List Operand} {vs : List Value}, opvs l xs = some vs → xs.map a.eval = vs
  | [], vs, e => by simpa [opvs] using e
  | x :: r, vs, e => by
    simp only [opvs] at e
    cases hx : opv l x with
    | none => simp [hx] at e
    | some v =>
      cases hr : opvs l r with
      | none => simp [hx, hr] at e
      | some vr =>
        simp only [hx, hr, Option.some.injEq] at e
        subst e
        simp [h.eval hx, h.evals hr]

theorem Fr.put {n : Nat} {l : FL} {a : Act} (h : Fr n l a) {d : Nat} (hd : Nat.blt d n = true) (v : Value) : Fr n ((d, v) :: l) (a.put (some d) v) := by
  have hd' : d < n := by simpa [Nat.blt_eq] using hd
  refine ⟨h.defers, by simp [Act.put, h.size], fun t u e => ?_⟩
  simp only [Act.put, Array.getElem?_setIfInBounds]
  simp only [lk] at e
  by_cases ht : d = t
  · subst ht
    have : Nat.beq d d = true := by simp
    simp only [this] at e
    simp [h.size, hd', ← Option.some.inj e]
  · have : Nat.beq d t = false := by
      cases hb : Nat.beq d t with
      | true => exact absurd (Nat.eq_of_beq_eq_true hb) ht
      | false => rfl
    simp only [this] at e
    simp [ht, h.get t u e]

/-- the slots of 'l'' hold in 'l' what they are said to hold -/
def Sub : FL → FL → Prop
  | [], _ => True
  | (t, v) :: r, l => lk l t = some v ∧ Sub r l
theorem Sub.lk {l : FL} : ∀ {l' : FL}, Sub l' l → ∀ t v, lk l' t = some v → lk l t = some v
  | [], _, t, v, e => by simp [E.lk] at e
  | (s, u) :: r, ⟨h1, h2⟩, t, v, e => by
    simp only [E.lk] at e
    cases hb : Nat.beq s t with
    | true =>
      simp only [hb, Option.some.injEq] at e
      have := Nat.eq_of_beq_eq_true hb
      subst this; subst e; exact h1
    | false => simp only [hb] at e; exact Sub.lk h2 t v e
theorem Fr.sub {n : Nat} {l l' : FL} {a : Act} (h : Fr n l a) (hs : Sub l' l) : Fr n l' a :=
  ⟨h.defers, h.size, fun t v e => h.get t v (hs.lk t v e)⟩

structure At (w0 : World) (H : Heap) (w : World) : Prop where
  heap : w.heap = H
  os : w.os = w0.os
  tape : w.tape = w0.tape
  output : w.output = w0.output
  dr : w0.drawn ≤ w.drawn

theorem At.drew {w0 w : World} {H : Heap} (h : At w0 H w) : At w0 H { w with drawn := w.drawn + 1 } := ⟨h.heap, h.os, h.tape, h.output, Nat.le_succ_of_le h.dr⟩
theorem At.set {w0 w : World} {H H' : Heap} (h : At w0 H w) : At w0 H' { w with heap := H' } := ⟨rfl, h.os, h.tape, h.output, h.dr⟩

/-! ### one operation that yields a value and leaves the world -/
def Y (P : Program) (w0 : World) (n : Nat) (l : FL) (H : Heap) (o : Oper) (v : Value) : Prop :=
  ∀ a w, Fr n l a → At w0 H w → (execOp a.eval o).run P w = .ok (.value v) w

def Md (m : Bool) (P : Program) (ops : Array Oper) (Q : Exit → Act → World → Prop) (rest : List Oper) (a : Act) (w : World) : Prop := match m with
  | true => wpStill P ops w (fun a' => Q .normal a' w) rest a
  | false => wpList P ops Q rest a w

/-- operations in the text's order; m: the region draws its order (every operation leaves the world) -/
def LR (m : Bool) (P : Program) (w0 : World) (ops : Array Oper) (Q : Exit → Act → World → Prop) (n : Nat) (l : FL) (rest : List Oper) (H : Heap) : Prop :=
  ∀ a w, Fr n l a → At w0 H w → Md m P ops Q rest a w

def QN (w0 : World) (Q : Exit → Act → World → Prop) (n : Nat) (l : FL) (H : Heap) : Prop := ∀ a w, Fr n l a → At w0 H w → Q .normal a w

def QE (w0 : World) (Q : Exit → Act → World → Prop) (e : Exit) (n : Nat) (l : FL) (H : Heap) : Prop := ∀ a w, Fr n l a → At w0 H w → Q e a w

def CW (P : Program) (w0 : World) (Q : Exit → Act → World → Prop) (n : Nat) (l : FL) (c : Code) (H : Heap) : Prop :=
  ∀ a w, Fr n l a → At w0 H w → c.wp P Q a w

section
variable {P : Program} {w0 : World} {Q : Exit → Act → World → Prop} {n : Nat} {l : FL} {H : Heap} {ops : Array Oper} {rest : List Oper} {o : Oper} {m : Bool}

theorem LR.nil (h : QN w0 Q n l H) : LR m P w0 ops Q n l [] H := by
  intro a w hf ha
  cases m
  · exact h a w hf ha
  · exact h a w hf ha

theorem step_aux {a : Act} {w : World} {v : Value} (hf : Fr n l a) (ha : At w0 H w) (hw : Region.wanted o (yielded ops a.tmps) = true) (hr : (execOp a.eval o).run P w = .ok (.value v) w)
    {d : Nat} (hd : o.dst = some d) (hn : Nat.blt d n = true) (h : LR m P w0 ops Q n ((d, v) :: l) rest H) : Md m P ops Q (o :: rest) a w := by
  have hp := hf.put hn v
  rw [← hd] at hp
  have hh := h _ w hp ha
  cases m
  · simp only [Md] at hh ⊢
    unfold wpList
    rw [if_pos hw]
    exact .inl (by unfold Oper.wp; rw [hr]; exact hh)
  · simp only [Md] at hh ⊢
    unfold wpStill
    rw [if_pos hw]
    unfold Oper.still
    rw [hr]
    exact ⟨rfl, hh⟩

/-- the operation is carried out: it bears no guard, or one that is met -/
def Wd (ops : Array Oper) (l : FL) (o : Oper) : Prop := ∀ n a, Fr n l a → Region.wanted o (yielded ops a.tmps) = true
theorem yielded_of {a : Act} (hf : Fr n l a) {j d : Nat} {b : Bool} (hj : (ops[j]?).bind (·.dst) = some d) (hc : lk l d = some (.bool b)) : yielded ops a.tmps j = some b := by
  have h1 := hf.get d _ hc
  have : (ops[j]?).bind (fun o => o.dst) = some d := hj
  unfold yielded
  rw [this]
  simp [h1]
theorem Wd.u (hg : o.guard = none) : Wd ops l o := fun _ _ _ => by simp [Region.wanted, hg]
theorem Wd.g {j e : Nat} {b : Bool} (hg : o.guard = some (j, b)) (hj : (ops[j]?).bind (·.dst) = some e) (hc : lk l e = some (.bool b)) : Wd ops l o :=
  fun _ _ hf => by simp [Region.wanted, hg, yielded_of hf hj hc]

theorem LR.v {v : Value} {d : Nat} (hy : Y P w0 n l H o v) (hw : Wd ops l o) (hd : o.dst = some d) (hn : Nat.blt d n = true) (h : LR m P w0 ops Q n ((d, v) :: l) rest H) : LR m P w0 ops Q n l (o :: rest) H :=
  fun a w hf ha => step_aux hf ha (hw n a hf) (hy a w hf ha) hd hn h

/-- an operation that yields some value of which 'φ' is known -/
theorem LR.e {α : Type} {g : α → Value} {φ : α → Prop} {d : Nat} (hy : ∃ x, (∀ H', Y P w0 n l H' o (g x)) ∧ φ x) (hw : Wd ops l o) (hd : o.dst = some d) (hn : Nat.blt d n = true) (h : ∀ x, φ x → LR m P w0 ops Q n ((d, g x) :: l) rest H) : LR m P w0 ops Q n l (o :: rest) H :=
  let ⟨x, h1, h2⟩ := hy
  LR.v (h1 H) hw hd hn (h x h2)

/-- a guarded operation whose guard is not met -/
theorem LR.gs {d j e : Nat} {b c : Bool} (hg : o.guard = some (j, b)) (hj : (ops[j]?).bind (·.dst) = some e) (hc : lk l e = some (.bool c)) (hne : (c == b) = false)
    (hd : o.dst = some d) (hn : Nat.blt d n = true) (h : LR m P w0 ops Q n ((d, undef) :: l) rest H) : LR m P w0 ops Q n l (o :: rest) H := by
  intro a w hf ha
  have hw : Region.wanted o (yielded ops a.tmps) = false := by
    have hne' : c ≠ b := by intro e; subst e; simp at hne
    simp [Region.wanted, hg, yielded_of hf hj hc, hne']
  have hp := hf.put hn undef
  rw [← hd] at hp
  have hh := h _ w hp ha
  cases m
  · simp only [Md] at hh ⊢
    unfold wpList
    rw [if_neg (by simp [hw])]
    exact hh
  · simp only [Md] at hh ⊢
    unfold wpStill
    rw [if_neg (by simp [hw])]
    exact hh

theorem Fr.same {a : Act} (hf : Fr n l a) {d : Nat} {v : Value} (hc : lk l d = some v) : Fr n ((d, v) :: l) a := by
  refine ⟨hf.defers, hf.size, fun t u e => ?_⟩
  simp only [lk] at e
  cases hb : Nat.beq d t with
  | true =>
    have := Nat.eq_of_beq_eq_true hb
    subst this
    simp only [hb] at e
    exact hf.get d u (by rw [hc]; exact e)
  | false => simp only [hb] at e; exact hf.get t u e
theorem LR.splitp {d : Nat} {p : Prop} [Decidable p] (hc : lk l d = some (.bool (decide p))) (ht : p → LR m P w0 ops Q n ((d, .bool true) :: l) rest H) (he : ¬p → LR m P w0 ops Q n ((d, .bool false) :: l) rest H) : LR m P w0 ops Q n l rest H := by
  intro a w hf ha
  by_cases hp : p
  · rw [decide_eq_true hp] at hc; exact ht hp a w (hf.same hc) ha
  · rw [decide_eq_false hp] at hc; exact he hp a w (hf.same hc) ha
theorem LR.split {d : Nat} {b : Bool} (hc : lk l d = some (.bool b)) (ht : b = true → LR m P w0 ops Q n ((d, .bool true) :: l) rest H) (he : b = false → LR m P w0 ops Q n ((d, .bool false) :: l) rest H) : LR m P w0 ops Q n l rest H := by
  intro a w hf ha
  cases b
  · exact he rfl a w (hf.same hc) ha
  · exact ht rfl a w (hf.same hc) ha

theorem LR.sub {l' : FL} (h : LR m P w0 ops Q n l' rest H) (hs : Sub l' l) : LR m P w0 ops Q n l rest H := fun a w hf ha => h a w (hf.sub hs) ha
theorem CW.sub {c : Code} {l' : FL} (h : CW P w0 Q n l' c H) (hs : Sub l' l) : CW P w0 Q n l c H := fun a w hf ha => h a w (hf.sub hs) ha
theorem QN.sub {l' : FL} (h : QN w0 Q n l' H) (hs : Sub l' l) : QN w0 Q n l H := fun a w hf ha => h a w (hf.sub hs) ha

/-! ### code -/
theorem CW.region {id : Nat} {lo : List Oper} (h : LR false P w0 lo.toArray Q n l lo H) : CW P w0 Q n l (.region id lo.toArray false) H :=
  fun a w hf ha => wp_region_lit (h a w hf ha)
theorem CW.region_draw {id : Nat} {lo : List Oper} (hm : P.follows .mixedOrders = true) (hB : Region.lexB .any lo.toArray = true) (h : LR true P w0 lo.toArray Q n l lo H) : CW P w0 Q n l (.region id lo.toArray true) H :=
  fun a w hf ha => wp_region_still_lit hm hB (h a _ hf ha.drew)

/-- reads in any order, then the rest in the text's: 'k' operations read -/
theorem CW.region_tail {id : Nat} {lo : List Oper} (k : Nat) (hm : P.follows .mixedOrders = true) (hB : Region.lexTailB .any lo.toArray k = true)
    (h : ∀ K : Exit → Act → World → Prop, (∀ l', LR false P w0 lo.toArray Q n l' (lo.drop k) H → QN w0 K n l' H) → LR true P w0 lo.toArray K n l (lo.take k) H) : CW P w0 Q n l (.region id lo.toArray true) H :=
  fun a w hf ha => wp_region_still_tail k hm hB (h (fun _ a' w' => wpList P lo.toArray Q (lo.drop k) a' w') (fun l' hl a' w' hf' ha' => hl a' w' hf' ha') a _ hf ha.drew)

/-- what comes behind, under one name -/
theorem CW.seq {x y : Code} (h : ∀ K : Exit → Act → World → Prop, (∀ l' H', CW P w0 Q n l' y H' → QN w0 K n l' H') → (∀ e, e ≠ .normal → ∀ l' H', QE w0 Q e n l' H' → QE w0 K e n l' H') → CW P w0 K n l x H) : CW P w0 Q n l (.seq x y) H := by
  intro a w hf ha
  refine wp_seq (h (Exit.then (y.wp P Q) Q) (fun l' H' hy a' w' hf' ha' => hy a' w' hf' ha') ?_ a w hf ha)
  intro e he l' H' hq a' w' hf' ha'
  have hq := hq a' w' hf' ha'
  cases e <;> first | exact absurd rfl he | exact hq

theorem CW.skip (h : QN w0 Q n l H) : CW P w0 Q n l .skip H := fun a w hf ha => wp_skip (h a w hf ha)
theorem CW.label {k : Nat} (h : QN w0 Q n l H) : CW P w0 Q n l (.label k) H := fun a w hf ha => wp_label (h a w hf ha)
theorem CW.exit {id : Nat} (h : QE w0 Q (.exit id) n l H) : CW P w0 Q n l (.exit id) H := fun a w hf ha => wp_exit (h a w hf ha)
theorem CW.ret (h : QE w0 Q .ret n l H) : CW P w0 Q n l .ret H := fun a w hf ha => wp_ret (h a w hf ha)
theorem CW.cond {c : Operand} {x y : Code} {b : Bool} (hc : opv l c = some (.bool b)) (ht : b = true → CW P w0 Q n l x H) (he : b = false → CW P w0 Q n l y H) : CW P w0 Q n l (.cond c x y) H :=
  fun a w hf ha => wp_cond_split (hf.eval hc) (fun h => ht h a w hf ha) (fun h => he h a w hf ha)
theorem CW.condp {c : Operand} {x y : Code} {p : Prop} [Decidable p] (hc : opv l c = some (.bool (decide p))) (ht : p → CW P w0 Q n l x H) (he : ¬p → CW P w0 Q n l y H) : CW P w0 Q n l (.cond c x y) H :=
  CW.cond hc (fun h => ht (of_decide_eq_true h)) (fun h => he (of_decide_eq_false h))
theorem CW.cond_t {c : Operand} {x y : Code} (hc : opv l c = some (.bool true)) (ht : CW P w0 Q n l x H) : CW P w0 Q n l (.cond c x y) H :=
  CW.cond hc (fun _ => ht) (fun h => by cases h)
theorem CW.cond_f {c : Operand} {x y : Code} (hc : opv l c = some (.bool false)) (he : CW P w0 Q n l y H) : CW P w0 Q n l (.cond c x y) H :=
  CW.cond hc (fun h => by cases h) (fun _ => he)
/-- what lies behind a block, under one name -/
theorem CW.block {id : Nat} {c : Code} (h : ∀ K : Exit → Act → World → Prop, (∀ l' H', QN w0 Q n l' H' → QN w0 K n l' H') → (∀ l' H', QN w0 Q n l' H' → QE w0 K (.exit id) n l' H') → (∀ e, e ≠ .normal → e ≠ .exit id → ∀ l' H', QE w0 Q e n l' H' → QE w0 K e n l' H') → CW P w0 K n l c H) : CW P w0 Q n l (.block id c) H := by
  intro a w hf ha
  refine wp_block (h (Exit.inBlock id Q) (fun l' H' hy a' w' hf' ha' => hy a' w' hf' ha') (fun l' H' hy a' w' hf' ha' => ?_) ?_ a w hf ha)
  · show (if id = id then Q .normal a' w' else Q (.exit id) a' w'); rw [if_pos rfl]; exact hy a' w' hf' ha'
  · intro e he hi l' H' hq a' w' hf' ha'
    cases e with
    | normal => exact absurd rfl he
    | exit k =>
      show (if k = id then Q .normal a' w' else Q (.exit k) a' w')
      rw [if_neg (fun e => hi (by rw [e]))]; exact hq a' w' hf' ha'
    | goto k => exact hq a' w' hf' ha'
    | ret => exact hq a' w' hf' ha'
    | panic k => exact hq a' w' hf' ha'
    | outgrown => exact hq a' w' hf' ha'
theorem CW.scope {c : Code} (h : ∀ K : Exit → Act → World → Prop, (∀ l' H', QN w0 Q n l' H' → QN w0 K n l' H') → (∀ e, e ≠ .normal → (∀ k, e ≠ .goto k) → ∀ l' H', QE w0 Q e n l' H' → QE w0 K e n l' H') → CW P w0 K n l c H) : CW P w0 Q n l (.scope c) H := by
  intro a w hf ha
  refine wp_scope_straight (h (Exit.noGoto Q) (fun l' H' hy a' w' hf' ha' => hy a' w' hf' ha') ?_ a w hf ha)
  intro e he hg l' H' hq a' w' hf' ha'
  have hq := hq a' w' hf' ha'
  cases e <;> first | exact absurd rfl he | exact absurd rfl (hg _) | exact hq

/-- a loop: 'fl s' the live slots at a round's head, 'I s' what holds of the heap there -/
theorem CW.loop {σ : Type} {c : Code} (fl : σ → FL) (I : σ → Heap → Prop) (μ : σ → Nat) (s0 : σ) (hl : Sub (fl s0) l) (h0 : I s0 H)
    (round : ∀ s H, I s H → ∀ K : Exit → Act → World → Prop, (∀ s' H', I s' H' → μ s' < μ s → QN w0 K n (fl s') H') → (∀ e, e ≠ .normal → ∀ l' H', QE w0 Q e n l' H' → QE w0 K e n l' H') → CW P w0 K n (fl s) c H) : CW P w0 Q n l (.loop c) H := by
  intro a w hf ha b k cs
  have key : ∀ N s H a w, μ s = N → I s H → Fr n (fl s) a → At w0 H w →
      ∃ e a' w', Q e a' w' ∧ Arrives P (lone (b.at a (.code c :: .inLoop c :: k)) cs w) b k cs e a' w' := by
    intro N
    induction N using Nat.strongRecOn with
    | _ N ih =>
      intro s H a w hN hI hfr hat
      have hr := round s H hI (Exit.then (fun a' w' => ∃ s' H', Fr n (fl s') a' ∧ At w0 H' w' ∧ I s' H' ∧ μ s' < μ s) Q)
        (fun s' H' hI' hlt a' w' hf' ha' => ⟨s', H', hf', ha', hI', hlt⟩) (fun e he l' H' hq a' w' hf' ha' => by have hq := hq a' w' hf' ha'; cases e <;> first | exact absurd rfl he | exact hq) a w hfr hat
      obtain ⟨e, a₁, w₁, hq, harr⟩ := hr b (.inLoop c :: k) cs
      cases e with
      | normal =>
        obtain ⟨s', H', hf', ha', hI', hlt⟩ := hq
        obtain ⟨e₂, a₂, w₂, hq₂, harr₂⟩ := ih (μ s') (hN ▸ hlt) s' H' a₁ w₁ rfl hI' hf' ha'
        exact ⟨e₂, a₂, w₂, hq₂, .of_steps (Steps.trans harr (.one step_inLoop)) harr₂⟩
      | exit id => exact ⟨_, a₁, w₁, hq, .pass (x := .inLoop c) rfl (fun _ _ => .inl (by simp)) harr⟩
      | goto l => exact ⟨_, a₁, w₁, hq, .pass (x := .inLoop c) rfl (fun _ _ => .inl (by simp)) harr⟩
      | ret => exact ⟨_, a₁, w₁, hq, .pass (x := .inLoop c) rfl (fun _ _ => .inl (by simp)) harr⟩
      | panic ch => exact ⟨_, a₁, w₁, hq, .pass (x := .inLoop c) rfl (fun _ _ => .inl (by simp)) harr⟩
      | outgrown => exact ⟨_, a₁, w₁, hq, .pass (x := .inLoop c) rfl (fun _ _ => .inl (by simp)) harr⟩
  obtain ⟨e, a', w', hq, harr⟩ := key _ s0 H a w rfl h0 (hf.sub hl) ha
  exact ⟨e, a', w', hq, .of_steps (.one step_loop) harr⟩

/-- the ways through x meet again -/
theorem CW.cut {σ : Type} {x y : Code} (fl : σ → FL) (I : σ → Heap → Prop)
    (h : ∀ K : Exit → Act → World → Prop, (∀ s H', I s H' → QN w0 K n (fl s) H') → (∀ e, e ≠ .normal → ∀ l' H', QE w0 Q e n l' H' → QE w0 K e n l' H') → CW P w0 K n l x H)
    (hy : ∀ s H', I s H' → CW P w0 Q n (fl s) y H') : CW P w0 Q n l (.seq x y) H := by
  intro a w hf ha
  refine wp_seq (h (Exit.then (y.wp P Q) Q) (fun s H' hI a' w' hf' ha' => hy s H' hI a' w' hf' ha') ?_ a w hf ha)
  intro e he l' H' hq a' w' hf' ha'
  have hq := hq a' w' hf' ha'
  cases e <;> first | exact absurd rfl he | exact hq
end

/-! ### contracts -/
/-- called with these arguments, in any world over this heap, it returns r and leaves the heap H', and 'R r H'' holds -/
def Ct (P : Program) (w0 : World) (f : FuncId) (args : Array Value) (H : Heap) (R : Value → Heap → Prop) : Prop :=
  ∀ w, At w0 H w → Calls P f args w (fun e w' => ∃ r H', e = .returned r ∧ At w0 H' w' ∧ R r H')

def RP (w0 : World) (R : Value → Heap → Prop) : Ending → World → Prop := fun e w' => ∃ r H', e = .returned r ∧ At w0 H' w' ∧ R r H'

def argL (args : List Value) (k : Nat) : FL := match args with
  | [] => []
  | v :: r => (k, v) :: argL r (k + 1)

theorem argL_get : ∀ (args : List Value) (k t : Nat) (v : Value), lk (argL args k) t = some v → k ≤ t ∧ args[t - k]? = some v
  | [], _, _, _, e => by simp [argL, lk] at e
  | x :: r, k, t, v, e => by
    simp only [argL, lk] at e
    cases hb : Nat.beq k t with
    | true =>
      have := Nat.eq_of_beq_eq_true hb
      subst this
      simp only [hb, Option.some.injEq] at e
      simp [e]
    | false =>
      simp only [hb] at e
      obtain ⟨h1, h2⟩ := argL_get r (k + 1) t v e
      refine ⟨by omega, ?_⟩
      have : t - k = (t - (k + 1)) + 1 := by omega
      rw [this]; simpa using h2

theorem Ct.enter {P : Program} {w0 : World} {f : FuncId} {fn : Func} {c : Code} {args : List Value} {H : Heap} {R : Value → Heap → Prop} {n : Nat}
    (hf : P.funcs[f]? = some fn) (hb : fn.body = some c) (hn : fn.ntmps = n) (hk : Nat.ble args.length n = true)
    (h : ∀ Q : Exit → Act → World → Prop, (∀ e, (e = .normal ∨ e = .ret) → ∀ l H' v, (∀ a w, Fr n l a → At w0 H' w → (results fn a.tmps).run P w = .ok v w) → R v H' → QE w0 Q e n l H') → CW P w0 Q n (argL args 0) c H) :
    Ct P w0 f args.toArray H R := by
  intro w ha
  have hk' : args.length ≤ n := Nat.le_of_ble_eq_true hk
  refine calls_of_wp hf hb (h (bodyPost P fn (RP w0 R)) ?_ _ w ⟨rfl, ?_, ?_⟩ ha)
  · intro e he l H' v hv hR a w' hfr ha'
    rcases he with rfl | rfl <;> exact ⟨hfr.defers, v, hv a w' hfr ha', v, H', rfl, ha', hR⟩
  · simp [hn]; omega
  · intro t v e
    obtain ⟨_, h2⟩ := argL_get args 0 t v e
    simp only [Nat.sub_zero] at h2
    simp only
    have hlt := (List.getElem?_eq_some_iff.1 h2).1
    rw [Array.getElem?_append_left (by simpa using hlt)]
    simpa using h2

theorem res1 {P : Program} {w0 : World} {H : Heap} {fn : Func} {n t : Nat} {l : FL} {v : Value} (h : fn.results = #[.tmp t]) (e : lk l t = some v) : ∀ a w, Fr n l a → At w0 H w → (results fn a.tmps).run P w = .ok v w := by
  intro a w hf _
  rw [results_tmp h]
  simp [Array.getD_eq_getD_getElem?, hf.get t v e]
theorem res2 {P : Program} {w0 : World} {H : Heap} {fn : Func} {n t u : Nat} {l : FL} {v x : Value} (h : fn.results = #[.tmp t, .tmp u]) (e : lk l t = some v) (e2 : lk l u = some x) : ∀ a w, Fr n l a → At w0 H w → (results fn a.tmps).run P w = .ok (.tuple #[v, x]) w := by
  intro a w hf _
  rw [results_tmp2 h]
  simp [Array.getD_eq_getD_getElem?, hf.get t v e, hf.get u x e2]
theorem res0 {P : Program} {w0 : World} {H : Heap} {fn : Func} {n : Nat} {l : FL} (h : fn.results = #[]) : ∀ a w, Fr n l a → At w0 H w → (results fn a.tmps).run P w = .ok (.tuple #[]) w := by
  intro a w _ _
  exact results_none h _ _ _

section
variable {P : Program} {w0 : World} {Q : Exit → Act → World → Prop} {n : Nat} {l : FL} {H : Heap} {ops : Array Oper} {rest : List Oper} {o : Oper} {m : Bool}

/-- an operation that turns the heap (in a region that does not draw) -/
def Z (P : Program) (w0 : World) (n : Nat) (l : FL) (H : Heap) (o : Oper) (R : Value → Heap → Prop) : Prop :=
  ∀ a w, Fr n l a → At w0 H w → ∃ v H' w', (execOp a.eval o).run P w = .ok (.value v) w' ∧ At w0 H' w' ∧ R v H'

theorem LR.z {R : Value → Heap → Prop} {d : Nat} (hz : Z P w0 n l H o R) (hw : Wd ops l o) (hd : o.dst = some d) (hn : Nat.blt d n = true)
    (h : ∀ v H', R v H' → LR false P w0 ops Q n ((d, v) :: l) rest H') : LR false P w0 ops Q n l (o :: rest) H := by
  intro a w hf ha
  obtain ⟨v, H', w', hr, ha', hR⟩ := hz a w hf ha
  have hp := hf.put hn v
  rw [← hd] at hp
  have hh := h v H' hR _ w' hp ha'
  simp only [Md] at hh ⊢
  unfold wpList
  rw [if_pos (hw n a hf)]
  exact .inl (by unfold Oper.wp; rw [hr]; exact hh)

/-- a store: no slot is written -/
def S (P : Program) (w0 : World) (n : Nat) (l : FL) (H : Heap) (o : Oper) (R : Heap → Prop) : Prop :=
  ∀ a w, Fr n l a → At w0 H w → ∃ H' w', (execOp a.eval o).run P w = .ok .skip w' ∧ At w0 H' w' ∧ R H'
theorem LR.s {R : Heap → Prop} (hz : S P w0 n l H o R) (hw : Wd ops l o) (hd : o.dst = none)
    (h : ∀ H', R H' → LR false P w0 ops Q n l rest H') : LR false P w0 ops Q n l (o :: rest) H := by
  intro a w hf ha
  obtain ⟨H', w', hr, ha', hR⟩ := hz a w hf ha
  have hh := h H' hR a w' hf ha'
  simp only [Md] at hh ⊢
  unfold wpList
  rw [if_pos (hw n a hf)]
  refine .inl ?_
  unfold Oper.wp
  rw [hr]
  show wpList P ops Q rest (a.put o.dst undef) w'
  rw [hd]
  exact hh

theorem run_call {ρ : Operand → Value} {f : FuncId} {args : Array Operand} {ats : Array TypeId} {w : World} (ho : o.op = .call { callee := .value (.func f), args := args, argTypes := ats }) (hρ : ρ (.func f) = .func (.func f) #[] #[])
    (hcall : ∀ (vs : Array Value) (w : World), (callFunc f vs).run P w = .ok (.enter f vs) w) : (execOp ρ o).run P w = .ok (.enter f (args.map ρ)) w := by
  simp [execOp, ho, resolve, Deferred.ofValue, hρ, invoke, hcall]

theorem LR.call {R : Value → Heap → Prop} {f d : Nat} {args : List Operand} {ats : Array TypeId} {vs : List Value} (ho : o.op = .call { callee := .value (.func f), args := args.toArray, argTypes := ats })
    (hcall : ∀ (vs : Array Value) (w : World), (callFunc f vs).run P w = .ok (.enter f vs) w) (hv : opvs l args = some vs) (hw : Wd ops l o) (hd : o.dst = some d) (hn : Nat.blt d n = true) (hc : Ct P w0 f vs.toArray H R)
    (h : ∀ v H', R v H' → LR false P w0 ops Q n ((d, v) :: l) rest H') : LR false P w0 ops Q n l (o :: rest) H := by
  intro a w hf ha
  simp only [Md]
  have hr := run_call (P := P) (ρ := a.eval) (w := w) ho rfl hcall
  rw [List.map_toArray, hf.evals hv] at hr
  unfold wpList
  rw [if_pos (hw n a hf)]
  refine .inl ?_
  unfold Oper.wp
  rw [hr]
  show Calls P f vs.toArray w _
  refine (hc w ha).mono ?_
  rintro e w' ⟨r, H', rfl, ha', hR⟩
  have hp := hf.put hn r
  rw [← hd] at hp
  exact h r H' hR _ w' hp ha'
end

theorem Ct.mono {P : Program} {w0 : World} {f : FuncId} {args : Array Value} {H : Heap} {R R' : Value → Heap → Prop} (h : Ct P w0 f args H R) (hr : ∀ v H', R v H' → R' v H') : Ct P w0 f args H R' :=
  fun w ha => (h w ha).mono fun _ _ ⟨r, H', he, ha', hR⟩ => ⟨r, H', he, ha', hr r H' hR⟩

end Go.Proofs.Ytepdhokpfecdnaa.E
/-
  Rules for single operations over heap facts: reading slices, cells, numbers, texts: no condition.
-/
namespace Go.Proofs.Ytepdhokpfecdnaa.E
set_option linter.unusedVariables false
set_option linter.unusedSimpArgs false
set_option linter.unusedSectionVars false

/-- a text, by its bytes -/
def Str (l : List UInt8) : Value := .string ⟨l.toArray⟩
def cell (H : Heap) (a : Addr) : Option Value := match H[a.block]? with
  | some (.cells c _ _) => if a.spot.isSome then none else c[a.off]?
  | _ => none
theorem At.cell {w0 w : World} {H : Heap} (h : At w0 H w) (a : Addr) : w.cell? a = E.cell H a := by
  unfold World.cell? E.cell; rw [h.heap]; rfl

/-- the cells from ad on are cs -/
structure Pt (H : Heap) (ad : Addr) (cs : List Value) : Prop where
  spot : ad.spot = none
  cells : ∀ j c, cs[j]? = some c → cell H ⟨ad.block, ad.off + j, none⟩ = some c

theorem add_eq {ad : Addr} (h : ad.spot = none) (j : Nat) : ad.add j = ⟨ad.block, ad.off + j, none⟩ := by
  obtain ⟨b, o, s⟩ := ad
  simp only at h
  subst h
  unfold Addr.add
  split
  · subst_vars; rfl
  · rfl

theorem Pt.drop {H : Heap} {ad : Addr} {cs : List Value} (h : Pt H ad cs) (k : Nat) : Pt H (ad.add k) (cs.drop k) := by
  rw [add_eq h.spot]
  refine ⟨rfl, fun j c e => ?_⟩
  rw [List.getElem?_drop] at e
  have := h.cells (k + j) c e
  simpa [Nat.add_assoc] using this
theorem Pt.take {H : Heap} {ad : Addr} {cs : List Value} (h : Pt H ad cs) (k : Nat) : Pt H ad (cs.take k) := by
  refine ⟨h.spot, fun j c e => h.cells j c ?_⟩
  rw [List.getElem?_take] at e
  split at e
  · exact e
  · cases e

/-- the slice value v reads as the list l: element x lies in the cells 'f x', 'sz' of them; its block meets F -/
structure Rd {α : Type} (F : Nat → Prop) (H : Heap) (f : α → List Value) (sz : Nat) (v : Value) (l : List α) : Prop where
  ex : ∃ a cap, v = .slice a l.length cap ∧ l.length ≤ cap ∧ cap ≤ maxLen ∧ (l ≠ [] → ∃ ad : Addr, a = some ad ∧ ad.spot = none ∧ F ad.block ∧ ad.block < H.size ∧ ∀ i x, l[i]? = some x → Pt H ⟨ad.block, ad.off + i * sz, none⟩ (f x))

/-- between H and H' blocks that meet S may have turned, no others; none is gone -/
structure Mo (S : Nat → Prop) (H H' : Heap) : Prop where
  size : H.size ≤ H'.size
  same : ∀ b, b < H.size → ¬ S b → H'[b]? = H[b]?

theorem Mo.refl (S : Nat → Prop) (H : Heap) : Mo S H H := ⟨Nat.le_refl _, fun _ _ _ => rfl⟩
theorem Mo.trans {S T U : Nat → Prop} {H H1 H2 : Heap} (h : Mo S H H1) (k : Mo T H1 H2) (hs : ∀ b, b < H.size → S b → U b) (ht : ∀ b, b < H.size → T b → U b) : Mo U H H2 :=
  ⟨Nat.le_trans h.size k.size, fun b hb hu => (k.same b (Nat.lt_of_lt_of_le hb h.size) (fun e => hu (ht b hb e))).trans (h.same b hb (fun e => hu (hs b hb e)))⟩
theorem Mo.weaken {S U : Nat → Prop} {H H1 : Heap} (h : Mo S H H1) (hs : ∀ b, b < H.size → S b → U b) : Mo U H H1 := ⟨h.size, fun b hb hu => h.same b hb (fun e => hu (hs b hb e))⟩
theorem Mo.push (S : Nat → Prop) (H : Heap) (o : Obj) : Mo S H (H.push o) := ⟨by simp, fun b hb _ => by rw [Array.getElem?_push, if_neg (by omega)]⟩

/-- nothing that was there has turned -/
abbrev Nw (H H' : Heap) : Prop := Mo (fun _ => False) H H'
theorem Nw.refl (H : Heap) : Nw H H := Mo.refl _ H
theorem Nw.tr {H H1 H2 : Heap} (h : Nw H H1) (k : Nw H1 H2) : Nw H H2 := Mo.trans h k (fun _ _ e => e) (fun _ _ e => e)
theorem Mo.tr {H H1 H2 : Heap} (h : Mo (fun _ => False) H H1) (k : Mo (fun _ => False) H1 H2) : Nw H H2 := Mo.trans h k (fun _ _ e => e) (fun _ _ e => e)
theorem Nw.pu (H : Heap) (o : Obj) : Nw H (H.push o) := Mo.push _ H o

theorem cell_same {H H' : Heap} {a : Addr} (h : H'[a.block]? = H[a.block]?) : cell H' a = cell H a := by unfold cell; rw [h]
theorem cell_lt {H : Heap} {a : Addr} {v : Value} (h : cell H a = some v) : a.block < H.size := by
  unfold cell at h
  cases hb : H[a.block]? with
  | none => simp [hb] at h
  | some o => exact (Array.getElem?_eq_some_iff.1 hb).1

theorem Pt.up {S : Nat → Prop} {H H' : Heap} {ad : Addr} {cs : List Value} (h : Pt H ad cs) (s : Mo S H H') (hS : ¬ S ad.block) : Pt H' ad cs :=
  ⟨h.spot, fun j c e => by
    have hc := h.cells j c e
    have hlt : ad.block < H.size := cell_lt (a := ⟨ad.block, ad.off + j, none⟩) hc
    exact (cell_same (a := ⟨ad.block, ad.off + j, none⟩) (s.same ad.block hlt hS)).trans hc⟩

theorem Pt.nw {H H' : Heap} {ad : Addr} {cs : List Value} (h : Pt H ad cs) (s : Nw H H') : Pt H' ad cs := h.up s (fun e => e)

section
variable {α : Type} {F : Nat → Prop} {H H' : Heap} {f : α → List Value} {sz : Nat} {v : Value} {l : List α}
theorem Rd.up {S : Nat → Prop} (h : Rd F H f sz v l) (s : Mo S H H') (hS : ∀ b, b < H.size → F b → ¬ S b) : Rd F H' f sz v l := by
  obtain ⟨a, cap, hv, h1, h2, h3⟩ := h.ex
  refine ⟨a, cap, hv, h1, h2, fun hl => ?_⟩
  obtain ⟨ad, e1, e2, e3, e4, e5⟩ := h3 hl
  exact ⟨ad, e1, e2, e3, Nat.lt_of_lt_of_le e4 s.size, fun i x hx => (e5 i x hx).up s (hS _ e4 e3)⟩
theorem Rd.nw (h : Rd F H f sz v l) (s : Nw H H') : Rd F H' f sz v l := h.up s (fun _ _ _ e => e)
theorem Rd.imp {F' : Nat → Prop} (h : Rd F H f sz v l) (hF : ∀ b, b < H.size → F b → F' b) : Rd F' H f sz v l := by
  obtain ⟨a, cap, hv, h1, h2, h3⟩ := h.ex
  refine ⟨a, cap, hv, h1, h2, fun hl => ?_⟩
  obtain ⟨ad, e1, e2, e3, e4, e5⟩ := h3 hl
  exact ⟨ad, e1, e2, hF _ e4 e3, e4, e5⟩
theorem Rd.len (h : Rd F H f sz v l) : l.length ≤ 9223372036854775807 := by
  obtain ⟨a, cap, hv, h1, h2, h3⟩ := h.ex
  unfold maxLen at h2; omega
theorem Rd.nil (F : Nat → Prop) (H : Heap) (f : α → List Value) (sz : Nat) : Rd F H f sz (.slice none 0 0) [] := ⟨none, 0, rfl, Nat.le_refl _, Nat.zero_le _, fun h => absurd rfl h⟩
end

section
variable {P : Program} {w0 : World} {n : Nat} {l : FL} {H : Heap} {o : Oper}

theorem Y.move {x : Operand} {v : Value} (ho : o.op = .move x) (hx : opv l x = some v) : Y P w0 n l H o v := by
  intro a w hf ha; simp [execOp, ho, hf.eval hx]
theorem Y.assign {x : Operand} {v : Value} (ho : o.op = .assign x) (hx : opv l x = some v) : Y P w0 n l H o v := by
  intro a w hf ha; simp [execOp, ho, hf.eval hx]
theorem Y.pick_t {c x y : Operand} {v : Value} (ho : o.op = .pick c x y) (hc : opv l c = some (.bool true)) (hx : opv l x = some v) : Y P w0 n l H o v := by
  intro a w hf ha; simp [execOp, ho, hf.eval hx, hf.eval hc, asBool]
theorem Y.pick_f {c x y : Operand} {v : Value} (ho : o.op = .pick c x y) (hc : opv l c = some (.bool false)) (hx : opv l y = some v) : Y P w0 n l H o v := by
  intro a w hf ha; simp [execOp, ho, hf.eval hx, hf.eval hc, asBool]
theorem Y.extract {x : Operand} {k : Nat} {vs : Array Value} {v : Value} (ho : o.op = .extract x k) (hx : opv l x = some (.tuple vs)) (hv : vs[k]? = some v) : Y P w0 n l H o v := by
  intro a w hf ha; simp [execOp, ho, hf.eval hx, Instr.extract, hv]
theorem Y.nilCheck {x : Operand} {ad : Addr} (ho : o.op = .nilCheck x) (hx : opv l x = some (.pointer (some ad))) : Y P w0 n l H o (.pointer (some ad)) := by
  intro a w hf ha; simp [execOp, ho, hf.eval hx]

theorem Y.isT {p : Prop} [Decidable p] (h : Y P w0 n l H o (.bool (decide p))) (hp : p) : Y P w0 n l H o (.bool true) := by rwa [decide_eq_true hp] at h
theorem Y.isF {p : Prop} [Decidable p] (h : Y P w0 n l H o (.bool (decide p))) (hp : ¬p) : Y P w0 n l H o (.bool false) := by rwa [decide_eq_false hp] at h
/-! numbers -/
theorem Y.add {x y : Operand} {t u : TypeId} {k : IntKind} {a b : Int} (ho : o.op = .binOp .add t x y u) (hx : opv l x = some (.int k a)) (hy : opv l y = some (.int k b)) : Y P w0 n l H o (.int k (k.wrap (a + b))) := by
  intro a w hf ha; simp [execOp, ho, hf.eval hx, hf.eval hy, binOp, Op.intArith, eqGuard]
theorem Y.sub {x y : Operand} {t u : TypeId} {k : IntKind} {a b : Int} (ho : o.op = .binOp .sub t x y u) (hx : opv l x = some (.int k a)) (hy : opv l y = some (.int k b)) : Y P w0 n l H o (.int k (k.wrap (a - b))) := by
  intro a w hf ha; simp [execOp, ho, hf.eval hx, hf.eval hy, binOp, Op.intArith, eqGuard]
theorem Y.mul {x y : Operand} {t u : TypeId} {k : IntKind} {a b : Int} (ho : o.op = .binOp .mul t x y u) (hx : opv l x = some (.int k a)) (hy : opv l y = some (.int k b)) : Y P w0 n l H o (.int k (k.wrap (a * b))) := by
  intro a w hf ha; simp [execOp, ho, hf.eval hx, hf.eval hy, binOp, Op.intArith, eqGuard]
/-- the sum fits -/
theorem Y.addi {x y : Operand} {t u : TypeId} {a b : Int} (ho : o.op = .binOp .add t x y u) (hx : opv l x = some (.int .i64 a)) (hy : opv l y = some (.int .i64 b)) (hb : -9223372036854775808 ≤ a + b ∧ a + b ≤ 9223372036854775807) : Y P w0 n l H o (.int .i64 (a + b)) := by
  have h := Y.add (P := P) (w0 := w0) (n := n) (H := H) ho hx hy
  rwa [IntWalk.i64_in _ hb] at h
theorem Y.subi {x y : Operand} {t u : TypeId} {a b : Int} (ho : o.op = .binOp .sub t x y u) (hx : opv l x = some (.int .i64 a)) (hy : opv l y = some (.int .i64 b)) (hb : -9223372036854775808 ≤ a - b ∧ a - b ≤ 9223372036854775807) : Y P w0 n l H o (.int .i64 (a - b)) := by
  have h := Y.sub (P := P) (w0 := w0) (n := n) (H := H) ho hx hy
  rwa [IntWalk.i64_in _ hb] at h
theorem Y.muli {x y : Operand} {t u : TypeId} {a b : Int} (ho : o.op = .binOp .mul t x y u) (hx : opv l x = some (.int .i64 a)) (hy : opv l y = some (.int .i64 b)) (hb : -9223372036854775808 ≤ a * b ∧ a * b ≤ 9223372036854775807) : Y P w0 n l H o (.int .i64 (a * b)) := by
  have h := Y.mul (P := P) (w0 := w0) (n := n) (H := H) ho hx hy
  rwa [IntWalk.i64_in _ hb] at h
theorem Y.quo {x y : Operand} {t u : TypeId} {k : IntKind} {a b : Int} (ho : o.op = .binOp .quo t x y u) (hx : opv l x = some (.int k a)) (hy : opv l y = some (.int k b)) (hb : b ≠ 0) : Y P w0 n l H o (.int k (k.wrap (a.tdiv b))) := by
  intro a w hf ha; simp [execOp, ho, hf.eval hx, hf.eval hy, binOp, Op.intDiv, eqGuard, hb]
theorem Y.rem {x y : Operand} {t u : TypeId} {k : IntKind} {a b : Int} (ho : o.op = .binOp .rem t x y u) (hx : opv l x = some (.int k a)) (hy : opv l y = some (.int k b)) (hb : b ≠ 0) : Y P w0 n l H o (.int k (a.tmod b)) := by
  intro a w hf ha; simp [execOp, ho, hf.eval hx, hf.eval hy, binOp, Op.intDiv, eqGuard, hb]
theorem Y.quoi {x y : Operand} {t u : TypeId} {a b : Int} (ho : o.op = .binOp .quo t x y u) (hx : opv l x = some (.int .i64 a)) (hy : opv l y = some (.int .i64 b)) (hb : 0 ≤ a ∧ a ≤ 9223372036854775807 ∧ 1 ≤ b) : Y P w0 n l H o (.int .i64 (a / b)) := by
  have h := Y.quo (P := P) (w0 := w0) (n := n) (H := H) ho hx hy (by omega)
  rwa [IntWalk.i64_quo _ _ hb] at h
theorem Y.bits {x y : Operand} {t u : TypeId} {k : IntKind} {a b : Int} (op : BinOp) (r : Int) (ho : o.op = .binOp op t x y u) (hx : opv l x = some (.int k a)) (hy : opv l y = some (.int k b)) (hop : op = .and ∨ op = .or ∨ op = .xor ∨ op = .andNot)
    (hr : ∀ w, (Op.intBits op k a b).run P w = .ok (.int k r) w) : Y P w0 n l H o (.int k r) := by
  intro a w hf ha
  rcases hop with rfl | rfl | rfl | rfl <;> simp [execOp, ho, hf.eval hx, hf.eval hy, binOp, hr, eqGuard]
theorem Y.shl {x y : Operand} {t u : TypeId} {k k2 : IntKind} {a b : Int} (ho : o.op = .binOp .shl t x y u) (hx : opv l x = some (.int k a)) (hy : opv l y = some (.int k2 b)) (hb : 0 ≤ b) : Y P w0 n l H o (.int k (k.wrap (a * 2 ^ min b.toNat k.bits))) := by
  intro a w hf ha; simp [execOp, ho, hf.eval hx, hf.eval hy, binOp, Op.shift, eqGuard, show ¬ b < 0 by omega]
theorem Y.shr {x y : Operand} {t u : TypeId} {k k2 : IntKind} {a b : Int} (ho : o.op = .binOp .shr t x y u) (hx : opv l x = some (.int k a)) (hy : opv l y = some (.int k2 b)) (hb : 0 ≤ b) : Y P w0 n l H o (.int k (a.fdiv (2 ^ min b.toNat k.bits))) := by
  intro a w hf ha; simp [execOp, ho, hf.eval hx, hf.eval hy, binOp, Op.shift, eqGuard, show ¬ b < 0 by omega]
theorem Y.lss {x y : Operand} {t u : TypeId} {k : IntKind} {a b : Int} (ho : o.op = .binOp .lss t x y u) (hx : opv l x = some (.int k a)) (hy : opv l y = some (.int k b)) : Y P w0 n l H o (.bool (decide (a < b))) := by
  intro a w hf ha; simp [execOp, ho, hf.eval hx, hf.eval hy, binOp, Op.intCmp, eqGuard]
theorem Y.gtr {x y : Operand} {t u : TypeId} {k : IntKind} {a b : Int} (ho : o.op = .binOp .gtr t x y u) (hx : opv l x = some (.int k a)) (hy : opv l y = some (.int k b)) : Y P w0 n l H o (.bool (decide (b < a))) := by
  intro a w hf ha; simp [execOp, ho, hf.eval hx, hf.eval hy, binOp, Op.intCmp, eqGuard]
theorem Y.geq {x y : Operand} {t u : TypeId} {k : IntKind} {a b : Int} (ho : o.op = .binOp .geq t x y u) (hx : opv l x = some (.int k a)) (hy : opv l y = some (.int k b)) : Y P w0 n l H o (.bool (decide (b ≤ a))) := by
  intro a w hf ha; simp [execOp, ho, hf.eval hx, hf.eval hy, binOp, Op.intCmp, eqGuard]
theorem beq_dec (a b : Int) : (a == b) = decide (a = b) := by by_cases h : a = b <;> simp [h]
theorem bne_dec (a b : Int) : (a != b) = decide (a ≠ b) := by by_cases h : a = b <;> simp [h]
theorem Y.eql {x y : Operand} {t u : TypeId} {k : IntKind} {a b : Int} (ho : o.op = .binOp .eql t x y u) (hx : opv l x = some (.int k a)) (hy : opv l y = some (.int k b)) : Y P w0 n l H o (.bool (decide (a = b))) := by
  intro ac w hf ha; rw [← beq_dec]; simp [execOp, ho, hf.eval hx, hf.eval hy, binOp, Op.intCmp, eqGuard]
theorem Y.neq {x y : Operand} {t u : TypeId} {k : IntKind} {a b : Int} (ho : o.op = .binOp .neq t x y u) (hx : opv l x = some (.int k a)) (hy : opv l y = some (.int k b)) : Y P w0 n l H o (.bool (decide (a ≠ b))) := by
  intro ac w hf ha; rw [← bne_dec]; simp [execOp, ho, hf.eval hx, hf.eval hy, binOp, Op.intCmp, eqGuard]
theorem Y.not {x : Operand} {t : TypeId} {b : Bool} (ho : o.op = .unOp .not t x) (hx : opv l x = some (.bool b)) : Y P w0 n l H o (.bool (!b)) := by
  intro ac w hf ha; simp [execOp, ho, hf.eval hx, Op.unary]
theorem Y.notp {x : Operand} {t : TypeId} {p : Prop} [Decidable p] (ho : o.op = .unOp .not t x) (hx : opv l x = some (.bool (decide p))) : Y P w0 n l H o (.bool (decide (¬ p))) := by
  intro ac w hf ha; simp [execOp, ho, hf.eval hx, Op.unary]
theorem Y.conv {x : Operand} {s d : TypeId} {k kd : IntKind} {a : Int} {ds : TypeDesc} (ho : o.op = .convert s d x) (hs : ∀ w, (underlying s).run P w = .ok ds w) (hd : ∀ w, (underlying d).run P w = .ok (.int kd) w) (hx : opv l x = some (.int k a)) : Y P w0 n l H o (.int kd (kd.wrap a)) := by
  intro ac w hf ha; simp [execOp, ho, hf.eval hx, convert, hs, hd, Conv.intToInt]
theorem Y.convi {x : Operand} {s d : TypeId} {k kd : IntKind} {a : Int} {ds : TypeDesc} (ho : o.op = .convert s d x) (hs : ∀ w, (underlying s).run P w = .ok ds w) (hd : ∀ w, (underlying d).run P w = .ok (.int kd) w) (hx : opv l x = some (.int k a)) (hw : kd.wrap a = a) : Y P w0 n l H o (.int kd a) := by
  have h := Y.conv (P := P) (w0 := w0) (n := n) (H := H) ho hs hd hx
  rwa [hw] at h
theorem Y.maxi {x y : Operand} {ts : Array TypeId} {k : IntKind} {a b : Int} (ho : o.op = .call { callee := .builtin .max, args := #[x, y], argTypes := ts }) (hx : opv l x = some (.int k a)) (hy : opv l y = some (.int k b)) : Y P w0 n l H o (.int k (Max.max a b)) := by
  intro ac w hf ha
  have : (if b > a then b else a) = Max.max a b := by
    by_cases h : b > a
    · rw [if_pos h]; omega
    · rw [if_neg h]; omega
  simp [execOp, ho, hf.eval hx, hf.eval hy, resolve, invoke, builtin, Builtin.max_, Builtin.max2, ← this]
theorem iv {k : IntKind} {a b : Int} (h : a = b) : some (Value.int k a) = some (.int k b) := by rw [h]
theorem ivv {k : IntKind} {a b : Int} (h : a = b) : Value.int k a = .int k b := by rw [h]
theorem bdec {p q : Prop} [Decidable p] [Decidable q] (h : p ↔ q) : Value.bool (decide p) = Value.bool (decide q) := by
  congr 1; exact decide_eq_decide.2 h
/-! structs held against one another -/
theorem Y.aeql {x y : Operand} {t u : TypeId} {xs ys : Array Value} {p : Prop} [Decidable p] (ho : o.op = .binOp .eql t x y u) (hm : P.eqGuardType P.depth t = false) (hE : ∀ w, (Op.equalIn 10000 t (.agg xs) (.agg ys)).run P w = .ok (decide p) w)
    (hx : opv l x = some (.agg xs)) (hy : opv l y = some (.agg ys)) : Y P w0 n l H o (.bool (decide p)) := by
  intro ac w hf ha
  simp [execOp, ho, hf.eval hx, hf.eval hy, run_eqGuard_agg _ _ _ _ _ _ _ hm, run_eql_struct, hE]
theorem Y.aneq {x y : Operand} {t u : TypeId} {xs ys : Array Value} {p : Prop} [Decidable p] (ho : o.op = .binOp .neq t x y u) (hm : P.eqGuardType P.depth t = false) (hE : ∀ w, (Op.equalIn 10000 t (.agg xs) (.agg ys)).run P w = .ok (decide p) w)
    (hx : opv l x = some (.agg xs)) (hy : opv l y = some (.agg ys)) : Y P w0 n l H o (.bool (decide (¬ p))) := by
  intro ac w hf ha
  simp [execOp, ho, hf.eval hx, hf.eval hy, run_eqGuard_agg _ _ _ _ _ _ _ hm, run_neq_struct, hE]

/-! texts -/
theorem str_size (a : List UInt8) : (ByteArray.mk a.toArray).size = a.length := by simp [ByteArray.size]
theorem Y.slen {x : Operand} {t : TypeId} {s : List UInt8} (ho : o.op = .call { callee := .builtin .len, args := #[x], argTypes := #[t] }) (ht : ∀ w, (underlying t).run P w = .ok .string w) (hx : opv l x = some (Str s)) : Y P w0 n l H o (.int .i64 s.length) := by
  have hsz := str_size s
  intro ac w hf ha; simp [execOp, ho, hf.eval hx, resolve, invoke, builtin, Builtin.len_, ht, goInt, Str, hsz]
/-! slices, cells -/
section
variable {α : Type} {F : Nat → Prop} {f : α → List Value} {sz : Nat} {v : Value} {xs : List α}
theorem Y.len {x : Operand} {t e : TypeId} (h : Rd F H f sz v xs) (ho : o.op = .call { callee := .builtin .len, args := #[x], argTypes := #[t] }) (ht : ∀ w, (underlying t).run P w = .ok (.slice e) w) (hx : opv l x = some v) : Y P w0 n l H o (.int .i64 xs.length) := by
  obtain ⟨a, cap, rfl, _⟩ := h.ex
  intro ac w hf ha; simp [execOp, ho, hf.eval hx, resolve, invoke, builtin, Builtin.len_, ht, goInt]
theorem Y.indexAddr {x i : Operand} {t e : TypeId} {k : IntKind} {iv : Int} (h : Rd F H f sz v xs) (j : Nat) (ho : o.op = .indexAddr t x i) (ht : ∀ w, (underlying t).run P w = .ok (.slice e) w) (hs : ∀ w, (sizeOf e).run P w = .ok sz w)
    (hx : opv l x = some v) (hi : opv l i = some (.int k iv)) (hj : iv = j) (hlt : j < xs.length) : ∃ ad, (∀ H', Y P w0 n l H' o (.pointer (some ad))) ∧ Pt H ad (f xs[j]) := by
  obtain ⟨a, cap, rfl, h1, h2, h3⟩ := h.ex
  obtain ⟨ad, rfl, e2, e3, e4, e5⟩ := h3 (by intro e; subst e; simp at hlt)
  subst hj
  refine ⟨_, ?_, e5 j xs[j] (by simp [hlt])⟩
  intro H' ac w hf ha
  simp [execOp, ho, hf.eval hx, hf.eval hi, Instr.indexAt, asIntOf, ht, hs, hlt, add_eq e2]

theorem Y.load1 {x : Operand} {t : TypeId} {ad : Addr} {c : Value} {cs : List Value} (h : Pt H ad (c :: cs)) (ho : o.op = .load t x) (ht : ∀ w, (isAgg t).run P w = .ok false w) (hx : opv l x = some (.pointer (some ad))) : Y P w0 n l H o c := by
  intro ac w hf ha
  have hc := h.cells 0 c (by simp)
  have : ({ block := ad.block, off := ad.off + 0, spot := none } : Addr) = ad := by have := h.spot; obtain ⟨b, off, s⟩ := ad; simp_all
  rw [this, ← ha.cell] at hc
  simp [execOp, ho, hf.eval hx, Instr.loadAt, Instr.sureAddr, loadVar, ht, load, Sem.run, hc]

theorem run_loadCellsFrom {P : Program} {w : World} {ad : Addr} (hs : ad.spot = none) : ∀ (k i : Nat) (cs : List Value) (acc : Array Value), cs.length = k → (∀ j c, cs[j]? = some c → w.cell? ⟨ad.block, ad.off + (i + j), none⟩ = some c) →
    (loadCellsFrom ad i k acc).run P w = .ok (acc ++ cs.toArray) w
  | 0, i, cs, acc, hk, _ => by
    have : cs = [] := List.eq_nil_of_length_eq_zero hk
    subst this; simp [loadCellsFrom]
  | k + 1, i, cs, acc, hk, h => by
    match cs, hk with
    | c :: cs, hk =>
      have h0 := h 0 c (by simp)
      have := run_loadCellsFrom (P := P) (w := w) hs k (i + 1) cs (acc.push c) (by simpa using hk) (fun j c' e => by have := h (j + 1) c' (by simpa using e); rwa [show i + (j + 1) = i + 1 + j by omega] at this)
      simp only [Nat.add_zero] at h0
      simp [loadCellsFrom, load, Sem.run, add_eq hs, h0, this]

theorem Y.loadN {x : Operand} {t : TypeId} {ad : Addr} {cs : List Value} {k : Nat} (h : Pt H ad cs) (ho : o.op = .load t x) (ht : ∀ w, (isAgg t).run P w = .ok true w) (hs : ∀ w, (sizeOf t).run P w = .ok k w) (hk : cs.length = k) (hx : opv l x = some (.pointer (some ad))) : Y P w0 n l H o (.agg cs.toArray) := by
  intro ac w hf ha
  have := run_loadCellsFrom (P := P) (w := w) h.spot k 0 cs #[] hk (fun j c e => by rw [ha.cell]; simpa using h.cells j c e)
  simp [execOp, ho, hf.eval hx, Instr.loadAt, Instr.sureAddr, loadVar, ht, hs, loadCells, this]

theorem Y.fieldAddr {x : Operand} {s : TypeId} {k off sz2 : Nat} {ad : Addr} {cs : List Value} {fs : Array Field} {fd : Field} (h : Pt H ad cs) (ho : o.op = .fieldAddr s x k) (hu : ∀ w, (underlying s).run P w = .ok (.struct fs) w) (hk : fs[k]? = some fd) (hof : fd.offset = off)
    (hsz : ∀ w, (sizeOf fd.type).run P w = .ok sz2 w) (hz : sz2 ≠ 0) (hx : opv l x = some (.pointer (some ad))) : Y P w0 n l H o (.pointer (some (ad.add off))) := by
  intro ac w hf ha
  have _h := h
  simp [execOp, ho, hf.eval hx, Instr.fieldAt, Instr.sureAddr, fieldPlace, hu, hk, hof, hsz, hz]

theorem Y.slice {x : Operand} {lo hi : Option Operand} {t e : TypeId} (h : Rd F H f sz v xs) (i j : Nat) (ho : o.op = .slice t x lo hi none) (ht : ∀ w, (underlying t).run P w = .ok (.slice e) w) (hs : ∀ w, (sizeOf e).run P w = .ok sz w) (hx : opv l x = some v)
    (hlo : lo = none ∧ i = 0 ∨ ∃ p k iv, lo = some p ∧ opv l p = some (.int k iv) ∧ iv = (i : Int)) (hhi : hi = none ∧ j = xs.length ∨ ∃ p k iv, hi = some p ∧ opv l p = some (.int k iv) ∧ iv = (j : Int)) (hij : i ≤ j) (hj : j ≤ xs.length) :
    ∃ v', (∀ H', Y P w0 n l H' o v') ∧ Rd F H f sz v' ((xs.take j).drop i) := by
  obtain ⟨a, cap, rfl, h1, h2, h3⟩ := h.ex
  refine ⟨.slice (if cap = i then a else a.map (·.add (i * sz))) (j - i) (cap - i), ?_, ?_⟩
  · intro H' ac w hf ha
    have e1 : ∀ w, (Instr.sliceBounds true xs.length cap (lo.map ac.eval) (hi.map ac.eval) none).run P w = .ok (i, j, cap) w := by
      intro w
      have b2 : j ≤ cap := by omega
      rcases hlo with ⟨rfl, rfl⟩ | ⟨p, k, iv, rfl, h1, rfl⟩ <;> rcases hhi with ⟨rfl, rfl⟩ | ⟨p2, k2, iv2, rfl, h3, rfl⟩ <;>
        simp [Instr.sliceBounds, Instr.sliceBound, asIntOf, hf.eval, *]
    have hu : ∀ w, (underlying t).run P w = .ok (.slice e) w := ht
    simp [execOp, ho, hf.eval hx, Instr.sliceAt, Instr.slice, hu, hs, e1]
  · have hlen : ((xs.take j).drop i).length = j - i := by simp; omega
    refine ⟨_, _, by rw [hlen], by rw [hlen]; omega, by omega, fun hne => ?_⟩
    have hji : i < j := by
      apply Decidable.byContradiction; intro hc
      exact hne (List.eq_nil_of_length_eq_zero (by rw [hlen]; omega))
    obtain ⟨ad, rfl, e2, e3, e4, e5⟩ := h3 (by intro e; subst e; simp at hj; omega)
    rw [if_neg (by omega)]
    refine ⟨ad.add (i * sz), rfl, by rw [add_eq e2], by rw [add_eq e2]; exact e3, by rw [add_eq e2]; exact e4, fun q y hy => ?_⟩
    rw [add_eq e2]
    rw [List.getElem?_drop, List.getElem?_take] at hy
    split at hy
    · have := e5 (i + q) y hy
      simpa [Nat.add_mul, Nat.add_assoc] using this
    · cases hy
end
end
end Go.Proofs.Ytepdhokpfecdnaa.E
/-
  Rules for statements whose order is open and that turn the heap: what reads is taken first, the rest in every order: no condition.
-/
namespace Go.Proofs.Ytepdhokpfecdnaa.E
set_option linter.unusedVariables false
set_option linter.unusedSimpArgs false
set_option linter.unusedSectionVars false

section
variable {P : Program} {ops : Array Oper} {md : Region.Mode} {Q : Exit → Act → World → Prop} {S : World → Prop} {X : List Nat}
/-- whatever order is picked, and S holds behind every operation but those of X -/
def wpAnyE (P : Program) (md : Region.Mode) (ops : Array Oper) (Q : Exit → Act → World → Prop) (S : World → Prop) (X : List Nat) : Nat → Array Bool → Act → World → Prop
  | 0, listed, a, w => Region.ready md ops listed = [] ∧ Q .normal a w
  | fuel + 1, listed, a, w =>
    (Region.ready md ops listed = [] → Q .normal a w) ∧
    ∀ i ∈ Region.ready md ops listed, wpOp P ops Q i (fun a' w' => (X.contains i = true ∨ S w') ∧ wpAnyE P md ops Q S X fuel (listed.setIfInBounds i true) a' w') a w
theorem wpAny_of_E : ∀ (fuel : Nat) (listed : Array Bool) (a : Act) (w : World), wpAnyE P md ops Q S X fuel listed a w → wpAny P md ops Q fuel listed a w
  | 0, _, _, _, h => h
  | fuel + 1, _, _, _, h => ⟨h.1, fun i hi => wpOp_mono (fun a' w' h' => wpAny_of_E fuel _ a' w' h'.2) (h.2 i hi)⟩
theorem wpAnyE_first {i : Nat} {oi : Oper} {v : Value} (hi : ops[i]? = some oi) (hsel : ∀ (j : Nat) (o : Oper) cs b, ops[j]? = some o → o.op ≠ .select cs b)
    (hQ : ∀ c a w, Q (.panic c) (a.put oi.dst v) w → Q (.panic c) a w) (hX : ∀ j, X.contains j = true → j = i ∨ Region.waitsFor md ops j i = true) :
    ∀ (fuel : Nat) (listed : Array Bool) (a : Act) (w : World),
      (∀ j oj, ops[j]? = some oj → j ≠ i → listed.getD j true = false → (∀ e ∈ oj.after, Region.binds md e = true → e.on ≠ i) → oi.apart ops oj = true) →
      i ∈ Region.ready md ops listed → YieldsIf P ops S oi v a → S w →
      wpAnyE P md ops Q S X fuel (listed.setIfInBounds i true) (a.put oi.dst v) w → wpAnyE P md ops Q S X (fuel + 1) listed a w := by
  intro fuel
  induction fuel with
  | zero =>
    intro listed a w _ hr hy hS H
    refine ⟨fun h => (by rw [h] at hr; cases hr), fun j hj => ?_⟩
    by_cases hji : j = i
    · subst hji; exact hy.wpOp hi hS ⟨.inr hS, H⟩
    · have := ready_mono hj hji
      rw [H.1] at this
      cases this
  | succ fuel ih =>
    intro listed a w hfree hr hy hS H
    refine ⟨fun h => (by rw [h] at hr; cases hr), fun j hj => ?_⟩
    by_cases hji : j = i
    · subst hji; exact hy.wpOp hi hS ⟨.inr hS, H⟩
    · have h1 := H.2 j (ready_mono hj hji)
      obtain ⟨hjun, oj, hoj, hall⟩ := mem_ready.1 hj
      have hnot : ∀ e ∈ oj.after, Region.binds md e = true → e.on ≠ i := fun e he hb heq => by
        have h1 := hall e he hb
        have h0 := (mem_ready.1 hr).1
        rw [heq] at h1
        rcases Nat.lt_or_ge i listed.size with h' | h'
        · simp [h'] at h0 h1; rw [h0] at h1; cases h1
        · simp [Array.getElem?_eq_none h'] at h1
      have hjX : ¬ X.contains j = true := fun hc => by
        rcases hX j hc with h | h
        · exact hji h
        · obtain ⟨oj', hoj', e, he, hb, hon⟩ := Region.waitsFor_spec h
          have : oj' = oj := Option.some.inj (hoj'.symm.trans hoj)
          subst this
          exact hnot e he hb hon
      have h2 := wpOp_putIf hoj (hfree j oj hoj hji hjun hnot) (fun cs b => hsel i oi cs b hi) (fun cs b => hsel j oj cs b hoj) hQ hy h1
      have hfree' : ∀ k ok, ops[k]? = some ok → k ≠ i → (listed.setIfInBounds j true).getD k true = false →
          (∀ e ∈ ok.after, Region.binds md e = true → e.on ≠ i) → oi.apart ops ok = true := fun k ok hk hki hun hno => by
        refine hfree k ok hk hki ?_ hno
        by_cases hjk : j = k
        · subst hjk; exact hjun
        · rw [getD_set_ne true hjk] at hun; exact hun
      refine wpOp_mono (fun a' w' h3 => ?_) h2
      have hS' : S w' := h3.2.1.resolve_left hjX
      refine ⟨.inr hS', ih (listed.setIfInBounds j true) a' w' hfree' (ready_mono hr (Ne.symm hji)) h3.1 hS' ?_⟩
      rw [Array.setIfInBounds_comm _ _ hji]
      exact h3.2.2
theorem wpAnyE_take {i : Nat} {oi : Oper} {v : Value} {fuel : Nat} {listed : Array Bool} {a : Act} {w : World} (hX : X.all (fun j => Nat.beq j i || Region.waitsFor md ops j i) = true) (hi : ops[i]? = some oi)
    (hs : Region.noSelect ops = true) (hf : Region.free md ops listed i = true) (hr : (Region.ready md ops listed).contains i = true)
    (hQ : ∀ c a w, Q (.panic c) (a.put oi.dst v) w → Q (.panic c) a w) (hy : YieldsIf P ops S oi v a) (hS : S w)
    (h : wpAnyE P md ops Q S X fuel (listed.setIfInBounds i true) (a.put oi.dst v) w) : wpAnyE P md ops Q S X (fuel + 1) listed a w :=
  wpAnyE_first hi (Region.noSelect_spec hs) hQ (fun j hj => by
    have := List.all_eq_true.1 hX j (by simpa using hj)
    rw [Bool.or_eq_true] at this
    exact this.imp Nat.eq_of_beq_eq_true id) fuel listed a w (Region.free_spec hi hf) (by simpa using hr) hy hS h
theorem wpAnyE_all {rs : List Nat} {fuel : Nat} {listed : Array Bool} {a : Act} {w : World} (hr : Region.ready md ops listed = rs) (hne : rs ≠ [])
    (h : ∀ i ∈ rs, wpOp P ops Q i (fun a' w' => (X.contains i = true ∨ S w') ∧ wpAnyE P md ops Q S X fuel (listed.setIfInBounds i true) a' w') a w) : wpAnyE P md ops Q S X (fuel + 1) listed a w :=
  ⟨fun h0 => absurd (hr ▸ h0) hne, hr ▸ h⟩
theorem wpAnyE_done {listed : Array Bool} {a : Act} {w : World} (hr : Region.ready md ops listed = []) (h : Q .normal a w) : ∀ fuel, wpAnyE P md ops Q S X fuel listed a w
  | 0 => ⟨hr, h⟩
  | _ + 1 => ⟨fun _ => h, by rw [hr]; simp⟩
end

def lst (n : Nat) (dn : List Nat) : Array Bool := dn.foldr (fun i a => a.setIfInBounds i true) (Array.replicate n false)

/-- the operations 'dn' have come up, k are left; 'SH' holds of the heap all the while -/
def LH (P : Program) (w0 : World) (ops : Array Oper) (Q : Exit → Act → World → Prop) (SH : Heap → Prop) (X : List Nat) (n k : Nat) (dn : List Nat) (l : FL) (H : Heap) : Prop :=
  ∀ a w, Fr n l a → At w0 H w → wpAnyE P .any ops (NoPanic Q) (fun w' => ∃ H', At w0 H' w' ∧ SH H') X k (lst ops.size dn) a w

/-- operation i comes up now -/
def LO (P : Program) (w0 : World) (ops : Array Oper) (Q : Exit → Act → World → Prop) (SH : Heap → Prop) (X : List Nat) (n k i : Nat) (dn : List Nat) (l : FL) (H : Heap) : Prop :=
  ∀ a w, Fr n l a → At w0 H w → wpOp P ops (NoPanic Q) i (fun a' w' => (X.contains i = true ∨ ∃ H', At w0 H' w' ∧ SH H') ∧ wpAnyE P .any ops (NoPanic Q) (fun w' => ∃ H', At w0 H' w' ∧ SH H') X k (lst ops.size (i :: dn)) a' w') a w

section
variable {P : Program} {w0 : World} {Q : Exit → Act → World → Prop} {n k i : Nat} {dn : List Nat} {l : FL} {H : Heap} {ops : Array Oper} {o : Oper} {SH : Heap → Prop} {X : List Nat}

theorem CW.region_any {id : Nat} {lo : List Oper} (SH : Heap → Prop) (X : List Nat) (hm : P.follows .mixedOrders = true) (h : LH P w0 lo.toArray Q SH X n lo.length [] l H) : CW P w0 Q n l (.region id lo.toArray true) H := by
  intro a w hf ha
  refine wp_region_noPanic (wp_region_any hm (wpAny_of_E (S := fun w' => ∃ H', At w0 H' w' ∧ SH H') (X := X) _ _ _ _ ?_))
  have := h a _ hf ha.drew
  simpa [lst] using this

theorem LH.take {v : Value} {d : Nat} (i : Nat) (hX : X.all (fun j => Nat.beq j i || Region.waitsFor .any ops j i) = true) (hi : ops[i]? = some o) (hs : Region.noSelect ops = true) (hfr : Region.free .any ops (lst ops.size dn) i = true) (hr : (Region.ready .any ops (lst ops.size dn)).contains i = true)
    (hy : ∀ H', SH H' → Y P w0 n l H' o v) (hw : Wd ops l o) (hd : o.dst = some d) (hn : Nat.blt d n = true) (hS : SH H) (h : LH P w0 ops Q SH X n k (i :: dn) ((d, v) :: l) H) : LH P w0 ops Q SH X n (k + 1) dn l H := by
  intro a w hf ha
  have hp := hf.put hn v
  rw [← hd] at hp
  exact wpAnyE_take hX hi hs hfr hr (fun _ _ _ h => h) (.inl ⟨hw n a hf, fun w' ⟨H', ha', hS'⟩ => hy H' hS' a w' hf ha'⟩) ⟨H, ha, hS⟩ (h _ w hp ha)
theorem LH.e {α : Type} {g : α → Value} {φ : α → Prop} {d : Nat} (i : Nat) (hX : X.all (fun j => Nat.beq j i || Region.waitsFor .any ops j i) = true) (hi : ops[i]? = some o) (hs : Region.noSelect ops = true) (hfr : Region.free .any ops (lst ops.size dn) i = true) (hr : (Region.ready .any ops (lst ops.size dn)).contains i = true)
    (hy : ∃ x, (∀ H', Y P w0 n l H' o (g x)) ∧ φ x) (hw : Wd ops l o) (hd : o.dst = some d) (hn : Nat.blt d n = true) (hS : SH H) (h : ∀ x, φ x → LH P w0 ops Q SH X n k (i :: dn) ((d, g x) :: l) H) : LH P w0 ops Q SH X n (k + 1) dn l H :=
  let ⟨x, h1, h2⟩ := hy
  LH.take i hX hi hs hfr hr (fun H' _ => h1 H') hw hd hn hS (h x h2)
theorem LH.gs {d j e : Nat} {b c : Bool} (i : Nat) (hX : X.all (fun j => Nat.beq j i || Region.waitsFor .any ops j i) = true) (hi : ops[i]? = some o) (hs : Region.noSelect ops = true) (hfr : Region.free .any ops (lst ops.size dn) i = true) (hr : (Region.ready .any ops (lst ops.size dn)).contains i = true)
    (hg : o.guard = some (j, b)) (hj : (ops[j]?).bind (·.dst) = some e) (hc : lk l e = some (.bool c)) (hne : (c == b) = false) (hd : o.dst = some d) (hn : Nat.blt d n = true) (hS : SH H) (h : LH P w0 ops Q SH X n k (i :: dn) ((d, undef) :: l) H) : LH P w0 ops Q SH X n (k + 1) dn l H := by
  intro a w hf ha
  have hw : Region.wanted o (yielded ops a.tmps) = false := by
    have hne' : c ≠ b := by intro e; subst e; simp at hne
    simp [Region.wanted, hg, yielded_of hf hj hc, hne']
  have hp := hf.put hn undef
  rw [← hd] at hp
  exact wpAnyE_take hX hi hs hfr hr (fun _ _ _ h => h) (.inr ⟨hw, rfl⟩) ⟨H, ha, hS⟩ (h _ w hp ha)
theorem LH.splitp {d : Nat} {p : Prop} [Decidable p] (hc : lk l d = some (.bool (decide p))) (ht : p → LH P w0 ops Q SH X n k dn ((d, .bool true) :: l) H) (he : ¬p → LH P w0 ops Q SH X n k dn ((d, .bool false) :: l) H) : LH P w0 ops Q SH X n k dn l H := by
  intro a w hf ha
  by_cases hp : p
  · rw [decide_eq_true hp] at hc; exact ht hp a w (hf.same hc) ha
  · rw [decide_eq_false hp] at hc; exact he hp a w (hf.same hc) ha
theorem LH.split {d : Nat} {b : Bool} (hc : lk l d = some (.bool b)) (ht : b = true → LH P w0 ops Q SH X n k dn ((d, .bool true) :: l) H) (he : b = false → LH P w0 ops Q SH X n k dn ((d, .bool false) :: l) H) : LH P w0 ops Q SH X n k dn l H := by
  intro a w hf ha
  cases b
  · exact he rfl a w (hf.same hc) ha
  · exact ht rfl a w (hf.same hc) ha
theorem wpAnyE_narrow {md : Region.Mode} {Q : Exit → Act → World → Prop} {S S2 : World → Prop} (hS : ∀ w, S2 w → S w) : ∀ (fuel : Nat) (listed : Array Bool) (a : Act) (w : World), wpAnyE P md ops Q S2 X fuel listed a w → wpAnyE P md ops Q S X fuel listed a w
  | 0, _, _, _, h => h
  | fuel + 1, _, _, _, h => ⟨h.1, fun i hi => wpOp_mono (fun a' w' h' => ⟨h'.1.imp id (hS w'), wpAnyE_narrow hS fuel _ a' w' h'.2⟩) (h.2 i hi)⟩
/-- less may turn from here on -/
theorem LH.narrow {SH2 : Heap → Prop} (hS : ∀ H', SH2 H' → SH H') (h : LH P w0 ops Q SH2 X n k dn l H) : LH P w0 ops Q SH X n k dn l H :=
  fun a w hf ha => wpAnyE_narrow (fun _ ⟨H', h1, h2⟩ => ⟨H', h1, hS H' h2⟩) _ _ _ _ (h a w hf ha)
theorem LH.done (hr : Region.ready .any ops (lst ops.size dn) = []) (h : QN w0 Q n l H) : LH P w0 ops Q SH X n k dn l H :=
  fun a w hf ha => wpAnyE_done (Q := NoPanic Q) hr (NoPanic.normal (h a w hf ha)) _
theorem LH.one {i : Nat} (hr : Region.ready .any ops (lst ops.size dn) = [i]) (h : LO P w0 ops Q SH X n k i dn l H) : LH P w0 ops Q SH X n (k + 1) dn l H :=
  fun a w hf ha => wpAnyE_all hr (by simp) (fun j hj => by
    simp only [List.mem_singleton] at hj
    subst hj; exact h a w hf ha)
theorem LH.two {i j : Nat} (hr : Region.ready .any ops (lst ops.size dn) = [i, j]) (h : LO P w0 ops Q SH X n k i dn l H) (h2 : LO P w0 ops Q SH X n k j dn l H) : LH P w0 ops Q SH X n (k + 1) dn l H :=
  fun a w hf ha => wpAnyE_all hr (by simp) (fun q hq => by
    simp only [List.mem_cons, List.not_mem_nil, or_false] at hq
    rcases hq with rfl | rfl
    · exact h a w hf ha
    · exact h2 a w hf ha)
theorem LO.z {R : Value → Heap → Prop} {d : Nat} (hi : ops[i]? = some o) (hz : Z P w0 n l H o R) (hw : Wd ops l o) (hd : o.dst = some d) (hn : Nat.blt d n = true)
    (h : ∀ v H', R v H' → (X.contains i = true ∨ SH H') ∧ LH P w0 ops Q SH X n k (i :: dn) ((d, v) :: l) H') : LO P w0 ops Q SH X n k i dn l H := by
  intro a w hf ha
  obtain ⟨v, H', w', hr, ha', hR⟩ := hz a w hf ha
  obtain ⟨h1, h2⟩ := h v H' hR
  have hp := hf.put hn v
  rw [← hd] at hp
  unfold wpOp
  simp only [hi]
  rw [if_pos (hw n a hf)]
  refine .inl ?_
  unfold Oper.wp
  rw [hr]
  exact ⟨h1.imp id (fun h1 => ⟨H', ha', h1⟩), h2 _ w' hp ha'⟩
theorem LO.v {v : Value} {d : Nat} (hi : ops[i]? = some o) (hy : Y P w0 n l H o v) (hw : Wd ops l o) (hd : o.dst = some d) (hn : Nat.blt d n = true) (hS : X.contains i = true ∨ SH H)
    (h : LH P w0 ops Q SH X n k (i :: dn) ((d, v) :: l) H) : LO P w0 ops Q SH X n k i dn l H :=
  LO.z (R := fun u H' => u = v ∧ H' = H) hi (fun a w hf ha => ⟨v, H, w, hy a w hf ha, ha, rfl, rfl⟩) hw hd hn (fun u H' ⟨e1, e2⟩ => by subst e1; subst e2; exact ⟨hS, h⟩)
theorem LO.s {R : Heap → Prop} (hi : ops[i]? = some o) (hz : S P w0 n l H o R) (hw : Wd ops l o) (hd : o.dst = none)
    (h : ∀ H', R H' → (X.contains i = true ∨ SH H') ∧ LH P w0 ops Q SH X n k (i :: dn) l H') : LO P w0 ops Q SH X n k i dn l H := by
  intro a w hf ha
  obtain ⟨H', w', hr, ha', hR⟩ := hz a w hf ha
  obtain ⟨h1, h2⟩ := h H' hR
  unfold wpOp
  simp only [hi]
  rw [if_pos (hw n a hf)]
  refine .inl ?_
  unfold Oper.wp
  rw [hr]
  show (fun a' w' => (X.contains i = true ∨ ∃ H', At w0 H' w' ∧ SH H') ∧ wpAnyE P .any ops (NoPanic Q) (fun w' => ∃ H', At w0 H' w' ∧ SH H') X k (lst ops.size (i :: dn)) a' w') (a.put o.dst undef) w'
  rw [hd]
  exact ⟨h1.imp id (fun h1 => ⟨H', ha', h1⟩), h2 a w' hf ha'⟩
theorem LO.gs {d j e : Nat} {b c : Bool} (hi : ops[i]? = some o) (hg : o.guard = some (j, b)) (hj : (ops[j]?).bind (·.dst) = some e) (hc : lk l e = some (.bool c)) (hne : (c == b) = false) (hd : o.dst = some d) (hn : Nat.blt d n = true) (hS : X.contains i = true ∨ SH H)
    (h : LH P w0 ops Q SH X n k (i :: dn) ((d, undef) :: l) H) : LO P w0 ops Q SH X n k i dn l H := by
  intro a w hf ha
  have hw : Region.wanted o (yielded ops a.tmps) = false := by
    have hne' : c ≠ b := by intro e; subst e; simp at hne
    simp [Region.wanted, hg, yielded_of hf hj hc, hne']
  have hp := hf.put hn undef
  rw [← hd] at hp
  unfold wpOp
  simp only [hi]
  rw [if_neg (by simp [hw])]
  exact ⟨hS.imp id (fun hS => ⟨H, ha, hS⟩), h _ w hp ha⟩
theorem LO.call {R : Value → Heap → Prop} {f d : Nat} {args : List Operand} {ats : Array TypeId} {vs : List Value} (hi : ops[i]? = some o) (ho : o.op = .call { callee := .value (.func f), args := args.toArray, argTypes := ats })
    (hcall : ∀ (vs : Array Value) (w : World), (callFunc f vs).run P w = .ok (.enter f vs) w) (hv : opvs l args = some vs) (hw : Wd ops l o) (hd : o.dst = some d) (hn : Nat.blt d n = true) (hc : Ct P w0 f vs.toArray H R)
    (h : ∀ v H', R v H' → (X.contains i = true ∨ SH H') ∧ LH P w0 ops Q SH X n k (i :: dn) ((d, v) :: l) H') : LO P w0 ops Q SH X n k i dn l H := by
  intro a w hf ha
  have hr := run_call (P := P) (ρ := a.eval) (w := w) ho rfl hcall
  rw [List.map_toArray, hf.evals hv] at hr
  unfold wpOp
  simp only [hi]
  rw [if_pos (hw n a hf)]
  refine .inl ?_
  unfold Oper.wp
  rw [hr]
  show Calls P f vs.toArray w _
  refine (hc w ha).mono ?_
  rintro e w' ⟨r, H', rfl, ha', hR⟩
  obtain ⟨h1, h2⟩ := h r H' hR
  have hp := hf.put hn r
  rw [← hd] at hp
  exact ⟨h1.imp id (fun h1 => ⟨H', ha', h1⟩), h2 _ w' hp ha'⟩
end
end Go.Proofs.Ytepdhokpfecdnaa.E
/-
  Rules for memory that a call makes: new variables, rows that are appended to, stores: no condition.
-/
namespace Go.Proofs.Ytepdhokpfecdnaa.E
set_option linter.unusedVariables false
set_option linter.unusedSimpArgs false
set_option linter.unusedSectionVars false

/-- read as a list, wherever it lies -/
abbrev RdT {α : Type} (H : Heap) (f : α → List Value) (sz : Nat) (v : Value) (l : List α) : Prop := Rd (fun _ => True) H f sz v l

theorem Rd.any {α : Type} {F : Nat → Prop} {H : Heap} {f : α → List Value} {sz : Nat} {v : Value} {l : List α} (h : Rd F H f sz v l) : RdT H f sz v l := h.imp (fun _ _ _ => trivial)
theorem Rd.lt {α : Type} {F : Nat → Prop} {H : Heap} {f : α → List Value} {sz : Nat} {v : Value} {l : List α} (h : Rd F H f sz v l) : Rd (fun b => b < H.size) H f sz v l := h.imp (fun _ hb _ => hb)

/-- a range of marked cells that holds none of the first n -/
def Soft (fz : Nat × Nat) (n : Nat) : Prop := fz.1 ≤ fz.2 ∧ ∀ i, i < n → ¬ (fz.1 ≤ i ∧ i < fz.2)
theorem Soft.zero (n : Nat) : Soft (0, 0) n := ⟨Nat.le_refl _, fun _ _ h => absurd h.2 (Nat.not_lt_zero _)⟩
/-- the block g holds the cells cur, and may be written -/
def Row (H : Heap) (g : Nat) (cur : Array Value) (e : TypeId) : Prop := ∃ fz, H[g]? = some (.cells cur e fz) ∧ Soft fz cur.size
theorem Row.lt {H : Heap} {g : Nat} {cur : Array Value} {e : TypeId} (h : Row H g cur e) : g < H.size := let ⟨_, h, _⟩ := h; (Array.getElem?_eq_some_iff.1 h).1
theorem Row.up {H H' : Heap} {g : Nat} {cur : Array Value} {e : TypeId} (h : Row H g cur e) (hs : H'[g]? = H[g]?) : Row H' g cur e := let ⟨fz, h1, h2⟩ := h; ⟨fz, by rw [hs]; exact h1, h2⟩
theorem Row.cell {H : Heap} {g : Nat} {cur : Array Value} {e : TypeId} (h : Row H g cur e) (i : Nat) : E.cell H ⟨g, i, none⟩ = cur[i]? := by
  obtain ⟨fz, h1, _⟩ := h
  simp [E.cell, h1]
theorem Row.of {H : Heap} {g : Nat} {cur : Array Value} {e : TypeId} (h : H[g]? = some (.cells cur e (0, 0))) : Row H g cur e := ⟨_, h, Soft.zero _⟩

/-- the slice value v owns the list l: nil, or the head of a row that is not frozen; its block meets G -/
structure Own {α : Type} (G : Nat → Prop) (e : TypeId) (H : Heap) (f : α → List Value) (sz : Nat) (v : Value) (l : List α) : Prop where
  cells : ∀ x, (f x).length = sz
  one : ∀ x, ∀ u ∈ f x, u.oneCell' = true
  ex : (v = .slice none 0 0 ∧ l = []) ∨ ∃ g cap cur, v = .slice (some ⟨g, 0, none⟩) l.length cap ∧ G g ∧ Row H g cur e ∧ l.length ≤ cap ∧ cap ≤ maxLen ∧ cur.size = cap * sz ∧ cur.toList.take (l.length * sz) = l.flatMap f

/-! how elements lie in cells -/
abbrev fS (s : List UInt8) : List Value := [Str s]
abbrev fI (x : Int) : List Value := [.int .i64 x]
abbrev fB (b : UInt8) : List Value := [.int .u8 b.toNat]
abbrev fN (k : IntKind) (x : Nat) : List Value := [.int k x]
structure SV where
  a : Option Addr
  len : Nat
  cap : Nat
abbrev SV.v (s : SV) : Value := .slice s.a s.len s.cap
theorem fS_len (s : List UInt8) : (fS s).length = 1 := rfl
theorem fB_len (s : UInt8) : (fB s).length = 1 := rfl
theorem fN_len (k : IntKind) (s : Nat) : (fN k s).length = 1 := rfl
theorem fN_one (k : IntKind) (s : Nat) : ∀ u ∈ fN k s, u.oneCell' = true := by intro u hu; simp only [List.mem_singleton] at hu; subst hu; rfl
def blk : Value → Nat
  | .slice (some a) _ _ => a.block
  | .pointer (some a) => a.block
  | .map (some r) => r
  | _ => 0

theorem length_flatMap {α : Type} {f : α → List Value} {sz : Nat} (hf : ∀ x, (f x).length = sz) : ∀ l : List α, (l.flatMap f).length = l.length * sz
  | [] => by simp
  | x :: l => by simp [hf x, length_flatMap hf l, Nat.add_mul, Nat.add_comm]

theorem get_flatMap {α : Type} {f : α → List Value} {sz : Nat} (hf : ∀ x, (f x).length = sz) : ∀ (l : List α) (i j : Nat) (x : α) (c : Value), l[i]? = some x → (f x)[j]? = some c → (l.flatMap f)[i * sz + j]? = some c
  | [], _, _, _, _, h, _ => by simp at h
  | y :: l, 0, j, x, c, h, hc => by
    simp only [List.getElem?_cons_zero, Option.some.injEq] at h
    subst h
    have hj := (List.getElem?_eq_some_iff.1 hc).1
    simp only [List.flatMap_cons, Nat.zero_mul, Nat.zero_add]
    rw [List.getElem?_append_left hj]; exact hc
  | y :: l, i + 1, j, x, c, h, hc => by
    simp only [List.getElem?_cons_succ] at h
    simp only [List.flatMap_cons]
    rw [List.getElem?_append_right (by rw [hf y, Nat.add_mul]; omega), hf y]
    have := get_flatMap hf l i j x c h hc
    rwa [show (i + 1) * sz + j - sz = i * sz + j by rw [Nat.add_mul]; omega]

theorem Own.rd {α : Type} {G : Nat → Prop} {e : TypeId} {H : Heap} {f : α → List Value} {sz : Nat} {v : Value} {l : List α} (h : Own G e H f sz v l) : Rd G H f sz v l := by
  rcases h.ex with ⟨rfl, rfl⟩ | ⟨g, cap, cur, rfl, hg, hh, h1, h2, h3, h4⟩
  · exact Rd.nil _ _ _ _
  · refine ⟨_, cap, rfl, h1, h2, fun _ => ⟨_, rfl, rfl, hg, hh.lt, fun i x hx => ⟨rfl, fun j c hc => ?_⟩⟩⟩
    have hr := get_flatMap h.cells l i j x c hx hc
    rw [← h4, List.getElem?_take] at hr
    split at hr
    · simp only [Nat.zero_add]
      rw [hh.cell]
      simpa using hr
    · cases hr

def toSV : Value → SV
  | .slice a l c => ⟨a, l, c⟩
  | _ => ⟨none, 0, 0⟩
theorem Rd.sv {α : Type} {F : Nat → Prop} {H : Heap} {f : α → List Value} {sz : Nat} {v : Value} {l : List α} (h : Rd F H f sz v l) : (toSV v).v = v := by
  obtain ⟨a, cap, rfl, _⟩ := h.ex; rfl
theorem Own.sv {α : Type} {G : Nat → Prop} {e : TypeId} {H : Heap} {f : α → List Value} {sz : Nat} {v : Value} {l : List α} (h : Own G e H f sz v l) : (toSV v).v = v := h.rd.sv
theorem Own.lt {α : Type} {G : Nat → Prop} {e : TypeId} {H : Heap} {f : α → List Value} {sz : Nat} {v : Value} {l : List α} (h : Own G e H f sz v l) : Rd (fun b => G b ∧ b < H.size) H f sz v l := h.rd.imp (fun _ hb hg => ⟨hg, hb⟩)

section
variable {α : Type} {G : Nat → Prop} {e : TypeId} {H H' : Heap} {f : α → List Value} {sz : Nat} {v : Value} {l : List α}
theorem Own.nil (hf : ∀ x, (f x).length = sz) (h1 : ∀ x, ∀ u ∈ f x, u.oneCell' = true) : Own G e H f sz (.slice none 0 0) [] := ⟨hf, h1, .inl ⟨rfl, rfl⟩⟩
theorem Own.up {S : Nat → Prop} (h : Own G e H f sz v l) (s : Mo S H H') (hS : ∀ b, b < H.size → G b → ¬ S b) : Own G e H' f sz v l := by
  refine ⟨h.cells, h.one, ?_⟩
  rcases h.ex with h | ⟨g, cap, cur, hv, hg, hh, r⟩
  · exact .inl h
  · exact .inr ⟨g, cap, cur, hv, hg, hh.up (s.same g hh.lt (hS _ hh.lt hg)), r⟩
theorem Own.nw (h : Own G e H f sz v l) (s : Nw H H') : Own G e H' f sz v l := h.up s (fun _ _ _ e => e)
theorem Own.imp {G' : Nat → Prop} (h : Own G e H f sz v l) (hG : ∀ b, b < H.size → G b → G' b) : Own G' e H f sz v l := by
  refine ⟨h.cells, h.one, ?_⟩
  rcases h.ex with h | ⟨g, cap, cur, hv, hg, hh, r⟩
  · exact .inl h
  · exact .inr ⟨g, cap, cur, hv, hG _ hh.lt hg, hh, r⟩
theorem Own.len (h : Own G e H f sz v l) : l.length ≤ 9223372036854775807 := h.rd.len
theorem Own.at {j : Nat} (h : Own G e H f sz v l) (hj : j < l.length) : G (blk v) ∧ blk v < H.size ∧ ∃ cap, v = .slice (some ⟨blk v, 0, none⟩) l.length cap := by
  rcases h.ex with ⟨rfl, rfl⟩ | ⟨g, cap, cur, rfl, hg, hh, r⟩
  · simp at hj
  · exact ⟨hg, hh.lt, cap, rfl⟩
theorem Own.pt {j : Nat} (h : Own G e H f sz v l) (hj : j < l.length) : Pt H ⟨blk v, j * sz, none⟩ (f l[j]) := by
  obtain ⟨h1, h2, cap, h3⟩ := h.at hj
  obtain ⟨a, cap', hv, _, _, hr⟩ := h.rd.ex
  obtain ⟨ad, rfl, e2, e3, e4, e5⟩ := hr (by intro e; subst e; simp at hj)
  have hb : blk v = ad.block := by rw [hv]; rfl
  have := e5 j l[j] (by simp [hj])
  rw [hv] at h3
  simp only [Value.slice.injEq, Option.some.injEq] at h3
  have ho : ad.off = 0 := by rw [h3.1]
  rw [ho, Nat.zero_add, ← hb] at this
  exact this

theorem set_flatMap {f : α → List Value} {sz : Nat} (hf : ∀ x, (f x).length = sz) : ∀ (l : List α) (j k : Nat) (x y : α) (c : Value), l[j]? = some x → k < sz → f y = (f x).set k c → (l.set j y).flatMap f = (l.flatMap f).set (j * sz + k) c
  | [], _, _, _, _, _, h, _, _ => by simp at h
  | z :: l, 0, k, x, y, c, h, hk, hy => by
    simp only [List.getElem?_cons_zero, Option.some.injEq] at h
    subst h
    simp only [List.set_cons_zero, List.flatMap_cons, hy, Nat.zero_mul, Nat.zero_add]
    rw [List.set_append_left _ _ (by rw [hf z]; exact hk)]
  | z :: l, j + 1, k, x, y, c, h, hk, hy => by
    simp only [List.getElem?_cons_succ] at h
    simp only [List.set_cons_succ, List.flatMap_cons]
    rw [set_flatMap hf l j k x y c h hk hy, List.set_append_right _ _ (by rw [hf z, Nat.add_mul]; omega), hf z]
    congr 2
    rw [Nat.add_mul]; omega

def hset (H : Heap) (b i : Nat) (c : Value) : Heap := H.modify b fun
  | .cells cs e fz => .cells (cs.setIfInBounds i c) e fz
  | o => o
theorem hset_mo (H : Heap) (b i : Nat) (c : Value) : Mo (fun k => k = b) H (hset H b i c) :=
  ⟨by simp [hset], fun k _ hk => by simp only [hset, Array.getElem?_modify]; rw [if_neg (fun e => hk e.symm)]⟩
theorem hset_at {b i : Nat} {c : Value} {cs : Array Value} {e : TypeId} {fz : Nat × Nat} (h : H[b]? = some (.cells cs e fz)) : (hset H b i c)[b]? = some (.cells (cs.setIfInBounds i c) e fz) := by
  simp only [hset, Array.getElem?_modify, if_true, h]; rfl

theorem Row.set {H : Heap} {b i : Nat} {c : Value} {cs : Array Value} {e : TypeId} (h : Row H b cs e) : Row (hset H b i c) b (cs.setIfInBounds i c) e :=
  let ⟨fz, h1, h2⟩ := h; ⟨fz, hset_at h1, by simpa using h2⟩

theorem Own.set {j k : Nat} {y : α} {c : Value} (h : Own G e H f sz v l) (hj : j < l.length) (hk : k < sz) (hy : f y = (f l[j]).set k c) : Own G e (hset H (blk v) (j * sz + k) c) f sz v (l.set j y) := by
  refine ⟨h.cells, h.one, ?_⟩
  rcases h.ex with ⟨rfl, rfl⟩ | ⟨g, cap, cur, rfl, hg, hh, h1, h2, h3, h4⟩
  · simp at hj
  · refine .inr ⟨g, cap, _, by rw [List.length_set], hg, hh.set, by rw [List.length_set]; exact h1, h2, by simpa using h3, ?_⟩
    have hlt : j * sz + k < l.length * sz := by
      have := Nat.mul_le_mul_right sz (show j + 1 ≤ l.length from hj)
      rw [Nat.add_mul] at this; omega
    rw [set_flatMap h.cells l j k l[j] y c (by simp [hj]) hk hy, ← h4, List.length_set, Array.toList_setIfInBounds, List.take_set]
end

theorem map_zip_swap_range {α : Type} {vs : List α} {k : Nat} (hk : vs.length = k) : (vs.zip (List.range' 0 vs.length)).map (fun p => (p.2, p.1)) = (List.range k).zip vs := by
  subst hk
  rw [List.range_eq_range']
  generalize 0 = s
  induction vs generalizing s with
  | nil => rfl
  | cons v vs ih => simp [List.range'_succ, ih]

section
variable {P : Program} {w0 : World} {n : Nat} {l : FL} {H : Heap} {o : Oper}

/-! new variables -/
theorem At.alloc {w : World} (ha : At w0 H w) (ob : Obj) : At w0 (H.push ob) (w.alloc ob) := ⟨by simp [World.alloc, ha.heap], ha.os, ha.tape, ha.output, ha.dr⟩

theorem Z.alloc {t : TypeId} {z : Value} (ho : o.op = .alloc t) (hz : ∀ w, (zeroValue t).run P w = .ok z w) : Z P w0 n l H o (fun v H' => v = .pointer (some ⟨H.size, 0, none⟩) ∧ H' = H.push (.cells z.cells t)) := by
  intro a w hf ha
  refine ⟨_, _, _, ?_, ha.alloc (.cells z.cells t), rfl, rfl⟩
  simp [execOp, ho, Instr.alloc, hz, newVar, newRow, ha.heap]
theorem Z.box {t : TypeId} {x : Operand} {v : Value} (ho : o.op = .box t x) (hx : opv l x = some v) : Z P w0 n l H o (fun r H' => r = .pointer (some ⟨H.size, 0, none⟩) ∧ H' = H.push (.cells v.cells t)) := by
  intro a w hf ha
  refine ⟨_, _, _, ?_, ha.alloc (.cells v.cells t), rfl, rfl⟩
  simp [execOp, ho, hf.eval hx, Instr.box, newVar, newRow, ha.heap]

/-- the whole of a new variable -/
theorem Pt.new (H : Heap) (cs : Array Value) (t : TypeId) : Pt (H.push (.cells cs t)) ⟨H.size, 0, none⟩ cs.toList := by
  refine ⟨rfl, fun j c e => ?_⟩
  simp only [cell, Array.getElem?_push_size, Nat.zero_add, Option.isSome_none]
  simpa using e

theorem run_store {w : World} {ad : Addr} {c u : Value} (h : w.cell? ad = some u) (hz : w.frozen? ad = false) (h1 : c.oneCell' = true) : (store ad c).run P w = .ok () (w.setCell ad c) := by
  cases c <;> first | (simp [Value.oneCell'] at h1; done) | simp [store, Sem.run, h, hz]

/-- a store into a block of cells that is not frozen -/
theorem S.cell {x y : Operand} {t : TypeId} {b i : Nat} {c : Value} {cs : Array Value} {e : TypeId} (ho : o.op = .store t x y) (hx : opv l x = some (.pointer (some ⟨b, i, none⟩))) (hy : opv l y = some c) (h1 : c.oneCell' = true)
    (hs : ∀ w, (sizeOf t).run P w = .ok 1 w) (hb0 : Row H b cs e) (hi : i < cs.size) : S P w0 n l H o (fun H' => H' = hset H b i c) := by
  intro a w hf ha
  obtain ⟨⟨f1, f2⟩, hb, hsf⟩ := hb0
  have hc : w.cell? ⟨b, i, none⟩ = some cs[i] := by rw [ha.cell]; simp [E.cell, hb, hi]
  have hz : w.frozen? ⟨b, i, none⟩ = false := by have := hsf.2 i hi; simp only at this; simp [World.frozen?, ha.heap, hb]; omega
  have hcs : c.cells = #[c] := by cases c <;> first | (simp [Value.oneCell'] at h1; done) | rfl
  refine ⟨hset H b i c, { w with heap := hset H b i c }, ?_, ha.set, rfl⟩
  have hr := run_store (P := P) hc hz h1
  have hw : w.setCell ⟨b, i, none⟩ c = { w with heap := hset H b i c } := by
    simp only [World.setCell, hset, ha.heap]
    congr 1
  rw [hw] at hr
  have ha0 : (⟨b, i, none⟩ : Addr).add 0 = ⟨b, i, none⟩ := by simp [Addr.add]
  simp [execOp, ho, hf.eval hx, hf.eval hy, Instr.storeAt, Instr.sureAddr, storeVar, hcs, hs, storeCells, hr, ha0]

section
variable {α : Type} {G F : Nat → Prop} {e : TypeId} {f : α → List Value} {sz : Nat} {v : Value} {xs ys : List α}
/-- the address of an element of a row that is owned -/
theorem Y.ownAddr {x i : Operand} {t : TypeId} {k : IntKind} {iv : Int} (h : Own G e H f sz v xs) (j : Nat) (ho : o.op = .indexAddr t x i) (ht : ∀ w, (underlying t).run P w = .ok (.slice e) w) (hs : ∀ w, (sizeOf e).run P w = .ok sz w)
    (hx : opv l x = some v) (hi : opv l i = some (.int k iv)) (hj : iv = j) (hlt : j < xs.length) : Y P w0 n l H o (.pointer (some ⟨blk v, j * sz, none⟩)) := by
  obtain ⟨h1, h2, cap, h3⟩ := h.at hlt
  subst hj
  intro ac w hf ha
  have hx' := hf.eval hx
  rw [h3] at hx'
  simp [execOp, ho, hx', hf.eval hi, Instr.indexAt, asIntOf, ht, hs, hlt, add_eq]

/-- a store of one cell into an element of a row that is owned -/
theorem S.own {x y : Operand} {t : TypeId} {c : Value} (h : Own G e H f sz v xs) (j k : Nat) (z : α) (ho : o.op = .store t x y) (hx : opv l x = some (.pointer (some ⟨blk v, j * sz + k, none⟩))) (hy : opv l y = some c) (h1 : c.oneCell' = true)
    (hs : ∀ w, (sizeOf t).run P w = .ok 1 w) (hj : j < xs.length) (hk : k < sz) (hz : f z = (f xs[j]).set k c) : S P w0 n l H o (fun H' => Own G e H' f sz v (xs.set j z) ∧ Mo (fun b => b = blk v) H H') := by
  intro a w hf ha
  rcases h.ex with ⟨rfl, rfl⟩ | ⟨g, cap, cur, hv, hg, hh, r1, r2, r3, r4⟩
  · simp at hj
  · have hb : blk v = g := by rw [hv]; rfl
    have hlt : j * sz + k < cur.size := by
      have := Nat.mul_le_mul_right sz (show j + 1 ≤ cap by omega)
      rw [Nat.add_mul] at this; omega
    obtain ⟨H', w', hr, ha', rfl⟩ := S.cell (P := P) (w0 := w0) (n := n) ho (by rw [hb] at hx; exact hx) hy h1 hs hh hlt a w hf ha
    refine ⟨_, w', hr, ha', ?_, by rw [hb]; exact hset_mo H g _ c⟩
    rw [← hb]
    exact h.set hj hk hz

theorem Mo.of_grown {w w' : World} {row : Option Nat} (ha : At w0 H w) (h : w.grownBy w' row) : Mo (fun b => some b = row) H w'.heap :=
  ⟨by rw [← ha.heap]; exact h.size, fun b hb hn => by rw [← ha.heap] at hb ⊢; exact h.block b hb hn⟩

/-- a grown row -/
theorem Own.new {G' : Nat → Prop} {w : World} {z : Value} {cap : Nat} {zs : List α} (hc : ∀ x, (f x).length = sz) (h1 : ∀ x, ∀ u ∈ f x, u.oneCell' = true) (hzs : z.cells.size = sz) (hG : G' w.heap.size) (h2 : zs.length ≤ cap) (h3 : cap ≤ maxLen) :
    Own G' e (w.alloc (.cells ((zs.flatMap f).toArray ++ Builtin.zeroCells z.cells (cap - zs.length)) e)).heap f sz (.slice (some ⟨w.heap.size, 0, none⟩) zs.length cap) zs := by
  refine ⟨hc, h1, .inr ⟨w.heap.size, cap, _, rfl, hG, .of (heap_alloc_new w _), h2, h3, ?_, ?_⟩⟩
  · simp only [Array.size_append, List.size_toArray, size_zeroCells, hzs, length_flatMap hc, ← Nat.add_mul]
    congr 1; omega
  · simp only [Array.toList_append]
    rw [← length_flatMap hc zs]
    exact List.take_left

theorem Rd.pts {u : Value} {a : Addr} {m c : Nat} (h : Rd F H f sz u ys) (hc : ∀ x, (f x).length = sz) (hu : u = .slice (some a) m c) {w : World} (ha : At w0 H w) : ∀ j d, (ys.flatMap f)[j]? = some d → w.cell? (a.add j) = some d := by
  intro j d hd
  obtain ⟨ad, cap, hv, q1, q2, q3⟩ := h.ex
  have hj := (List.getElem?_eq_some_iff.1 hd).1
  rw [length_flatMap hc] at hj
  have hne : ys ≠ [] := by intro e; subst e; simp at hj
  obtain ⟨ad', e1, e2, e3, e4, e5⟩ := q3 hne
  have hsz : 0 < sz := by rcases Nat.eq_zero_or_pos sz with h | h; · subst h; simp at hj
                          · exact h
  have hdiv : j / sz < ys.length := Nat.div_lt_of_lt_mul (by rw [Nat.mul_comm]; exact hj)
  have hp := e5 (j / sz) ys[j / sz] (by simp [hdiv])
  have hm : j % sz < (f ys[j / sz]).length := by rw [hc]; exact Nat.mod_lt _ hsz
  have h5 := hp.cells (j % sz) (f ys[j / sz])[j % sz] (by simp [hm])
  have h6 := get_flatMap hc ys (j / sz) (j % sz) _ _ (show ys[j / sz]? = some ys[j / sz] by simp [hdiv]) (show (f ys[j / sz])[j % sz]? = some (f ys[j / sz])[j % sz] by simp [hm])
  have hjj : j / sz * sz + j % sz = j := by rw [Nat.mul_comm]; exact Nat.div_add_mod j sz
  rw [hjj, hd] at h6
  simp only [Option.some.injEq] at h6
  have haa : a = ad' := by rw [hu] at hv; simp only [Value.slice.injEq] at hv; rw [e1] at hv; exact Option.some.inj hv.1
  rw [haa, add_eq e2, ha.cell, h6]
  simp only at h5
  rw [Nat.add_assoc, hjj] at h5
  exact h5

/-- what the table of types says of a slice type and its element type -/
def Inf (P : Program) (t e : TypeId) (sz bytes : Nat) : Prop := P.underlying t = some (.slice e) ∧ ∃ i z, P.info? e = some i ∧ i.zero = some z ∧ i.size = sz ∧ i.bytes = bytes ∧ z.cells.size = sz

theorem run_storeCells_soft (P : Program) (g o : Nat) (t : TypeId) (fz : Nat × Nat) : ∀ (vs : List Value) (i : Nat) (cur : Array Value) (w : World), w.heap[g]? = some (.cells cur t fz) → Soft fz cur.size → o + i + vs.length ≤ cur.size → (∀ v ∈ vs, v.oneCell' = true) →
    (storeCells ⟨g, o, none⟩ vs i).run P w = .ok () (w.setRow g (cur.toList.take (o + i) ++ vs ++ cur.toList.drop (o + i + vs.length)).toArray)
  | [], i, cur, w, hg, _, _, _ => by
    simp only [storeCells, List.append_nil, List.length_nil, Nat.add_zero, List.take_append_drop, Array.toArray_toList]
    rw [setRow_self w g cur t fz hg]
    rfl
  | v :: rest, i, cur, w, hg, hfz, hl, h1 => by
    have hi : o + i < cur.size := by simp at hl; omega
    have hcell : w.cell? ⟨g, o + i, none⟩ = some cur[o + i] := by simp [World.cell?, hg, hi]
    have hfro : w.frozen? ⟨g, o + i, none⟩ = false := by
      obtain ⟨lo, hi'⟩ := fz
      have := hfz.2 (o + i) hi
      simp only at this
      simp [World.frozen?, hg]; omega
    have hst : (store ((⟨g, o, none⟩ : Addr).add i) v).run P w = .ok () (w.setRow g (cur.setIfInBounds (o + i) v)) := by
      rw [add_eq rfl, run_store hcell hfro (h1 v (by simp)), setCell_eq_setRow w g (o + i) cur t fz v hg]
    have ih := run_storeCells_soft P g o t fz rest (i + 1) (cur.setIfInBounds (o + i) v) (w.setRow g (cur.setIfInBounds (o + i) v)) (setRow_heap w g cur _ t _ hg) (by simpa using hfz) (by simp at hl ⊢; omega) (fun x hx => h1 x (by simp [hx]))
    simp only [storeCells, Sem.run_bind, hst, Result.andThen_ok, ih, setRow_setRow]
    congr 3
    have e := list_seg_step cur.toList (o + i) v rest (by simp at hl ⊢; omega)
    simpa [Array.toList_setIfInBounds, Nat.add_assoc] using e

theorem run_append_soft {w : World} (t ty e : TypeId) (i : TypeInfo) (ht : P.underlying t = some (.slice e)) (hi : P.info? e = some i)
    (g sLen sCap : Nat) (cur : Array Value) (fz : Nat × Nat) (hg : w.heap[g]? = some (.cells cur e fz)) (hfz : Soft fz cur.size)
    (a : Addr) (m c : Nat) (news : List Value) (hl : news.length = m * i.size) (hnews : ∀ j u, news[j]? = some u → w.cell? (a.add j) = some u) (h1 : ∀ u ∈ news, u.oneCell' = true)
    (hroom : sLen + m ≤ sCap) (hfit : sLen * i.size + news.length ≤ cur.size) :
    (Builtin.append_ #[t, t] ty #[.slice (some ⟨g, 0, none⟩) sLen sCap, .slice (some a) m c]).run P w =
      .ok (.slice (some ⟨g, 0, none⟩) (sLen + m) sCap) (w.setRow g (cur.toList.take (sLen * i.size) ++ news ++ cur.toList.drop (sLen * i.size + news.length)).toArray) := by
  have hf := run_firstCells_some (P := P) w i.size m a m c news hl hnews
  have hst := run_storeCells_soft P g (sLen * i.size) e fz news 0 cur w hg hfz (by simpa using hfit) h1
  simp only [Nat.add_zero] at hst
  simp [Builtin.append_, run_underlying ht, sizeOf, typeInfo, hi, Builtin.lenOf, hroom, hf, Addr.add_lit, hst]

theorem Z.append {s x : Operand} {t : TypeId} {u : Value} {bytes : Nat} (h : Own G e H f sz v xs) (hr : Rd F H f sz u ys) (ho : o.op = .call { callee := .builtin .append, args := #[s, x], argTypes := #[t, t] })
    (hinf : Inf P t e sz bytes) (hs : opv l s = some v) (hx : opv l x = some u) (hb : (xs.length + ys.length) * bytes ≤ 140737488355328) (hm : xs.length + ys.length ≤ 9223372036854775807) :
    Z P w0 n l H o (fun r H' => Own (fun b => G b ∨ H.size ≤ b) e H' f sz r (xs ++ ys) ∧ Mo G H H') := by
  obtain ⟨ht, i, z, hi, hz, hsz, hby, hzs⟩ := hinf
  subst hsz
  subst hby
  intro a w hf ha
  obtain ⟨ad, cap, rfl, q1, q2, q3⟩ := id hr.ex
  have hl : (ys.flatMap f).length = ys.length * i.size := length_flatMap h.cells ys
  have h1 : ∀ c ∈ ys.flatMap f, c.oneCell' = true := by
    intro c hc
    obtain ⟨y, hy, hc⟩ := List.mem_flatMap.1 hc
    exact h.one y c hc
  cases ad with
  | none =>
    have hys : ys = [] := by
      apply Decidable.byContradiction; intro hne
      obtain ⟨ad, hn, _⟩ := q3 hne
      cases hn
    subst hys
    refine ⟨v, H, w, ?_, ha, by rw [List.append_nil]; exact h.imp (fun b _ hg => .inl hg), Mo.refl _ _⟩
    rcases h.ex with ⟨rfl, rfl⟩ | ⟨g, cap', cur, rfl, hg, hh, r1, r2, r3, r4⟩
    · simp [execOp, ho, resolve, invoke, builtin, hf.eval hs, hf.eval hx, Builtin.append_, run_underlying ht, sizeOf, typeInfo, hi, Builtin.lenOf, Builtin.firstCells]
    · simp [execOp, ho, resolve, invoke, builtin, hf.eval hs, hf.eval hx, Builtin.append_, run_underlying ht, sizeOf, typeInfo, hi, Builtin.lenOf, Builtin.firstCells, r1, storeCells]
  | some ad =>
    have hnews := hr.pts h.cells rfl ha
    have grown : ∀ (old : Nat) (r : Value), old < xs.length + ys.length → r = .slice (some ⟨w.heap.size, 0, none⟩) (xs.length + ys.length) (grownCap w (xs.length + ys.length) old e) → ∀ ob, ob = Obj.cells ((xs.flatMap f).toArray ++ (ys.flatMap f).toArray ++ Builtin.zeroCells z.cells (grownCap w (xs.length + ys.length) old e - (xs.length + ys.length))) e →
        At w0 (w.drew.alloc ob).heap (w.drew.alloc ob) ∧ Own (fun b => G b ∨ H.size ≤ b) e (w.drew.alloc ob).heap f i.size r (xs ++ ys) ∧ Mo G H (w.drew.alloc ob).heap := by
      rintro old r ho' rfl ob rfl
      have hge := grownCap_ge w (xs.length + ys.length) old e
      have hcm : grownCap w (xs.length + ys.length) old e ≤ maxLen := grownCap_le_maxLen w (xs.length + ys.length) old e (by unfold maxLen; omega)
      have ha2 : At w0 H w.drew := ha.drew
      refine ⟨⟨rfl, ha.os, ha.tape, ha.output, ha2.dr⟩, ?_, ?_⟩
      · have := Own.new (e := e) (G' := fun b => G b ∨ H.size ≤ b) (w := w.drew) (z := z) (cap := grownCap w (xs.length + ys.length) old e) (zs := xs ++ ys) h.cells h.one hzs (.inr (by rw [ha2.heap]; exact Nat.le_refl _)) (by simpa using hge) hcm
        simpa using this
      · rw [(ha2.alloc _).heap]; exact Mo.push _ _ _
    rcases h.ex with ⟨rfl, rfl⟩ | ⟨g, cap', cur, rfl, hg, hh, r1, r2, r3, r4⟩
    · by_cases hm0 : ys.length = 0
      · have hys : ys = [] := List.eq_nil_of_length_eq_zero hm0
        subst hys
        refine ⟨.slice none 0 0, H, w, ?_, ha, by simpa using h.imp (fun b _ hg => .inl hg), Mo.refl _ _⟩
        simp [execOp, ho, resolve, invoke, builtin, hf.eval hs, hf.eval hx, Builtin.append_, run_underlying ht, sizeOf, typeInfo, hi, Builtin.lenOf, Builtin.firstCells, loadCells, loadCellsFrom]
      · simp only [List.length_nil, Nat.zero_add] at hb hm
        have hrun := run_append_nil (P := P) w t o.type e i z ht hi hz ad ys.length cap (ys.flatMap f) hl hnews (by omega) (by omega) (by omega)
        have := grown 0 _ (by simp; omega) rfl _ rfl
        simp only [List.length_nil, Nat.zero_add, List.flatMap_nil, List.nil_append, Array.empty_append] at this
        exact ⟨_, _, _, by simp [execOp, ho, resolve, invoke, builtin, hf.eval hs, hf.eval hx, hrun], this.1, this.2.1, this.2.2⟩
    · obtain ⟨fz, hh0, hsf⟩ := id hh
      have hg' : w.heap[g]? = some (.cells cur e fz) := by rw [ha.heap]; exact hh0
      by_cases hroom : xs.length + ys.length ≤ cap'
      · have hfit : xs.length * i.size + (ys.flatMap f).length ≤ cur.size := by rw [hl, r3, ← Nat.add_mul]; exact Nat.mul_le_mul_right _ hroom
        have hrun := run_append_soft (P := P) (w := w) t o.type e i ht hi g xs.length cap' cur fz hg' hsf ad ys.length cap (ys.flatMap f) hl hnews h1 hroom hfit
        refine ⟨.slice (some ⟨g, 0, none⟩) (xs.length + ys.length) cap', (w.setRow g (cur.toList.take (xs.length * i.size) ++ ys.flatMap f ++ cur.toList.drop (xs.length * i.size + (ys.flatMap f).length)).toArray).heap, w.setRow g (cur.toList.take (xs.length * i.size) ++ ys.flatMap f ++ cur.toList.drop (xs.length * i.size + (ys.flatMap f).length)).toArray, by simp [execOp, ho, resolve, invoke, builtin, hf.eval hs, hf.eval hx, hrun], ⟨rfl, ha.os, ha.tape, ha.output, ha.dr⟩, ⟨h.cells, h.one, .inr ⟨g, cap', _, by rw [List.length_append],   .inl hg, ⟨fz, setRow_heap w g cur _ e _ hg', hsf.1, fun i hi => hsf.2 i (by simp only [List.size_toArray, List.length_append, List.length_take, List.length_drop, Array.length_toList] at hi; omega)⟩, by simpa using hroom, r2, ?_, ?_⟩⟩, ⟨by rw [← ha.heap]; simp [World.setRow], fun b hb hn => ?_⟩⟩
        · simp only [List.size_toArray, List.length_append, List.length_take, List.length_drop, Array.length_toList]
          omega
        · have hlx := length_flatMap h.cells xs
          rw [r4, ← List.flatMap_append, List.length_append, Nat.add_mul, ← hl, ← hlx, ← List.length_append, ← List.flatMap_append]
          exact List.take_left
        · rw [← ha.heap]; exact setRow_other w g b _ (fun e => hn (e ▸ hg))
      · have holds : ∀ j c, (xs.flatMap f)[j]? = some c → w.cell? ((⟨g, 0, none⟩ : Addr).add j) = some c := h.rd.pts h.cells rfl ha
        have hrun := run_append_grow (P := P) w t o.type e i z ht hi hz ⟨g, 0, none⟩ xs.length cap' (xs.flatMap f) (length_flatMap h.cells xs) holds ad ys.length cap (ys.flatMap f) hl hnews (by omega) (by omega) (growslice_fits (by omega) hb)
        have := grown cap' _ (by omega) rfl _ rfl
        exact ⟨_, _, _, by simp [execOp, ho, resolve, invoke, builtin, hf.eval hs, hf.eval hx, hrun], this.1, this.2.1, this.2.2⟩

/-! literal rows and structs -/
theorem foldl_set (size : Nat) : ∀ (vs : List Value) (j off : Nat) (cs : Array Value) (pre old post : List Value), cs.toList = pre ++ old ++ post → pre.length = off + j → old.length = vs.length →
    ((vs.zipIdx j).foldl (fun cs (x : Value × Nat) => cs.setIfInBounds (off + x.2) x.1) cs).toList = pre ++ vs ++ post
  | [], j, off, cs, pre, old, post, h, _, ho => by
    have : old = [] := List.eq_nil_of_length_eq_zero ho
    subst this
    simpa using h
  | v :: vs, j, off, cs, pre, old, post, h, hp, ho => by
    match old, ho with
    | x :: old, ho =>
      simp only [List.zipIdx_cons, List.foldl_cons]
      have := foldl_set size vs (j + 1) off (cs.setIfInBounds (off + j) v) (pre ++ [v]) old post (by
        rw [Array.toList_setIfInBounds, h, ← hp]
        simp) (by simp; omega) (by simpa using ho)
      simpa using this

theorem fill_row (size : Nat) : ∀ (vs : List Value) (i : Nat) (cs : Array Value) (pre old : List Value), cs.toList = pre ++ old → pre.length = i * size → old.length = vs.length * size → (∀ v ∈ vs, v.cells.size = size) →
    ∃ r, Instr.fill (fun i => some (i * size, size)) cs ((vs.zipIdx i).map (fun p => (p.2, p.1))) = some r ∧ r.toList = pre ++ vs.flatMap (fun v => v.cells.toList)
  | [], i, cs, pre, old, h, _, ho, _ => by
    have : old = [] := List.eq_nil_of_length_eq_zero (by simpa using ho)
    subst this
    exact ⟨cs, rfl, by simpa using h⟩
  | v :: vs, i, cs, pre, old, h, hp, ho, hv => by
    have hvs := hv v (by simp)
    have hlen : size ≤ old.length := by rw [ho]; simp [Nat.add_mul]
    have hold : old = old.take size ++ old.drop size := (List.take_append_drop size old).symm
    have hcs : cs.toList = pre ++ old.take size ++ old.drop size := by rw [h, List.append_assoc, ← hold]
    have hsz : cs.size = pre.length + old.length := by rw [← Array.length_toList, h, List.length_append]
    have hf := foldl_set size v.cells.toList 0 (i * size) cs pre (old.take size) (old.drop size) hcs (by omega) (by rw [List.length_take, show v.cells.toList.length = size from by simpa using hvs]; omega)
    simp only [List.zipIdx_cons, List.map_cons, Instr.fill]
    rw [if_neg (by simp [hvs]; omega)]
    obtain ⟨r, hr, hrl⟩ := fill_row size vs (i + 1) (v.cells.zipIdx.foldl (fun cs (x : Value × Nat) => cs.setIfInBounds (i * size + x.2) x.1) cs) (pre ++ v.cells.toList) (old.drop size) (by
      rw [← hf, ← Array.foldl_toList, Array.toList_zipIdx]) (by simp [hvs, hp, Nat.add_mul]) (by simp [ho, Nat.add_mul]) (fun u hu => hv u (by simp [hu]))
    exact ⟨r, hr, by simpa using hrl⟩

theorem Z.lit {t : TypeId} {k bytes : Nat} {parts : List (Nat × Operand)} (vs : List Value) (zs : List α) (ho : o.op = .buildSlice t k parts.toArray) (hinf : Inf P t e sz bytes) (hp : opvs l (parts.map (·.2)) = some vs) (hi : parts.map (·.1) = List.range k) (hk : vs.length = k) (hks : k * sz ≤ 16777216) (hk16 : k ≤ 16777216)
    (hc : ∀ x, (f x).length = sz) (h1 : ∀ x, ∀ u ∈ f x, u.oneCell' = true) (hz : vs.map (fun v => v.cells.toList) = zs.map f) :
    Z P w0 n l H o (fun r H' => Own (fun b => b = H.size) e H' f sz r zs ∧ Nw H H' ∧ ∃ c, H' = H.push c) := by
  obtain ⟨ht, i, z, hi', hz', hsz, hby, hzs⟩ := hinf
  subst hsz
  intro a w hf ha
  have hev := hf.evals hp
  have hzl : zs.length = k := by have := congrArg List.length hz; simpa [hk] using this.symm
  have hparts : (parts.toArray.map (fun (x : Nat × Operand) => (x.1, a.eval x.2))).toList = (vs.zipIdx 0).map (fun p => (p.2, p.1)) := by
    have e1 : parts.map (fun (x : Nat × Operand) => (x.1, a.eval x.2)) = (List.range k).zip vs := by
      rw [← hi, ← hev, List.map_map]
      clear hi hev hp ho
      induction parts with
      | nil => rfl
      | cons p ps ih => simp [ih]
    rw [List.map_toArray]
    simp only
    rw [e1, List.zipIdx_eq_zip_range', map_zip_swap_range hk]
  have hcells : ∀ v ∈ vs, v.cells.size = i.size := by
    intro v hv
    have : v.cells.toList ∈ zs.map f := by rw [← hz]; exact List.mem_map.2 ⟨v, hv, rfl⟩
    obtain ⟨x, _, hx⟩ := List.mem_map.1 this
    have := hc x
    rw [hx] at this
    simpa using this
  have hfl : vs.flatMap (fun v => v.cells.toList) = zs.flatMap f := by rw [List.flatMap_def, List.flatMap_def, hz]
  have hbase : ∀ (zc : Array Value), ((Array.range (k * i.size)).map (zc[· % zc.size]!)).toList = [] ++ ((Array.range (k * i.size)).map (zc[· % zc.size]!)).toList := fun _ => rfl
  have hrun : ∃ cs : Array Value, cs.toList = zs.flatMap f ∧ (Instr.buildSlice t k (parts.toArray.map (fun (x : Nat × Operand) => (x.1, a.eval x.2)))).run P w = .ok (.slice (some ⟨w.heap.size, 0, none⟩) k k) (w.alloc (.cells cs e)) := by
    by_cases h0 : k * i.size = 0
    · obtain ⟨r, hr, hrl⟩ := fill_row i.size vs 0 #[] [] [] rfl (by simp) (by simp [hk, h0]) hcells
      refine ⟨r, by rw [hrl, hfl]; rfl, ?_⟩
      simp only [Instr.buildSlice, Sem.run_bind, run_underlying ht, Result.andThen_ok, sizeOf, typeInfo, run_program, hi', Sem.run_pure, hparts]
      have hz0 : ∀ g : Nat → Value, (Array.range 0).map g = #[] := fun g => by simp
      simp [h0, hz0, hr, newRow]
    · obtain ⟨r, hr, hrl⟩ := fill_row i.size vs 0 ((Array.range (k * i.size)).map (z.cells[· % z.cells.size]!)) [] _ (hbase _) (by simp) (by simp [hk]) hcells
      refine ⟨r, by rw [hrl, hfl]; rfl, ?_⟩
      simp only [Instr.buildSlice, Sem.run_bind, run_underlying ht, Result.andThen_ok, sizeOf, typeInfo, run_program, hi', Sem.run_pure, hparts]
      have hlim : ¬ (k * i.size > 2 ^ 24) := by simp only [Nat.reducePow]; omega
      simp [h0, hlim, zeroValue, typeInfo, hi', hz', hr, newRow]
  obtain ⟨cs, hcs, hrun⟩ := hrun
  refine ⟨.slice (some ⟨w.heap.size, 0, none⟩) k k, H.push (.cells cs e), w.alloc (.cells cs e), ?_, ha.alloc (.cells cs e), ⟨hc, h1, .inr ⟨H.size, k, cs, ?_, rfl, .of (by simp), ?_, ?_, ?_, ?_⟩⟩, Nw.pu _ _, _, rfl⟩
  · simp only [execOp, ho, Sem.run_bind, hrun, Result.andThen_ok, Sem.run_pure]
  · rw [hzl, ha.heap]
  · omega
  · unfold maxLen; omega
  · rw [← Array.length_toList, hcs, length_flatMap hc, hzl]
  · rw [← length_flatMap hc, List.take_of_length_le (by rw [← hcs]; exact Nat.le_refl _), hcs]

theorem Y.build {t : TypeId} {parts : List (Nat × Operand)} {vs : List Value} {v : Value} (ho : o.op = .build t parts.toArray) (hp : opvs l (parts.map (·.2)) = some vs) (hrun : ∀ w, (Instr.build t ((parts.map (·.1)).zip vs).toArray).run P w = .ok v w) : Y P w0 n l H o v := by
  intro a w hf ha
  have hev := hf.evals hp
  have e1 : parts.map (fun (x : Nat × Operand) => (x.1, a.eval x.2)) = (parts.map (·.1)).zip vs := by
    rw [← hev, List.map_map]
    clear hev hp ho hrun
    induction parts with
    | nil => rfl
    | cons p ps ih => simp [ih]
  have hr := hrun w
  rw [← e1] at hr
  simp [execOp, ho, hr]
end
end
end Go.Proofs.Ytepdhokpfecdnaa.E
/-
  Rules for maps whose keys are texts, numbers or bools: no condition.
-/
namespace Go.Proofs.Ytepdhokpfecdnaa.E
set_option linter.unusedSectionVars false
open Go.MapKept

/-- a map's block reads as the list m of keys and values, in the order in which they came -/
structure MapOf {κ β : Type} (G : Nat → Prop) (H : Heap) (fk : κ → Value) (fv : β → Value) (v : Value) (m : List (κ × β)) : Prop where
  ex : ∃ r es clock, v = .map (some r) ∧ G r ∧ H[r]? = some (.map es clock) ∧ Stamped es clock ∧ es.toList.map (fun e => (e.key, e.val)) = m.map (fun p => (fk p.1, fv p.2))

section
variable {κ β : Type} {G : Nat → Prop} {H H' : Heap} {fk : κ → Value} {fv : β → Value} {v : Value} {m : List (κ × β)}
theorem MapOf.up {S : Nat → Prop} (h : MapOf G H fk fv v m) (s : Mo S H H') (hS : ∀ b, b < H.size → G b → ¬ S b) : MapOf G H' fk fv v m := by
  obtain ⟨r, es, clock, h1, h2, h3, h4⟩ := h.ex
  have hlt := (Array.getElem?_eq_some_iff.1 h3).1
  exact ⟨r, es, clock, h1, h2, by rw [s.same r hlt (hS r hlt h2)]; exact h3, h4⟩
theorem MapOf.nw (h : MapOf G H fk fv v m) (s : Nw H H') : MapOf G H' fk fv v m := h.up s (fun _ _ _ e => e)
theorem MapOf.imp {G' : Nat → Prop} (h : MapOf G H fk fv v m) (hG : ∀ b, b < H.size → G b → G' b) : MapOf G' H fk fv v m := by
  obtain ⟨r, es, clock, h1, h2, h3, h4⟩ := h.ex
  exact ⟨r, es, clock, h1, hG r (Array.getElem?_eq_some_iff.1 h3).1 h2, h3, h4⟩
theorem MapOf.size (h : MapOf G H fk fv v m) : ∃ r es clock, v = .map (some r) ∧ H[r]? = some (.map es clock) ∧ es.size = m.length := by
  obtain ⟨r, es, clock, h1, h2, h3, h4, h5⟩ := h.ex
  refine ⟨r, es, clock, h1, h3, ?_⟩
  have := congrArg List.length h5
  simpa using this
theorem MapOf.nodup (h : MapOf G H fk fv v m) : (m.map (·.1)).Nodup := by
  obtain ⟨r, es, clock, h1, h2, h3, h4, h5⟩ := h.ex
  have h6 := h4.2.2
  have : es.toList.map (·.key) = (m.map (·.1)).map fk := by
    have := congrArg (List.map Prod.fst) h5
    simpa [Function.comp_def] using this
  rw [this, List.nodup_iff_pairwise_ne, List.pairwise_map] at h6
  rw [List.nodup_iff_pairwise_ne]
  exact h6.imp (fun hne e => hne (by rw [e]))
theorem MapOf.keys (h : MapOf G H fk fv v m) {r : Nat} {es : Array MapEntry} {clock : Nat} (hv : v = .map (some r)) (hb : H[r]? = some (.map es clock)) : es.toList.map (fun e => (e.key, e.val)) = m.map (fun p => (fk p.1, fv p.2)) ∧ Stamped es clock := by
  obtain ⟨r', es', clock', h1, h2, h3, h4, h5⟩ := h.ex
  rw [hv] at h1
  simp only [Value.map.injEq, Option.some.injEq] at h1
  subst h1
  rw [hb] at h3
  simp only [Option.some.injEq, Obj.map.injEq] at h3
  obtain ⟨rfl, rfl⟩ := h3
  exact ⟨h5, h4⟩
end

theorem MapOf.lt {κ β : Type} {G : Nat → Prop} {H : Heap} {fk : κ → Value} {fv : β → Value} {v : Value} {m : List (κ × β)} (h : MapOf G H fk fv v m) : MapOf (fun b => b = blk v ∧ b < H.size) H fk fv v m := by
  obtain ⟨r, es, clock, h1, h2, h3, h4⟩ := h.ex
  exact ⟨r, es, clock, h1, ⟨by rw [h1]; rfl, (Array.getElem?_eq_some_iff.1 h3).1⟩, h3, h4⟩
theorem MapOf.blk_lt {κ β : Type} {G : Nat → Prop} {H : Heap} {fk : κ → Value} {fv : β → Value} {v : Value} {m : List (κ × β)} (h : MapOf G H fk fv v m) : blk v < H.size := by
  obtain ⟨r, es, clock, rfl, h2, h3, h4⟩ := h.ex
  exact (Array.getElem?_eq_some_iff.1 h3).1
/-- what a list of keys and values has for a key -/
def mget {κ β : Type} [DecidableEq κ] : List (κ × β) → κ → Option β
  | [], _ => none
  | p :: m, k => if k = p.1 then some p.2 else mget m k

/-- what a key is, and that two keys are one value only where they are one -/
structure KeyFn {κ : Type} (d : TypeDesc) (fk : κ → Value) : Prop where
  key : ∀ k, IsKey d (fk k)
  inj : ∀ a b, fk a = fk b → a = b
def mput {κ β : Type} [DecidableEq κ] (m : List (κ × β)) (k : κ) (b : β) : List (κ × β) := if (mget m k).isSome then m.map (fun p => if p.1 = k then (p.1, b) else p) else m ++ [(k, b)]

section
variable {P : Program} {w0 : World} {n : Nat} {l : FL} {H : Heap} {o : Oper}
variable {κ β : Type} [DecidableEq κ] {G : Nat → Prop} {fk : κ → Value} {fv : β → Value} {v : Value} {m : List (κ × β)} {d : TypeDesc}

theorem find_entries {k : κ} (hfk : KeyFn d fk) : ∀ (es : List MapEntry) (m : List (κ × β)) (i : Nat), es.map (fun e => (e.key, e.val)) = m.map (fun p => (fk p.1, fv p.2)) →
    (mget m k = none ∧ Instr.findNow d (fk k) es i = some none ∧ ∀ x ∈ es, x.key ≠ fk k) ∨ ∃ j e b, mget m k = some b ∧ Instr.findNow d (fk k) es i = some (some (i + j, fv b)) ∧ es[j]? = some e ∧ e.key = fk k ∧ e.val = fv b
  | [], m, i, h => by
    have : m = [] := by cases m <;> simp_all
    subst this
    exact .inl ⟨rfl, rfl, by simp⟩
  | e :: es, m, i, h => by
    match m, h with
    | (a, b) :: m, h =>
      simp only [List.map_cons, List.cons.injEq, Prod.mk.injEq] at h
      obtain ⟨⟨h1, h2⟩, h3⟩ := h
      obtain ⟨r, hr, hiff⟩ := sameNow_of_keys (hfk.key k) (b := e.key) (by rw [h1]; exact hfk.key a)
      cases r with
      | true =>
        have hk : k = a := hfk.inj _ _ (by rw [hiff.1 rfl, h1])
        subst hk
        exact .inr ⟨0, e, b, by simp [mget], by simp [Instr.findNow, hr, h2], rfl, h1, h2⟩
      | false =>
        have hne : k ≠ a := fun q => by subst q; have := hiff.2 h1.symm; cases this
        rcases find_entries (k := k) hfk es m (i + 1) h3 with ⟨q1, q2, q3⟩ | ⟨j, e', b', q1, q2, q3, q4, q5⟩
        · refine .inl ⟨?_, by simp [Instr.findNow, hr, q2], ?_⟩
          · simp only [mget, hne, if_false]; exact q1
          · intro x hx
            cases hx with
            | head => intro q; exact hne (hfk.inj _ _ (by rw [← q, h1]))
            | tail _ hx => exact q3 x hx
        · refine .inr ⟨j + 1, e', b', ?_, ?_, by simpa using q3, q4, q5⟩
          · simp only [mget, hne, if_false]; exact q1
          · simp [Instr.findNow, hr, q2]; omega

theorem Z.makeMap {t : TypeId} (ho : o.op = .makeMap t none) : Z P w0 n l H o (fun r H' => MapOf (fun b => b = H.size) H' fk fv r ([] : List (κ × β)) ∧ Nw H H') := by
  intro a w hf ha
  refine ⟨.map (some w.heap.size), H.push (.map #[] 0), w.alloc (.map #[] 0), ?_, ha.alloc _, ⟨w.heap.size, #[], 0, rfl, by rw [ha.heap], ?_, stamped_empty 0, rfl⟩, Nw.pu _ _⟩
  · simp [execOp, ho, Instr.makeMap]
  · rw [ha.heap]; simp

theorem run_lookup {w : World} {t kt et : TypeId} {z : Value} {k : κ} {ok : Bool} (h : MapOf G H fk fv v m) (hfk : KeyFn d fk) (ha : At w0 H w) (hm : ∀ w, (underlying t).run P w = .ok (.map kt et) w) (hk : P.underlying kt = some d) (hz : ∀ w, (zeroValue et).run P w = .ok z w) :
    (Instr.lookup t v (fk k) ok).run P w = .ok (if ok then .tuple #[(match mget m k with | some b => fv b | none => z), .bool (mget m k).isSome] else (match mget m k with | some b => fv b | none => z)) w := by
  obtain ⟨r, es, clock, rfl, h2, h3, h4, h5⟩ := h.ex
  have h3' : w.heap[r]? = some (.map es clock) := by rw [ha.heap]; exact h3
  rcases find_entries (k := k) hfk es.toList m 0 h5 with ⟨q1, q2, q3⟩ | ⟨j, e', b', q1, q2, q3, q4, q5⟩
  · simp [Instr.lookup, hm, MapKept.run_getObj_map h3', MapKept.run_checkKey hk (hfk.key k), MapKept.run_findKey hk q2, q1, hz]
  · simp [Instr.lookup, hm, MapKept.run_getObj_map h3', MapKept.run_checkKey hk (hfk.key k), MapKept.run_findKey hk q2, q1]

theorem Y.lookup {t kt et : TypeId} {x i : Operand} {k : κ} {z0 : β} (h : MapOf G H fk fv v m) (hfk : KeyFn d fk) (ho : o.op = .lookup t x i false) (hm : ∀ w, (underlying t).run P w = .ok (.map kt et) w) (hk : P.underlying kt = some d) (hz : ∀ w, (zeroValue et).run P w = .ok (fv z0) w)
    (hx : opv l x = some v) (hi : opv l i = some (fk k)) : Y P w0 n l H o (fv ((mget m k).getD z0)) := by
  intro ac w hf ha
  have hr := run_lookup (k := k) (ok := false) h hfk ha hm hk hz
  have : (match mget m k with | some b => fv b | none => fv z0) = fv ((mget m k).getD z0) := by cases mget m k <;> rfl
  rw [this] at hr
  simp [execOp, ho, hf.eval hx, hf.eval hi, hr]
theorem Y.mlen {x : Operand} {t kt et : TypeId} (h : MapOf G H fk fv v m) (ho : o.op = .call { callee := .builtin .len, args := #[x], argTypes := #[t] }) (ht : ∀ w, (underlying t).run P w = .ok (.map kt et) w) (hx : opv l x = some v) : Y P w0 n l H o (.int .i64 m.length) := by
  obtain ⟨r, es, clock, rfl, h2, h3⟩ := h.size
  intro ac w hf ha
  have h2' : w.heap[r]? = some (.map es clock) := by rw [ha.heap]; exact h2
  simp [execOp, ho, hf.eval hx, resolve, invoke, builtin, Builtin.len_, ht, goInt, MapKept.run_getObj_map h2', h3]

theorem modify_entries {k : κ} {b : β} {key : Value} (hfk : KeyFn d fk) (hkey : key = fk k) : ∀ (es : List MapEntry) (m : List (κ × β)) (j : Nat) (e : MapEntry), es.map (fun e => (e.key, e.val)) = m.map (fun p => (fk p.1, fv p.2)) → (es.map (·.key)).Nodup → es[j]? = some e → e.key = fk k →
    (es.modify j (fun e => { e with key := key, val := fv b })).map (fun e => (e.key, e.val)) = (m.map (fun p => if p.1 = k then (p.1, b) else p)).map (fun p => (fk p.1, fv p.2))
  | [], _, _, _, _, _, h, _ => by simp at h
  | x :: es, m, j, e, h, hn, hj, he => by
    match m, h with
    | (a, c) :: m, h =>
      simp only [List.map_cons, List.cons.injEq, Prod.mk.injEq] at h
      obtain ⟨⟨h1, h2⟩, h3⟩ := h
      simp only [List.map_cons, List.nodup_cons] at hn
      cases j with
      | zero =>
        simp only [List.getElem?_cons_zero, Option.some.injEq] at hj
        subst hj
        have hak : a = k := hfk.inj _ _ (by rw [← h1, he])
        subst hak
        simp only [List.modify_zero_cons, List.map_cons, if_true, hkey]
        congr 1
        rw [h3, List.map_map]
        apply List.map_congr_left
        intro p hp
        have : p.1 ≠ a := by
          intro e
          apply hn.1
          have : (fk p.1, fv p.2) ∈ es.map (fun e => (e.key, e.val)) := by rw [h3]; exact List.mem_map.2 ⟨p, hp, rfl⟩
          obtain ⟨y, hy, hye⟩ := List.mem_map.1 this
          simp only [Prod.mk.injEq] at hye
          exact List.mem_map.2 ⟨y, hy, by rw [hye.1, e, h1]⟩
        simp [this]
      | succ j =>
        simp only [List.getElem?_cons_succ] at hj
        have hak : a ≠ k := by
          intro q
          subst q
          apply hn.1
          rw [h1, ← he]
          exact List.mem_map.2 ⟨e, List.mem_of_getElem? hj, rfl⟩
        simp only [List.modify_succ_cons, List.map_cons, hak, if_false, h1, h2]
        rw [modify_entries hfk hkey es m j e h3 hn.2 hj he]

theorem S.mapUpdate {t kt et : TypeId} {x i y : Operand} {k : κ} {b : β} (h : MapOf G H fk fv v m) (hfk : KeyFn d fk) (ho : o.op = .mapUpdate t x i y) (hm : ∀ w, (underlying t).run P w = .ok (.map kt et) w) (hk : P.underlying kt = some d)
    (hx : opv l x = some v) (hi : opv l i = some (fk k)) (hy : opv l y = some (fv b)) : S P w0 n l H o (fun H' => MapOf G H' fk fv v (mput m k b) ∧ Mo (fun c => c = blk v) H H') := by
  intro ac w hf ha
  obtain ⟨r, es, clock, hv, h2, h3, h4, h5⟩ := h.ex
  have h3' : w.heap[r]? = some (.map es clock) := by rw [ha.heap]; exact h3
  have hblk : blk v = r := by rw [hv]; rfl
  have hlt := (Array.getElem?_eq_some_iff.1 h3).1
  have hmo : ∀ ob, Mo (fun c => c = blk v) H (H.setIfInBounds r ob) := fun ob => ⟨by simp, fun b hb hne => by rw [hblk] at hne; simp [Ne.symm hne]⟩
  have hget : ∀ ob, (H.setIfInBounds r ob)[r]? = some ob := fun ob => by simp [hlt]
  rcases find_entries (k := k) hfk es.toList m 0 h5 with ⟨q1, q2, q3⟩ | ⟨j, e', b', q1, q2, q3, q4, q5⟩
  · refine ⟨H.setIfInBounds r (.map (es.push { key := fk k, val := fv b, born := clock }) (clock + 1)), { w with heap := H.setIfInBounds r (.map (es.push { key := fk k, val := fv b, born := clock }) (clock + 1)) }, ?_, ha.set, ⟨r, _, _, hv, h2, hget _, stamped_push h4 q3, ?_⟩, hmo _⟩
    · simp [execOp, ho, hf.eval hx, hf.eval hi, hf.eval hy, hv, Instr.mapUpdate, hm, MapKept.run_getObj_map h3', MapKept.run_checkKey hk (hfk.key k), MapKept.run_findKey hk q2, MapKept.run_setObj_map _ h3', ha.heap]
    · simp [mput, q1, h5]
  · have hj : es[j]? = some e' := by simpa using q3
    have hkey : ∀ e, es[j]? = some e → ({ e with key := fk k, val := fv b } : MapEntry).key = e.key := fun e he => by rw [hj] at he; cases he; exact q4.symm
    refine ⟨H.setIfInBounds r (.map (es.modify j fun e => { e with key := fk k, val := fv b }) clock), { w with heap := H.setIfInBounds r (.map (es.modify j fun e => { e with key := fk k, val := fv b }) clock) }, ?_, ha.set, ⟨r, _, _, hv, h2, hget _, stamped_modify h4 _ _ (fun _ _ => rfl) (fun e _ he => hkey e he), ?_⟩, hmo _⟩
    · simp [execOp, ho, hf.eval hx, hf.eval hi, hf.eval hy, hv, Instr.mapUpdate, hm, MapKept.run_getObj_map h3', MapKept.run_checkKey hk (hfk.key k), MapKept.run_findKey hk q2, hj, q4, MapKept.run_keyThatStays (hfk.key k), MapKept.run_setObj_map _ h3', ha.heap]
    · have := modify_entries (fv := fv) (b := b) hfk rfl es.toList m j e' h5 h4.2.2 q3 q4
      rw [Array.toList_modify, this]
      simp [mput, q1]

/-! new rows of a size -/
theorem Z.makeSlice {α : Type} {f : α → List Value} {sz bytes : Nat} {t e : TypeId} {x c : Operand} {kl kc : IntKind} {lv : Int} {z : Value} (k : Nat) (z0 : α) (ho : o.op = .makeSlice t x c) (hinf : Inf P t e sz bytes) (hz : ∀ w, (zeroValue e).run P w = .ok z w) (hz0 : f z0 = z.cells.toList)
    (hc : ∀ x, (f x).length = sz) (h1 : ∀ x, ∀ u ∈ f x, u.oneCell' = true) (hx : opv l x = some (.int kl lv)) (hcc : opv l c = some (.int kc lv)) (hk : lv = k) (hb : (bytes : Int) * k ≤ 281474976710656) (hk2 : k ≤ 9223372036854775807) :
    Z P w0 n l H o (fun r H' => Own (fun b => b = H.size) e H' f sz r (List.replicate k z0) ∧ Nw H H' ∧ ∃ ob, H' = H.push ob) := by
  obtain ⟨ht, i, z', hi, hz', hsz, hby, hzs⟩ := hinf
  intro ac w hf ha
  subst hk
  have hzz : z' = z := by
    have h1 := hz w
    simp [zeroValue, typeInfo, hi, hz'] at h1
    exact h1
  subst hzz
  have hr := run_make (P := P) w t e i z' ht hi hz' kl kc (k : Int) k (by omega) (by omega) (by rw [hby]; exact hb) (by omega)
  simp only [Int.toNat_natCast, hsz] at hr
  refine ⟨.slice (some ⟨w.heap.size, 0, none⟩) k k, H.push (.cells (madeCells z'.cells (k * sz)) e), w.alloc (.cells (madeCells z'.cells (k * sz)) e), ?_, ha.alloc _, ⟨hc, h1, .inr ⟨w.heap.size, k, madeCells z'.cells (k * sz), by simp, ha.heap ▸ rfl, .of (by rw [ha.heap]; simp), by simp, by unfold maxLen; omega, size_madeCells _ _, ?_⟩⟩, Nw.pu _ _, _, rfl⟩
  · simp [execOp, ho, hf.eval hx, hf.eval hcc, hr]
  · rw [List.length_replicate, List.take_of_length_le (by simp [size_madeCells])]
    apply List.ext_getElem?
    intro q
    by_cases hq : q < k * sz
    · have hszp : 0 < sz := by rcases Nat.eq_zero_or_pos sz with h | h; · subst h; simp at hq
                               · exact h
      have hdiv : q / sz < k := Nat.div_lt_of_lt_mul (by rw [Nat.mul_comm]; exact hq)
      have hmod := Nat.mod_lt q hszp
      have hg := get_flatMap hc (List.replicate k z0) (q / sz) (q % sz) z0 (z'.cells[q % sz]'(by rw [hzs]; exact hmod)) (by simp [hdiv]) (by rw [hz0]; simp [hzs, hmod])
      have hqq : q / sz * sz + q % sz = q := by rw [Nat.mul_comm]; exact Nat.div_add_mod q sz
      rw [hqq] at hg
      rw [hg]
      simp only [madeCells, hzs, Array.getElem?_toList]
      rw [Array.getElem?_map, Array.getElem?_range, if_pos hq]
      simp [hzs, hmod]
    · rw [List.getElem?_eq_none (by simp [size_madeCells]; omega), List.getElem?_eq_none (by rw [length_flatMap hc, List.length_replicate]; omega)]
end
end Go.Proofs.Ytepdhokpfecdnaa.E
/-
  Rules for variables behind pointers, stores of whole structs, bytes turned to texts and back, copies, full slices: no condition.
-/
namespace Go.Proofs.Ytepdhokpfecdnaa.E
set_option linter.unusedVariables false
set_option linter.unusedSimpArgs false
set_option linter.unusedSectionVars false

/-- the block b is a variable of type e, of these cells -/
structure Var (e : TypeId) (H : Heap) (b : Nat) (cs : List Value) : Prop where
  row : Row H b cs.toArray e

theorem Var.lt {e : TypeId} {H : Heap} {b : Nat} {cs : List Value} (h : Var e H b cs) : b < H.size := h.row.lt
theorem Var.up {e : TypeId} {H H' : Heap} {b : Nat} {cs : List Value} {S : Nat → Prop} (h : Var e H b cs) (s : Mo S H H') (hS : ¬ S b) : Var e H' b cs := ⟨h.row.up (s.same b h.lt hS)⟩
theorem Var.nw {e : TypeId} {H H' : Heap} {b : Nat} {cs : List Value} (h : Var e H b cs) (s : Nw H H') : Var e H' b cs := h.up s (fun e => e)
theorem Var.pt {e : TypeId} {H : Heap} {b : Nat} {cs : List Value} (h : Var e H b cs) : Pt H ⟨b, 0, none⟩ cs :=
  ⟨rfl, fun j c hc => by simp only [Nat.zero_add]; rw [h.row.cell]; simpa using hc⟩
theorem Var.new (H : Heap) (cs : Array Value) (t : TypeId) : Var t (H.push (.cells cs t)) H.size cs.toList := ⟨.of (by simp)⟩

/-- the cells vs are written at i -/
def splice (cs : List Value) (i : Nat) (vs : List Value) : List Value := cs.take i ++ vs ++ cs.drop (i + vs.length)
theorem splice_length {cs : List Value} {i : Nat} {vs : List Value} (h : i + vs.length ≤ cs.length) : (splice cs i vs).length = cs.length := by
  simp [splice]; omega

section
variable {P : Program} {w0 : World} {n : Nat} {l : FL} {H : Heap} {o : Oper}

theorem Z.allocv {t : TypeId} {z : Value} (ho : o.op = .alloc t) (hz : ∀ w, (zeroValue t).run P w = .ok z w) : Z P w0 n l H o (fun v H' => v = .pointer (some ⟨H.size, 0, none⟩) ∧ Var t H' H.size z.cells.toList ∧ Nw H H' ∧ ∃ ob, H' = H.push ob) := by
  intro a w hf ha
  obtain ⟨v, H', w', h1, h2, h3, h4⟩ := Z.alloc (P := P) (w0 := w0) (n := n) (l := l) (H := H) ho hz a w hf ha
  subst h4
  exact ⟨v, _, w', h1, h2, h3, Var.new _ _ _, Nw.pu _ _, _, rfl⟩
theorem Z.boxv {t : TypeId} {x : Operand} {v : Value} (ho : o.op = .box t x) (hx : opv l x = some v) : Z P w0 n l H o (fun r H' => r = .pointer (some ⟨H.size, 0, none⟩) ∧ Var t H' H.size v.cells.toList ∧ Nw H H' ∧ ∃ ob, H' = H.push ob) := by
  intro a w hf ha
  obtain ⟨v, H', w', h1, h2, h3, h4⟩ := Z.box (P := P) (w0 := w0) (n := n) (H := H) ho hx a w hf ha
  subst h4
  exact ⟨v, _, w', h1, h2, h3, Var.new _ _ _, Nw.pu _ _, _, rfl⟩

theorem cells_one {v : Value} (h : v.oneCell' = true) : v.cells.toList = [v] := by cases v <;> first | (simp [Value.oneCell'] at h; done) | rfl
theorem Z.boxv1 {t : TypeId} {x : Operand} {v : Value} (ho : o.op = .box t x) (hx : opv l x = some v) (h1 : v.oneCell' = true) : Z P w0 n l H o (fun r H' => r = .pointer (some ⟨H.size, 0, none⟩) ∧ Var t H' H.size [v] ∧ Nw H H' ∧ ∃ ob, H' = H.push ob) := by
  intro a w hf ha
  obtain ⟨r, H', w', q1, q2, q3, q4, q5, q6⟩ := Z.boxv (P := P) (w0 := w0) (n := n) (H := H) ho hx a w hf ha
  rw [cells_one h1] at q4
  exact ⟨r, H', w', q1, q2, q3, q4, q5, q6⟩

theorem At.row {w : World} (ha : At w0 H w) (g : Nat) (c : Array Value) : At w0 (w.setRow g c).heap (w.setRow g c) := ⟨rfl, ha.os, ha.tape, ha.output, ha.dr⟩
theorem setRow_mo {w : World} (ha : At w0 H w) (g : Nat) (c : Array Value) : Mo (fun b => b = g) H (w.setRow g c).heap :=
  ⟨by rw [← ha.heap]; simp [World.setRow], fun b hb hn => by rw [← ha.heap]; exact setRow_other w g b _ (fun e => hn e)⟩
theorem setRow_row {w : World} (ha : At w0 H w) {g : Nat} {cur c : Array Value} {e : TypeId} (h : Row H g cur e) (hc : c.size = cur.size) : Row (w.setRow g c).heap g c e := by
  obtain ⟨fz, h1, h2⟩ := h
  exact ⟨fz, setRow_heap w g cur _ e _ (by rw [ha.heap]; exact h1), by rw [hc]; exact h2⟩

/-- a store of a whole value into a block of cells -/
theorem S.cells {x y : Operand} {t : TypeId} {b i k : Nat} {c : Value} {cs : Array Value} {e : TypeId} (ho : o.op = .store t x y) (hx : opv l x = some (.pointer (some ⟨b, i, none⟩))) (hy : opv l y = some c) (h1 : ∀ u ∈ c.cells.toList, u.oneCell' = true)
    (hs : ∀ w, (sizeOf t).run P w = .ok k w) (hk : c.cells.size = k) (hb : Row H b cs e) (hi : i + k ≤ cs.size) : S P w0 n l H o (fun H' => Row H' b (splice cs.toList i c.cells.toList).toArray e ∧ Mo (fun g => g = b) H H') := by
  intro a w hf ha
  obtain ⟨fz, hb1, hb2⟩ := id hb
  have hr := run_storeCells_soft P b i e fz c.cells.toList 0 cs w (by rw [ha.heap]; exact hb1) hb2 (by simp [hk]; omega) h1
  simp only [Nat.add_zero] at hr
  refine ⟨_, w.setRow b (splice cs.toList i c.cells.toList).toArray, ?_, ha.row _ _, setRow_row ha hb (by simp [splice, hk]; omega), setRow_mo ha _ _⟩
  simp [execOp, ho, hf.eval hx, hf.eval hy, Instr.storeAt, Instr.sureAddr, storeVar, hk, hs, hr, splice]

theorem S.var {x y : Operand} {t : TypeId} {b i k : Nat} {c : Value} {cs : List Value} {e : TypeId} (h : Var e H b cs) (vs cs' : List Value) (ho : o.op = .store t x y) (hx : opv l x = some (.pointer (some ⟨b, i, none⟩))) (hy : opv l y = some c) (hc : c.cells.toList = vs) (h1 : ∀ u ∈ vs, u.oneCell' = true)
    (hs : ∀ w, (sizeOf t).run P w = .ok k w) (hk : vs.length = k) (hi : i + k ≤ cs.length) (hz : splice cs i vs = cs') : S P w0 n l H o (fun H' => Var e H' b cs' ∧ Mo (fun g => g = b) H H') := by
  subst hc hz
  intro a w hf ha
  obtain ⟨H', w', q1, q2, q3, q4⟩ := S.cells (P := P) (w0 := w0) (n := n) ho hx hy h1 hs (by simpa using hk) h.row (by simpa using hi) a w hf ha
  exact ⟨H', w', q1, q2, ⟨q3⟩, q4⟩

theorem splice_one {cs : List Value} {i : Nat} {c : Value} (h : i < cs.length) : splice cs i [c] = cs.set i c := by
  simp [splice, List.set_eq_take_append_cons_drop, h]
theorem S.var1 {x y : Operand} {t : TypeId} {b : Nat} {c : Value} {cs : List Value} {e : TypeId} (h : Var e H b cs) (i : Nat) (cs' : List Value) (ho : o.op = .store t x y) (hx : opv l x = some (.pointer (some ⟨b, i, none⟩))) (hy : opv l y = some c) (h1 : c.oneCell' = true)
    (hs : ∀ w, (sizeOf t).run P w = .ok 1 w) (hi : i < cs.length) (hz : cs.set i c = cs') : S P w0 n l H o (fun H' => Var e H' b cs' ∧ Mo (fun g => g = b) H H') :=
  S.var h [c] cs' ho hx hy (cells_one h1) (by simpa using h1) hs rfl (by omega) ((splice_one hi).trans hz)

section
variable {α : Type} {G F : Nat → Prop} {e : TypeId} {f : α → List Value} {sz : Nat} {v : Value} {xs ys : List α}

/-- the front of a row that is owned is owned -/
theorem Own.front {cap : Nat} {ad : Option Addr} {k : Nat} (h : Own G e H f sz (.slice ad xs.length cap) xs) (hk : k ≤ xs.length) (hne : xs ≠ []) : Own G e H f sz (.slice ad k cap) (xs.take k) := by
  refine ⟨h.cells, h.one, ?_⟩
  rcases h.ex with ⟨_, rfl⟩ | ⟨g, cap', cur, hv, hg, hh, r1, r2, r3, r4⟩
  · exact absurd rfl hne
  · simp only [Value.slice.injEq, true_and] at hv
    obtain ⟨rfl, rfl⟩ := hv
    have hl : (xs.take k).length = k := by simp; omega
    refine .inr ⟨g, cap, cur, by rw [hl], hg, hh, by omega, r2, r3, ?_⟩
    rw [hl]
    have : (xs.take k).flatMap f = (xs.flatMap f).take (k * sz) := by
      have h2 : xs.flatMap f = (xs.take k).flatMap f ++ (xs.drop k).flatMap f := by rw [← List.flatMap_append, List.take_append_drop]
      rw [h2, ← hl, ← length_flatMap h.cells (xs.take k), hl]
      rw [List.take_left]
    rw [this, ← r4, List.take_take]
    congr 1
    exact (Nat.min_eq_left (Nat.mul_le_mul_right _ hk)).symm

end

/-! bytes and texts -/
theorem flatMap_fB (l : List UInt8) : l.flatMap fB = l.map (fun b => Value.int .u8 b.toNat) := by
  induction l with
  | nil => rfl
  | cons b l ih => simp [ih]
end
end Go.Proofs.Ytepdhokpfecdnaa.E
/-
  Owned rows whose block is told by a number: for program-printed bookkeeping: no condition.
-/
namespace Go.Proofs.Ytepdhokpfecdnaa.E
set_option linter.unusedVariables false
set_option linter.unusedSimpArgs false
set_option linter.unusedSectionVars false

/-- a row that is ours alone; k: its block's number and one; 0: it has none -/
structure Ow {α : Type} (k : Nat) (e : TypeId) (H : Heap) (f : α → List Value) (sz : Nat) (v : Value) (l : List α) : Prop where
  own : Own (fun b => b + 1 = k) e H f sz v l
  le : k ≤ H.size

section
variable {α : Type} {k : Nat} {e : TypeId} {H H' : Heap} {f : α → List Value} {sz : Nat} {v : Value} {l : List α}
theorem Ow.rd (h : Ow k e H f sz v l) : Rd (fun b => b + 1 = k) H f sz v l := h.own.rd
theorem Ow.len (h : Ow k e H f sz v l) : l.length ≤ 9223372036854775807 := h.own.len
theorem Ow.sv (h : Ow k e H f sz v l) : (toSV v).v = v := h.own.sv
theorem Ow.up {S : Nat → Prop} (h : Ow k e H f sz v l) (s : Mo S H H') (hS : ∀ b, b < H.size → b + 1 = k → ¬ S b) : Ow k e H' f sz v l := ⟨h.own.up s hS, Nat.le_trans h.le s.size⟩
theorem Ow.nw (h : Ow k e H f sz v l) (s : Nw H H') : Ow k e H' f sz v l := h.up s (fun _ _ _ e => e)
theorem Ow.nil (hf : ∀ x, (f x).length = sz) (h1 : ∀ x, ∀ u ∈ f x, u.oneCell' = true) : Ow 0 e H f sz (.slice none 0 0) ([] : List α) := ⟨Own.nil hf h1, Nat.zero_le _⟩
theorem Ow.of {G : Nat → Prop} (h : Own G e H f sz v l) : ∃ k, Ow k e H f sz v l ∧ (k = 0 ∨ ∃ g, k = g + 1 ∧ G g) := by
  rcases h.ex with ⟨rfl, rfl⟩ | ⟨g, cap, cur, hv, hg, hh, r⟩
  · exact ⟨0, ⟨⟨h.cells, h.one, .inl ⟨rfl, rfl⟩⟩, Nat.zero_le _⟩, .inl rfl⟩
  · exact ⟨g + 1, ⟨⟨h.cells, h.one, .inr ⟨g, cap, cur, hv, rfl, hh, r⟩⟩, hh.lt⟩, .inr ⟨g, rfl, hg⟩⟩
theorem Ow.at {j : Nat} (h : Ow k e H f sz v l) (hj : j < l.length) : blk v + 1 = k := (h.own.at hj).1
theorem Ow.pt {j : Nat} (h : Ow k e H f sz v l) (hj : j < l.length) : Pt H ⟨blk v, j * sz, none⟩ (f l[j]) := h.own.pt hj
end


/-! ### bookkeeping by terms: numbers of blocks (and one), apart or not -/
def Dj (a b : Nat) : Prop := ∀ c, c + 1 = a → c + 1 ≠ b
def Nx (k h k2 : Nat) : Prop := k2 = 0 ∨ k2 = k ∨ h < k2
/-- the blocks with these numbers -/
def Ms (ks : List Nat) : Nat → Prop := fun c => c + 1 ∈ ks
def DL (a : Nat) (ks : List Nat) : Prop := ∀ k ∈ ks, Dj a k
def DF (F : Nat → Prop) (k : Nat) : Prop := ∀ b, F b → b + 1 ≠ k
def BF (F : Nat → Prop) (h : Nat) : Prop := ∀ b, F b → b < h
def DFL (F : Nat → Prop) (ks : List Nat) : Prop := ∀ k ∈ ks, DF F k
/-- below h the block with number k is one of those -/
def MI (ks : List Nat) (h k : Nat) : Prop := ∀ b, b < h → b + 1 = k → Ms ks b
def MIL (ks : List Nat) (h : Nat) (js : List Nat) : Prop := ∀ k ∈ js, MI ks h k
section
variable {a b k k2 k3 h h2 : Nat} {ks js : List Nat} {F : Nat → Prop}
theorem Dj.symm (d : Dj a b) : Dj b a := fun c h1 h2 => d c h2 h1
theorem Dj.new (ha : a ≤ h) : Dj a (h + 1) := fun c h1 h2 => by omega
theorem Dj.z : Dj a 0 := fun c h1 h2 => by omega
theorem Dj.z2 : Dj 0 a := fun c h1 h2 => by omega
theorem Dj.app (d : Dj a k) (ha : a ≤ h) (hk : Nx k h k2) : Dj a k2 := fun c h1 h2 => by
  rcases hk with rfl | rfl | hk
  · omega
  · exact d c h1 h2
  · omega
theorem Dj.ne (d : Dj (a + 1) (b + 1)) : a ≠ b := fun e => d a rfl (by rw [e])
theorem Dj.of (d : a ≠ b) : Dj (a + 1) (b + 1) := fun c h1 h2 => by omega
theorem Nx.refl (k h : Nat) : Nx k h k := .inr (.inl rfl)
theorem Nx.new (hh : h ≤ h2) : Nx 0 h (h2 + 1) := .inr (.inr (by omega))
theorem Nx.tr (x : Nx k h k2) (y : Nx k2 h2 k3) (hh : h ≤ h2) : Nx k h k3 := by
  unfold Nx at *; omega
theorem Nx.lt (x : Nx 0 h k) (h0 : k ≠ 0) : h < k := by unfold Nx at x; omega
theorem DL.nil : DL a [] := fun k hk => by cases hk
theorem DL.cons (d : Dj a k) (e : DL a ks) : DL a (k :: ks) := fun j hj => by
  rcases List.mem_cons.1 hj with rfl | hj
  · exact d
  · exact e j hj
theorem DFL.nil : DFL F [] := fun k hk => by cases hk
theorem DFL.cons (d : DF F k) (e : DFL F ks) : DFL F (k :: ks) := fun j hj => by
  rcases List.mem_cons.1 hj with rfl | hj
  · exact d
  · exact e j hj
theorem DF.new (hb : BF F h) : DF F (h + 1) := fun b h1 h2 => by have := hb b h1; omega
theorem DF.z : DF F 0 := fun b h1 h2 => by omega
theorem DF.app (d : DF F k) (hb : BF F h) (hk : Nx k h k2) : DF F k2 := fun b h1 h2 => by
  have := hb b h1
  rcases hk with rfl | rfl | hk
  · omega
  · exact d b h1 h2
  · omega
theorem BF.of (le : k ≤ h) : BF (fun b => b + 1 = k) h := fun b e => by simp only at e; omega
theorem DF.of (d : Dj a k) : DF (fun b => b + 1 = a) k := fun b e => d (b + 1 - 1) (by simp only at e; omega)
theorem BF.mono (hb : BF F h) (hh : h ≤ h2) : BF F h2 := fun b h1 => Nat.lt_of_lt_of_le (hb b h1) hh
theorem MI.root (hm : k ∈ ks) : MI ks h k := fun b _ h2 => by unfold Ms; rw [h2]; exact hm
theorem MI.z : MI ks h 0 := fun b h1 h2 => by omega
theorem MI.new (hh : h ≤ h2) : MI ks h (h2 + 1) := fun b h1 h3 => by omega
theorem MI.app (x : MI ks h k) (hk : Nx k h2 k2) (hh : h ≤ h2) : MI ks h k2 := fun b h1 h3 => by
  rcases hk with rfl | rfl | hk
  · omega
  · exact x b h1 h3
  · omega
theorem MIL.nil : MIL ks h [] := fun k hk => by cases hk
theorem MIL.cons (d : MI ks h k) (e : MIL ks h js) : MIL ks h (k :: js) := fun j hj => by
  rcases List.mem_cons.1 hj with rfl | hj
  · exact d
  · exact e j hj
theorem Mo.md {H H' : Heap} (s : Mo (fun b => b + 1 = k) H H') : Mo (Ms [k]) H H' := s.weaken (fun b _ e => by unfold Ms; simp; exact e)
theorem Mo.md1 {H H' : Heap} (s : Mo (fun g => g = b) H H') : Mo (Ms [b + 1]) H H' := s.weaken (fun c _ e => by unfold Ms; simp; exact e)
theorem Mo.mdn {H H' : Heap} (s : Nw H H') (ks : List Nat) : Mo (Ms ks) H H' := s.weaken (fun c _ e => e.elim)
theorem Mo.nil {H H' : Heap} (s : Mo (Ms []) H H') : Nw H H' := s.weaken (fun c _ e => by cases e)
theorem Mo.trL {H0 H H' : Heap} (x : Mo (Ms ks) H0 H) (s : Mo (Ms js) H H') (d : MIL ks H0.size js) : Mo (Ms ks) H0 H' :=
  Mo.trans x s (fun _ _ e => e) (fun b hb e => d (b + 1) e b hb rfl)
theorem Mo.trN {H0 H H' : Heap} (x : Mo (Ms ks) H0 H) (s : Nw H H') : Mo (Ms ks) H0 H' := Mo.trans x s (fun _ _ e => e) (fun _ _ e => e.elim)
theorem Ow.upL {α : Type} {e : TypeId} {H H' : Heap} {f : α → List Value} {sz : Nat} {v : Value} {l : List α} (x : Ow a e H f sz v l) (s : Mo (Ms ks) H H') (d : DL a ks) : Ow a e H' f sz v l :=
  x.up s (fun b _ h1 h2 => d (b + 1) h2 b h1 rfl)
theorem Var.upL {e : TypeId} {H H' : Heap} {cs : List Value} (x : Var e H b cs) (s : Mo (Ms ks) H H') (d : DL (b + 1) ks) : Var e H' b cs := x.up s (fun h2 => d (b + 1) h2 b rfl rfl)
theorem Rd.bnd {α : Type} {H : Heap} {f : α → List Value} {sz : Nat} {v : Value} {l : List α} (x : Rd F H f sz v l) : Rd (fun b => F b ∧ b < H.size) H f sz v l := x.imp (fun b hb h => ⟨h, hb⟩)
theorem Rd.bf {α : Type} {H : Heap} {f : α → List Value} {sz : Nat} {v : Value} {l : List α} {G : Nat → Prop} (x : Rd (fun b => G b ∧ b < h) H f sz v l) : BF (fun b => G b ∧ b < h) h := fun b e => e.2
theorem Rd.upL {α : Type} {H H' : Heap} {f : α → List Value} {sz : Nat} {v : Value} {l : List α} (x : Rd F H f sz v l) (s : Mo (Ms ks) H H') (d : DFL F ks) : Rd F H' f sz v l :=
  x.up s (fun b _ h1 h2 => d (b + 1) h2 b h1 rfl)
end

/-- a row that is read alone, told by its block's number -/
structure Qr {α : Type} (k : Nat) (H : Heap) (f : α → List Value) (sz : Nat) (v : Value) (l : List α) : Prop where
  rd : Rd (fun b => b + 1 = k) H f sz v l
  le : k ≤ H.size
section
variable {α : Type} {k : Nat} {ks : List Nat} {e : TypeId} {H H' : Heap} {f : α → List Value} {sz : Nat} {v : Value} {l : List α}
theorem Qr.nw (h : Qr k H f sz v l) (s : Nw H H') : Qr k H' f sz v l := ⟨h.rd.nw s, Nat.le_trans h.le s.size⟩
theorem Qr.upL (h : Qr k H f sz v l) (s : Mo (Ms ks) H H') (d : DL k ks) : Qr k H' f sz v l := ⟨h.rd.up s (fun b _ h1 h2 => d (b + 1) h2 b h1 rfl), Nat.le_trans h.le s.size⟩
theorem Qr.nil (f : α → List Value) (sz : Nat) (H : Heap) : Qr 0 H f sz (.slice none 0 0) ([] : List α) := ⟨Rd.nil _ _ _ _, Nat.zero_le _⟩
theorem Ow.q (h : Ow k e H f sz v l) : Qr k H f sz v l := ⟨h.rd, h.le⟩
end

section
variable {P : Program} {w0 : World} {n : Nat} {l : FL} {H : Heap} {o : Oper} {α : Type} {k : Nat} {e : TypeId} {f : α → List Value} {sz : Nat} {v : Value} {xs ys : List α}
theorem Y.cast {v v2 : Value} (h : Y P w0 n l H o v) (e : v = v2) : Y P w0 n l H o v2 := e ▸ h
theorem Z.mono {R R' : Value → Heap → Prop} (h : Z P w0 n l H o R) (hr : ∀ v H', R v H' → R' v H') : Z P w0 n l H o R' := by
  intro a w hf ha
  obtain ⟨v, H', w', h1, h2, h3⟩ := h a w hf ha
  exact ⟨v, H', w', h1, h2, hr _ _ h3⟩
theorem S.mono {R R' : Heap → Prop} (h : S P w0 n l H o R) (hr : ∀ H', R H' → R' H') : S P w0 n l H o R' := by
  intro a w hf ha
  obtain ⟨H', w', h1, h2, h3⟩ := h a w hf ha
  exact ⟨H', w', h1, h2, hr _ h3⟩
theorem Z.apnd {F : Nat → Prop} {s x : Operand} {t : TypeId} {u : Value} {bytes : Nat} (h : Ow k e H f sz v xs) (hr : Rd F H f sz u ys) (ho : o.op = .call { callee := .builtin .append, args := #[s, x], argTypes := #[t, t] })
    (hinf : Inf P t e sz bytes) (hs : opv l s = some v) (hx : opv l x = some u) (hb : (xs.length + ys.length) * bytes ≤ 140737488355328) (hm : xs.length + ys.length ≤ 9223372036854775807) :
    Z P w0 n l H o (fun r H' => ∃ k', Ow k' e H' f sz r (xs ++ ys) ∧ (k' = 0 ∨ k' = k ∨ H.size < k') ∧ Mo (fun b => b + 1 = k) H H') :=
  (Z.append h.own hr ho hinf hs hx hb hm).mono fun r H' ⟨h1, h2⟩ => by
    obtain ⟨k', h3, h4⟩ := Ow.of h1
    refine ⟨k', h3, ?_, h2⟩
    rcases h4 with rfl | ⟨g, rfl, h5⟩
    · exact .inl rfl
    · omega
theorem Ow.new {G : Nat → Prop} {H' : Heap} {c : Obj} (hG : ∀ b, G b → b = H.size) (h : Own G e H' f sz v xs) (hc : H' = H.push c) : Ow (H.size + 1) e H' f sz v xs :=
  ⟨h.imp (fun b _ hb => by rw [hG b hb]), by rw [hc]; simp⟩
theorem Z.litw {t : TypeId} {k bytes : Nat} {parts : List (Nat × Operand)} (vs : List Value) (zs : List α) (ho : o.op = .buildSlice t k parts.toArray) (hinf : Inf P t e sz bytes) (hp : opvs l (parts.map (·.2)) = some vs) (hi : parts.map (·.1) = List.range k) (hk : vs.length = k) (hks : k * sz ≤ 16777216) (hk16 : k ≤ 16777216)
    (hc : ∀ x, (f x).length = sz) (h1 : ∀ x, ∀ u ∈ f x, u.oneCell' = true) (hz : vs.map (fun v => v.cells.toList) = zs.map f) :
    Z P w0 n l H o (fun r H' => Ow (H.size + 1) e H' f sz r zs ∧ Nw H H' ∧ ∃ c, H' = H.push c) :=
  (Z.lit vs zs ho hinf hp hi hk hks hk16 hc h1 hz).mono fun r H' ⟨h1, h2, c, h3⟩ => ⟨Ow.new (fun _ e => e) h1 h3, h2, c, h3⟩
theorem Z.makew {t e : TypeId} {bytes : Nat} {x c : Operand} {kl kc : IntKind} {lv : Int} {z : Value} (k : Nat) (z0 : α) (ho : o.op = .makeSlice t x c) (hinf : Inf P t e sz bytes) (hz : ∀ w, (zeroValue e).run P w = .ok z w) (hz0 : f z0 = z.cells.toList)
    (hc : ∀ x, (f x).length = sz) (h1 : ∀ x, ∀ u ∈ f x, u.oneCell' = true) (hx : opv l x = some (.int kl lv)) (hcc : opv l c = some (.int kc lv)) (hk : lv = k) (hb : (bytes : Int) * k ≤ 281474976710656) (hk2 : k ≤ 9223372036854775807) :
    Z P w0 n l H o (fun r H' => Ow (H.size + 1) e H' f sz r (List.replicate k z0) ∧ Nw H H' ∧ ∃ ob, H' = H.push ob) :=
  (Z.makeSlice k z0 ho hinf hz hz0 hc h1 hx hcc hk hb hk2).mono fun r H' ⟨h1, h2, c, h3⟩ => ⟨Ow.new (fun _ e => e) h1 h3, h2, c, h3⟩
theorem Y.owAddr {x i : Operand} {t : TypeId} {k2 : IntKind} {iv : Int} (h : Ow k e H f sz v xs) (j : Nat) (ho : o.op = .indexAddr t x i) (ht : ∀ w, (underlying t).run P w = .ok (.slice e) w) (hs : ∀ w, (sizeOf e).run P w = .ok sz w)
    (hx : opv l x = some v) (hi : opv l i = some (.int k2 iv)) (hj : iv = j) (hlt : j < xs.length) : Y P w0 n l H o (.pointer (some ⟨blk v, j * sz, none⟩)) := Y.ownAddr h.own j ho ht hs hx hi hj hlt
theorem Y.owFront {x hi : Operand} {t e2 : TypeId} {k2 : IntKind} {iv : Int} (h : Ow k e H f sz v xs) (j : Nat) (ho : o.op = .slice t x none (some hi) none) (ht : ∀ w, (underlying t).run P w = .ok (.slice e2) w) (hs : ∀ w, (sizeOf e2).run P w = .ok sz w)
    (hx : opv l x = some v) (hi2 : opv l hi = some (.int k2 iv)) (hjv : iv = j) (hj : j ≤ xs.length) : ∃ v', (∀ H', Y P w0 n l H' o v') ∧ Ow k e H f sz v' (xs.take j) := by
  have run : ∀ (a : Option Addr) (len cap : Nat), v = .slice a len cap → j ≤ len → len ≤ cap → (∀ ad, a = some ad → ad.spot = none) → ∀ H', Y P w0 n l H' o (.slice a j cap) := by
    rintro a len cap rfl h1 h2 h3 H' ac w hf ha
    have e1 : ∀ w, (Instr.sliceBounds true len cap none (some (ac.eval hi)) none).run P w = .ok (0, j, cap) w := by
      intro w
      have b2 : j ≤ cap := by omega
      subst hjv
      simp [Instr.sliceBounds, Instr.sliceBound, asIntOf, hf.eval hi2, *]
    have e3 : (if cap = 0 then a else a.map (·.add (0 * sz))) = a := by
      cases a with
      | none => simp
      | some ad => simp [add_eq (h3 ad rfl)]; intro _; obtain ⟨b, o, s⟩ := ad; have := h3 _ rfl; simp at this; rw [this]
    have e4 := e3
    simp only [Nat.zero_mul] at e4
    simp [execOp, ho, hf.eval hx, Instr.sliceAt, Instr.slice, ht, hs, e1, e4]
  rcases h.own.ex with ⟨rfl, rfl⟩ | ⟨g, cap, cur, hv, hg, hh, r1, r2, r3, r4⟩
  · refine ⟨.slice none j 0, run none 0 0 rfl (by simpa using hj) (Nat.le_refl _) (fun ad e => by cases e), ?_⟩
    have : j = 0 := by simpa using hj
    subst this
    simpa using h
  · refine ⟨.slice (some ⟨g, 0, none⟩) j cap, run _ _ _ hv hj r1 (fun ad e => by rw [← Option.some.inj e]), ⟨?_, h.le⟩⟩
    by_cases hne : xs = []
    · subst hne
      have hj0 : j = 0 := by simpa using hj
      subst hj0
      have := h.own
      rw [hv] at this
      simpa using this
    · have h2 := h.own
      rw [hv] at h2
      exact h2.front hj hne
theorem S.oww {x y : Operand} {t : TypeId} {c : Value} (h : Ow k e H f sz v xs) (j i : Nat) (z : α) (ho : o.op = .store t x y) (hx : opv l x = some (.pointer (some ⟨blk v, j * sz + i, none⟩))) (hy : opv l y = some c) (h1 : c.oneCell' = true)
    (hs : ∀ w, (sizeOf t).run P w = .ok 1 w) (hj : j < xs.length) (hk : i < sz) (hz : f z = (f xs[j]).set i c) : S P w0 n l H o (fun H' => Ow k e H' f sz v (xs.set j z) ∧ Mo (fun b => b + 1 = k) H H') :=
  (S.own h.own j i z ho hx hy h1 hs hj hk hz).mono fun H' ⟨h1, h2⟩ => ⟨⟨h1, Nat.le_trans h.le h2.size⟩, h2.weaken (fun b _ e => by have := h.at hj; omega)⟩
/-! against nil -/
theorem Y.sleq {x y : Operand} {t u e : TypeId} {p : Option Addr} {k c : Nat} (ho : o.op = .binOp .eql t x y u) (ht : P.underlying t = some (.slice e)) (hx : opv l x = some (.slice p k c)) (hy : opv l y = some (.slice none 0 0)) : Y P w0 n l H o (.bool p.isNone) := by
  intro a w hf ha
  have h := run_equal_slice_nil (w := w) t e p k c ht
  simp [execOp, ho, hf.eval hx, hf.eval hy, binOp, eqGuard, h]
end
/-! what is made lies above -/
section
variable {m a b : Nat} {F S : Nat → Prop} {α : Type} {e : TypeId} {H0 H H' : Heap} {f : α → List Value} {sz : Nat} {v : Value} {l : List α} {cs : List Value}
theorem DF.above {k n : Nat} (hF : ∀ b, F b → n ≤ b) (hk : k ≤ n) : DF F k := fun b h e => by have := hF b h; omega
theorem Ow.upA (x : Ow a e H f sz v l) (s : Mo (fun c => m ≤ c) H H') (d : a ≤ m) : Ow a e H' f sz v l := x.up s (fun b _ h1 h2 => by omega)
theorem Var.upA (x : Var e H b cs) (s : Mo (fun c => m ≤ c) H H') (d : b + 1 ≤ m) : Var e H' b cs := x.up s (by omega)
theorem Rd.upA (x : Rd F H f sz v l) (s : Mo (fun c => m ≤ c) H H') (d : BF F m) : Rd F H' f sz v l := x.up s (fun b _ h1 h2 => by have := d b h1; omega)
theorem Mo.trA (x : Mo S H0 H) (s : Mo (fun c => m ≤ c) H H') (d : H0.size ≤ m) : Mo S H0 H' := Mo.trans x s (fun _ _ e => e) (fun b hb e => absurd e (by omega))
end
/-! a row made with room -/
section
variable {P : Program} {w0 : World} {n : Nat} {l : FL} {H : Heap} {o : Oper} {α : Type} {e : TypeId} {f : α → List Value} {sz : Nat}
end
/-! a place within a row that is read -/
structure PtF (F : Nat → Prop) (H : Heap) (ad : Addr) (cs : List Value) : Prop where
  pt : Pt H ad cs
  f : F ad.block
section
variable {F : Nat → Prop} {H H' : Heap} {ad : Addr} {cs : List Value} {ks : List Nat} {m : Nat}
theorem PtF.nw (h : PtF F H ad cs) (s : Nw H H') : PtF F H' ad cs := ⟨h.pt.nw s, h.f⟩
theorem PtF.upL (h : PtF F H ad cs) (s : Mo (Ms ks) H H') (d : DFL F ks) : PtF F H' ad cs := ⟨h.pt.up s (fun e => d _ e _ h.f rfl), h.f⟩
theorem PtF.upA (h : PtF F H ad cs) (s : Mo (fun c => m ≤ c) H H') (d : BF F m) : PtF F H' ad cs := ⟨h.pt.up s (fun e => by have := d _ h.f; omega), h.f⟩
end
section
variable {P : Program} {w0 : World} {n : Nat} {l : FL} {H : Heap} {o : Oper} {α : Type} {F : Nat → Prop} {f : α → List Value} {sz : Nat} {v : Value} {xs : List α}
theorem Y.indexAddrF {x i : Operand} {t e : TypeId} {k : IntKind} {iv : Int} (h : Rd F H f sz v xs) (j : Nat) (ho : o.op = .indexAddr t x i) (ht : ∀ w, (underlying t).run P w = .ok (.slice e) w) (hs : ∀ w, (sizeOf e).run P w = .ok sz w)
    (hx : opv l x = some v) (hi : opv l i = some (.int k iv)) (hj : iv = j) (hlt : j < xs.length) : ∃ ad, (∀ H', Y P w0 n l H' o (.pointer (some ad))) ∧ PtF F H ad (f xs[j]) := by
  obtain ⟨a, cap, rfl, h1, h2, h3⟩ := h.ex
  obtain ⟨ad, rfl, e2, e3, e4, e5⟩ := h3 (by intro e; subst e; simp at hlt)
  subst hj
  refine ⟨_, ?_, e5 j xs[j] (by simp [hlt]), by first | exact e3 | exact e4⟩
  intro H' ac w hf ha
  simp [execOp, ho, hf.eval hx, hf.eval hi, Instr.indexAt, asIntOf, ht, hs, hlt, add_eq e2]
end
end Go.Proofs.Ytepdhokpfecdnaa.E
/-
  Maps that are ours, told by their block's number: for program-printed bookkeeping: no condition.
-/
namespace Go.Proofs.Ytepdhokpfecdnaa.E
open Go.MapKept
set_option linter.unusedVariables false
set_option linter.unusedSimpArgs false
set_option linter.unusedSectionVars false
/-- the block b is a map that holds m -/
structure Mp {κ β : Type} (H : Heap) (fk : κ → Value) (fv : β → Value) (b : Nat) (m : List (κ × β)) : Prop where
  mo : MapOf (fun x => x = b) H fk fv (.map (some b)) m
section
variable {κ β : Type} {H H' : Heap} {fk : κ → Value} {fv : β → Value} {b k : Nat} {m : List (κ × β)} {ks : List Nat}
theorem Mp.lt (h : Mp H fk fv b m) : b < H.size := h.mo.blk_lt
theorem Mp.up {S : Nat → Prop} (h : Mp H fk fv b m) (s : Mo S H H') (hS : ¬ S b) : Mp H' fk fv b m := ⟨h.mo.up s (fun x _ e h2 => hS (by rw [← e]; exact h2))⟩
theorem Mp.nw (h : Mp H fk fv b m) (s : Nw H H') : Mp H' fk fv b m := ⟨h.mo.nw s⟩
theorem Mp.upL (x : Mp H fk fv b m) (s : Mo (Ms ks) H H') (d : DL (b + 1) ks) : Mp H' fk fv b m := x.up s (fun h2 => d (b + 1) h2 b rfl rfl)
theorem Mp.upA (x : Mp H fk fv b m) (s : Mo (fun c => k ≤ c) H H') (d : b + 1 ≤ k) : Mp H' fk fv b m := x.up s (by omega)
end
section
variable {P : Program} {w0 : World} {n : Nat} {l : FL} {H : Heap} {o : Oper} {κ β : Type} [DecidableEq κ] {fk : κ → Value} {fv : β → Value} {b : Nat} {m : List (κ × β)} {d : TypeDesc}
theorem Z.makeMp (fk : κ → Value) (fv : β → Value) {t : TypeId} (ho : o.op = .makeMap t none) : Z P w0 n l H o (fun r H' => r = .map (some H.size) ∧ Mp H' fk fv H.size ([] : List (κ × β)) ∧ Nw H H' ∧ ∃ ob, H' = H.push ob) := by
  intro a w hf ha
  refine ⟨.map (some w.heap.size), H.push (.map #[] 0), w.alloc (.map #[] 0), ?_, ha.alloc _, by rw [ha.heap], ⟨H.size, #[], 0, rfl, rfl, by simp, stamped_empty 0, rfl⟩, Nw.pu _ _, _, rfl⟩
  simp [execOp, ho, Instr.makeMap]
end
theorem mget_put {κ β : Type} [DecidableEq κ] (m : List (κ × β)) (k : κ) (b : β) (q : κ) : mget (mput m k b) q = if q = k then some b else mget m q := by
  have h1 : ∀ m : List (κ × β), mget (m.map (fun p => if p.1 = k then (p.1, b) else p)) q = if q = k then (mget m q).map (fun _ => b) else mget m q := by
    intro m
    induction m with
    | nil => simp [mget]
    | cons p m ih =>
      simp only [List.map_cons]
      by_cases hp : p.1 = k
      · rw [if_pos hp]
        by_cases hq : q = p.1
        · have : q = k := hq.trans hp
          simp [mget, hq, hp]
        · simp only [mget]
          rw [if_neg hq, ih, if_neg hq]
      · rw [if_neg hp]
        by_cases hq : q = p.1
        · have : ¬ q = k := fun e => hp (by rw [← hq, e])
          simp [mget, hq, hp]
        · simp only [mget]
          rw [if_neg hq, ih, if_neg hq]
  have h2 : ∀ m : List (κ × β), mget (m ++ [(k, b)]) q = (mget m q).or (if q = k then some b else none) := by
    intro m
    induction m with
    | nil => simp [mget]
    | cons p m ih =>
      simp only [List.cons_append, mget]
      split
      · simp
      · exact ih
  unfold mput
  split
  · rename_i h
    rw [h1]
    by_cases hq : q = k
    · subst hq
      obtain ⟨z, hz⟩ := Option.isSome_iff_exists.1 h
      simp [hz]
    · simp [hq]
  · rename_i h
    rw [h2]
    by_cases hq : q = k
    · subst hq
      have : mget m q = none := by simpa using h
      simp [this]
    · simp [hq]
section
variable {P : Program} {w0 : World} {Q : Exit → Act → World → Prop} {n : Nat} {l : FL} {H : Heap} {ops : Array Oper} {rest : List Oper} {o : Oper}
/-- an operation that turns the heap, whose value nobody takes -/
theorem LR.zn {R : Value → Heap → Prop} (hz : Z P w0 n l H o R) (hw : Wd ops l o) (hd : o.dst = none)
    (h : ∀ v H', R v H' → LR false P w0 ops Q n l rest H') : LR false P w0 ops Q n l (o :: rest) H := by
  intro a w hf ha
  obtain ⟨v, H', w', hr, ha', hR⟩ := hz a w hf ha
  have hh := h v H' hR a w' hf ha'
  simp only [Md] at hh ⊢
  unfold wpList
  rw [if_pos (hw n a hf)]
  refine .inl ?_
  unfold Oper.wp
  rw [hr]
  show wpList P ops Q rest (a.put o.dst v) w'
  rw [hd]
  exact hh
end
section
variable {P : Program} {w0 : World} {Q : Exit → Act → World → Prop} {SH : Heap → Prop} {X : List Nat} {n k : Nat} {l : FL} {H : Heap} {ops : Array Oper} {o : Oper} {dn : List Nat}
end
end Go.Proofs.Ytepdhokpfecdnaa.E
/-
  Rules for calls of functions for which the model stands in: no condition.
-/
namespace Go.Proofs.Ytepdhokpfecdnaa.E
set_option linter.unusedVariables false
set_option linter.unusedSimpArgs false
set_option linter.unusedSectionVars false
section
variable {P : Program} {w0 : World} {n : Nat} {l : FL} {H : Heap} {o : Oper}

theorem Y.ext {f : FuncId} {fn : Func} {e : Array Value → Sem Value} {args : List Operand} {ats : Array TypeId} {vs : List Value} {v : Value} (ho : o.op = .call { callee := .value (.func f), args := args.toArray, argTypes := ats }) (hf : P.funcs[f]? = some fn)
    (hname : (fn.name == "runtime.NumGoroutine") = false) (hb : fn.body.isNone = true) (hn : Extern.findNext fn = none) (he : Extern.find fn = some e) (hv : opvs l args = some vs) (hr : ∀ w, At w0 H w → (e vs.toArray).run P w = .ok v w) : Y P w0 n l H o v := by
  intro a w hfr ha
  have h1 : a.eval (.func f) = .func (.func f) #[] #[] := rfl
  have h2 := hfr.evals hv
  have h3 := run_callFunc_extern (P := P) hf hname hb hn he vs.toArray w
  rw [hr w ha] at h3
  simp only [Result.andThen] at h3
  simp [execOp, ho, resolve, Deferred.ofValue, h1, invoke, h2, h3]

theorem bytesOf_map (xs : List UInt8) : Lib.bytesOf (xs.map (fun b => (b.toNat : Int))) = xs := by
  induction xs with
  | nil => rfl
  | cons b xs ih => simp only [Lib.bytesOf, List.map_cons, List.map_map] at ih ⊢; rw [ih]; simp

end
end Go.Proofs.Ytepdhokpfecdnaa.E
/-
  Rules for words (numbers of fixed width, without sign), arrays, copies: no condition.
-/
namespace Go.Proofs.Ytepdhokpfecdnaa.E
set_option linter.unusedVariables false
set_option linter.unusedSimpArgs false
set_option linter.unusedSectionVars false
section
variable {P : Program} {w0 : World} {n : Nat} {l : FL} {H : Heap} {o : Oper}

theorem wrap_u8 (n : Int) : IntKind.u8.wrap n = n % 256 := by
  have h1 : IntKind.u8.signed = false := rfl
  have h2 : (2 ^ IntKind.u8.bits : Int) = 256 := by decide
  simp only [IntKind.wrap, h1, h2, Bool.false_and, Bool.false_eq_true, if_false]
theorem wnat_u8 (a : Nat) : IntKind.u8.wrap (a : Int) = ((UInt8.ofNat a).toNat : Int) := by
  rw [wrap_u8, UInt8.toNat_ofNat']; omega
theorem Y.conv_u8 {x : Operand} {s d : TypeId} {k : IntKind} {a : Nat} {ds : TypeDesc} (ho : o.op = .convert s d x) (hs : ∀ w, (underlying s).run P w = .ok ds w) (hd : ∀ w, (underlying d).run P w = .ok (.int .u8) w) (hx : opv l x = some (.int k a)) : Y P w0 n l H o (.int .u8 (UInt8.ofNat a).toNat) := by
  have h := Y.conv (P := P) (w0 := w0) (n := n) (H := H) ho hs hd hx
  rwa [wnat_u8] at h

theorem wrap_u64 (n : Int) : IntKind.u64.wrap n = n % 18446744073709551616 := by
  have h1 : IntKind.u64.signed = false := rfl
  have h2 : (2 ^ IntKind.u64.bits : Int) = 18446744073709551616 := by decide
  simp only [IntKind.wrap, h1, h2, Bool.false_and, Bool.false_eq_true, if_false]
theorem wnat_u64 (a : Nat) : IntKind.u64.wrap (a : Int) = ((UInt64.ofNat a).toNat : Int) := by
  rw [wrap_u64, UInt64.toNat_ofNat']; omega
def shlw_u64 (x : UInt64) (j : Nat) : UInt64 := UInt64.ofNat (x.toNat * 2 ^ j)
def shrw_u64 (x : UInt64) (j : Nat) : UInt64 := UInt64.ofNat (x.toNat / 2 ^ j)
theorem shrw_u64_toNat (x : UInt64) (j : Nat) : (shrw_u64 x j).toNat = x.toNat / 2 ^ j := by
  have := x.toNat_lt
  rw [shrw_u64, UInt64.toNat_ofNat']
  exact Nat.mod_eq_of_lt (Nat.lt_of_le_of_lt (Nat.div_le_self _ _) this)
theorem Y.shl_u64 {x y : Operand} {t u : TypeId} {k2 : IntKind} {a : UInt64} {iv : Int} (j : Nat) (ho : o.op = .binOp .shl t x y u) (hx : opv l x = some (.int .u64 a.toNat)) (hy : opv l y = some (.int k2 iv)) (hj : iv = j) (hlt : j ≤ 64) : Y P w0 n l H o (.int .u64 (shlw_u64 a j).toNat) := by
  have h := Y.shl (P := P) (w0 := w0) (n := n) (H := H) ho hx hy (by omega)
  rw [hj, Int.toNat_natCast, show min j IntKind.u64.bits = j from Nat.min_eq_left hlt] at h
  rw [show IntKind.u64.wrap ((a.toNat : Int) * 2 ^ j) = ((shlw_u64 a j).toNat : Int) by rw [shlw_u64, ← wnat_u64]; congr 1] at h
  exact h
theorem Y.shr_u64 {x y : Operand} {t u : TypeId} {k2 : IntKind} {a : UInt64} {iv : Int} (j : Nat) (ho : o.op = .binOp .shr t x y u) (hx : opv l x = some (.int .u64 a.toNat)) (hy : opv l y = some (.int k2 iv)) (hj : iv = j) (hlt : j ≤ 64) : Y P w0 n l H o (.int .u64 (shrw_u64 a j).toNat) := by
  have h := Y.shr (P := P) (w0 := w0) (n := n) (H := H) ho hx hy (by omega)
  rw [hj, Int.toNat_natCast, show min j IntKind.u64.bits = j from Nat.min_eq_left hlt] at h
  rw [show (a.toNat : Int).fdiv (2 ^ j) = ((shrw_u64 a j).toNat : Int) by
    rw [shrw_u64_toNat, Int.fdiv_eq_ediv_of_nonneg _ (by exact Int.le_of_lt (Int.pow_pos (by decide)))]; simp] at h
  exact h
theorem Y.conv_u64 {x : Operand} {s d : TypeId} {k : IntKind} {a : Nat} {ds : TypeDesc} (ho : o.op = .convert s d x) (hs : ∀ w, (underlying s).run P w = .ok ds w) (hd : ∀ w, (underlying d).run P w = .ok (.int .u64) w) (hx : opv l x = some (.int k a)) : Y P w0 n l H o (.int .u64 (UInt64.ofNat a).toNat) := by
  have h := Y.conv (P := P) (w0 := w0) (n := n) (H := H) ho hs hd hx
  rwa [wnat_u64] at h

/-! arrays -/
theorem Pt.at {ad : Addr} {cs : List Value} {c : Value} (h : Pt H ad cs) (j : Nat) (hc : cs[j]? = some c) : Pt H ⟨ad.block, ad.off + j, none⟩ [c] :=
  ⟨rfl, fun i d hd => by
    match i, hd with
    | 0, hd => simp only [List.getElem?_cons_zero, Option.some.injEq] at hd; subst hd; exact h.cells j _ hc⟩
theorem Y.arrAddr {x i : Operand} {t e : TypeId} {len : Nat} {k : IntKind} {iv : Int} {ad : Addr} {cs : List Value} (h : Pt H ad cs) (j : Nat) (ho : o.op = .indexAddr t x i) (ht : ∀ w, (underlying t).run P w = .ok (.array len e) w) (hs : ∀ w, (sizeOf e).run P w = .ok 1 w)
    (hx : opv l x = some (.pointer (some ad))) (hi : opv l i = some (.int k iv)) (hj : iv = j) (hlt : j < len) : Y P w0 n l H o (.pointer (some ⟨ad.block, ad.off + j, none⟩)) := by
  subst hj
  intro ac w hf ha
  have := add_eq h.spot j
  simp [execOp, ho, hf.eval hx, hf.eval hi, Instr.indexAt, asIntOf, Instr.sureAddr, ht, hs, hlt, this]
/-- a slice of an array behind a pointer -/
theorem Y.sliceArr {α : Type} {F : Nat → Prop} {f : α → List Value} {x : Operand} {lo hi : Option Operand} {t e : TypeId} {len : Nat} {ad : Addr} {cs : List Value} {xs : List α} (h : Pt H ad cs) (hF : F ad.block) (hb : ad.block < H.size) (hxs : xs.length = len) (hcs : ∀ (i : Nat) (x : α), xs[i]? = some x → cs[i]? = (f x)[0]? ∧ (f x).length = 1) (i j : Nat)
    (ho : o.op = .slice t x lo hi none) (ht : ∀ w, (underlying t).run P w = .ok (.array len e) w ∨ ∃ t', (underlying t).run P w = .ok (.pointer t') w ∧ (underlying t').run P w = .ok (.array len e) w) (hs : ∀ w, (sizeOf e).run P w = .ok 1 w) (hx : opv l x = some (.pointer (some ad)))
    (hlo : lo = none ∧ i = 0 ∨ ∃ p k iv, lo = some p ∧ opv l p = some (.int k iv) ∧ iv = (i : Int)) (hhi : hi = none ∧ j = len ∨ ∃ p k iv, hi = some p ∧ opv l p = some (.int k iv) ∧ iv = (j : Int)) (hij : i ≤ j) (hj : j ≤ len) (hm : len ≤ maxLen) :
    (∀ H', Y P w0 n l H' o (.slice (some (if len = i then ad else ⟨ad.block, ad.off + i, none⟩)) (j - i) (len - i))) ∧ Rd F H f 1 (.slice (some (if len = i then ad else ⟨ad.block, ad.off + i, none⟩)) (j - i) (len - i)) ((xs.take j).drop i) := by
  constructor
  · intro H' ac w hf ha
    have e1 : ∀ w, (Instr.sliceBounds false len len (lo.map ac.eval) (hi.map ac.eval) none).run P w = .ok (i, j, len) w := by
      intro w
      rcases hlo with ⟨rfl, rfl⟩ | ⟨p, k, iv, rfl, h1, rfl⟩ <;> rcases hhi with ⟨rfl, rfl⟩ | ⟨p2, k2, iv2, rfl, h3, rfl⟩ <;>
        simp [Instr.sliceBounds, Instr.sliceBound, asIntOf, hf.eval, *]
    have hadd := add_eq h.spot i
    rcases ht w with ht | ⟨t', ht, ht'⟩
    · simp [execOp, ho, hf.eval hx, Instr.sliceAt, Instr.sureAddr, ht, hs, e1, hadd]
    · simp [execOp, ho, hf.eval hx, Instr.sliceAt, Instr.slice, asAddr, ht, ht', hs, e1, hadd]
  · have hlen : ((xs.take j).drop i).length = j - i := by simp; omega
    refine ⟨_, _, by rw [hlen], by rw [hlen]; omega, by omega, fun hne => ?_⟩
    have hji : i < j := by
      apply Decidable.byContradiction; intro hc
      exact hne (List.eq_nil_of_length_eq_zero (by rw [hlen]; omega))
    rw [if_neg (by omega)]
    refine ⟨_, rfl, rfl, hF, hb, fun q y hy => ⟨rfl, fun r c hr => ?_⟩⟩
    rw [List.getElem?_drop, List.getElem?_take] at hy
    split at hy
    · obtain ⟨h1, h2⟩ := hcs (i + q) y hy
      have hr0 : r = 0 := by have := (List.getElem?_eq_some_iff.1 hr).1; omega
      subst hr0
      have := h.cells (i + q) c (by rw [h1]; exact hr)
      simpa [Nat.add_assoc] using this
    · cases hy
theorem Y.sliceArrE {α : Type} {F : Nat → Prop} {f : α → List Value} {x : Operand} {lo hi : Option Operand} {t e : TypeId} {len : Nat} {ad : Addr} {cs : List Value} {xs : List α} (h : Pt H ad cs) (hF : F ad.block) (hb : ad.block < H.size) (hxs : xs.length = len) (hcs : ∀ (i : Nat) (x : α), xs[i]? = some x → cs[i]? = (f x)[0]? ∧ (f x).length = 1) (i j : Nat)
    (ho : o.op = .slice t x lo hi none) (ht : ∀ w, (underlying t).run P w = .ok (.array len e) w ∨ ∃ t', (underlying t).run P w = .ok (.pointer t') w ∧ (underlying t').run P w = .ok (.array len e) w) (hs : ∀ w, (sizeOf e).run P w = .ok 1 w) (hx : opv l x = some (.pointer (some ad)))
    (hlo : lo = none ∧ i = 0 ∨ ∃ p k iv, lo = some p ∧ opv l p = some (.int k iv) ∧ iv = (i : Int)) (hhi : hi = none ∧ j = len ∨ ∃ p k iv, hi = some p ∧ opv l p = some (.int k iv) ∧ iv = (j : Int)) (hij : i ≤ j) (hj : j ≤ len) (hm : len ≤ maxLen) :
    ∃ v', (∀ H', Y P w0 n l H' o v') ∧ Rd F H f 1 v' ((xs.take j).drop i) :=
  ⟨_, Y.sliceArr h hF hb hxs hcs i j ho ht hs hx hlo hhi hij hj hm⟩
/-- arrays of numbers held against one another -/
theorem run_equalIn_arr {P : Program} (d : Nat) {t e : TypeId} {len : Nat} {k : IntKind} {f : Nat → Int} {xs ys : List Int} (ht : P.underlying t = some (.array len e)) (he : P.underlying e = some (.int k)) (hs : ∀ w, (sizeOf e).run P w = .ok 1 w) (hg : ∀ w, (isAgg e).run P w = .ok false w) (hx : xs.length = len) (hy : ys.length = len) (w : World) :
    (Op.equalIn (d + 2) t (.agg (xs.map (Value.int k)).toArray) (.agg (ys.map (Value.int k)).toArray)).run P w = .ok (decide (xs = ys)) w := by
  have key : ∀ (m i : Nat), i + m = len → xs.take i = ys.take i → ∀ body : Nat → Option Bool × Unit → Sem (ForInStep (Option Bool × Unit)),
      (∀ j (h1 : j < xs.length) (h2 : j < ys.length) r, (body j r).run P w = .ok (if xs[j] = ys[j] then .yield (none, ()) else .done (some false, ())) w) →
      (forIn (List.range' i m) (none, ()) body).run P w = .ok (if xs = ys then (none, ()) else (some false, ())) w := by
    intro m
    induction m with
    | zero =>
      intro i hi htk body _
      rw [List.take_of_length_le (by omega), List.take_of_length_le (by omega)] at htk
      simp [htk]
    | succ m ih =>
      intro i hi htk body hb
      rw [List.range'_succ, List.forIn_cons, Sem.run_bind, hb i (by omega) (by omega)]
      by_cases h : xs[i]'(by omega) = ys[i]'(by omega)
      · simp only [h, if_true, Result.andThen_ok]
        exact ih (i + 1) (by omega) (by rw [List.take_succ_eq_append_getElem (show i < xs.length by omega), List.take_succ_eq_append_getElem (show i < ys.length by omega), htk, h]) body hb
      · have hne : xs ≠ ys := fun e => h (by subst e; rfl)
        simp only [h, if_false, Result.andThen_ok, hne]
        rfl
  unfold Op.equalIn
  simp only [Sem.run_bind, run_underlying ht, Result.andThen_ok, hs]
  rw [Std.Legacy.Range.forIn_eq_forIn_range']
  simp only [Std.Legacy.Range.size, Nat.sub_zero, Nat.add_sub_cancel, Nat.div_one]
  rw [key len 0 (by omega) rfl _ (fun j h1 h2 r => ?_)]
  · by_cases h : xs = ys <;> simp [h, Result.andThen]
  · have p1 : ∀ (zs : List Int) (h : j < zs.length), (part e (zs.map (Value.int k)).toArray (j * 1)).run P w = .ok (.int k zs[j]) w := fun zs h => by simp [part, hg, h]
    have q : (Op.equalIn (d + 1) e (.int k xs[j]) (.int k ys[j])).run P w = .ok (xs[j] == ys[j]) w := run_equalIn_int w d e k k _ _ he
    simp only [Sem.run_bind, p1 xs h1, p1 ys h2, Result.andThen_ok, q]
    by_cases h : xs[j] = ys[j] <;> simp [h]
/-- an Id -/
abbrev idV (l : List UInt8) : Value := .agg (l.map (fun b => Value.int .u8 b.toNat)).toArray
theorem run_equalIn_id {P : Program} (d : Nat) {t e : TypeId} {len : Nat} {xs ys : List UInt8} (ht : P.underlying t = some (.array len e)) (he : P.underlying e = some (.int .u8)) (hs : ∀ w, (sizeOf e).run P w = .ok 1 w) (hg : ∀ w, (isAgg e).run P w = .ok false w) (hx : xs.length = len) (hy : ys.length = len) (w : World) :
    (Op.equalIn (d + 2) t (idV xs) (idV ys)).run P w = .ok (decide (xs = ys)) w := by
  have h := run_equalIn_arr (P := P) d (k := .u8) (f := fun _ => 0) (xs := xs.map (fun b => (b.toNat : Int))) (ys := ys.map (fun b => (b.toNat : Int))) ht he hs hg (by simpa using hx) (by simpa using hy) w
  rw [List.map_map, List.map_map] at h
  have hi : (xs.map (fun b => (b.toNat : Int)) = ys.map (fun b => (b.toNat : Int))) ↔ xs = ys :=
    ⟨fun e => (List.map_inj_right (fun a b h => UInt8.toNat_inj.1 (by omega))).1 e, fun e => by rw [e]⟩
  rw [decide_eq_decide.2 hi] at h
  exact h
end
/-! copies -/
section
variable {P : Program} {w0 : World} {n : Nat} {l : FL} {H : Heap} {o : Oper}
theorem Z.copy {α : Type} {F : Nat → Prop} {f : α → List Value} {d x : Operand} {t t2 e e' : TypeId} {b off dlen dcap : Nat} {u : Value} {cs : List Value} {ys : List α} (hv : Var e H b cs) (hr : Rd F H f 1 u ys) (hf1 : ∀ x, (f x).length = 1) (ho1 : ∀ x, ∀ u ∈ f x, u.oneCell' = true) (ho : o.op = .call { callee := .builtin .copy, args := #[d, x], argTypes := #[t, t2] })
    (ht : P.underlying t = some (.slice e')) (hs : ∀ w, (sizeOf e').run P w = .ok 1 w) (hd : opv l d = some (.slice (some ⟨b, off, none⟩) dlen dcap)) (hx : opv l x = some u) (hfit : off + dlen ≤ cs.length) (k : Nat) (hk : k = min ys.length dlen) :
    Z P w0 n l H o (fun r H' => r = .int .i64 k ∧ Var e H' b (splice cs off ((ys.take k).flatMap f)) ∧ Mo (fun g => g = b) H H') := by
  intro a w hf ha
  obtain ⟨fz, hb1, hb2⟩ := id hv.row
  have hlen : ((ys.take k).flatMap f).length = k := by rw [length_flatMap hf1, Nat.mul_one, List.length_take]; omega
  have h1 : ∀ c ∈ (ys.take k).flatMap f, c.oneCell' = true := by
    intro c hc
    obtain ⟨y, _, hy⟩ := List.mem_flatMap.1 hc
    exact ho1 y c hy
  obtain ⟨ad, cap, rfl, _, _, h3⟩ := id hr.ex
  have hkk : Nat.min ys.length dlen = k := hk.symm
  have hfc : (Builtin.firstCells 1 k (.slice ad ys.length cap)).run P w = .ok ((ys.take k).flatMap f).toArray w := by
    cases ad with
    | none =>
      have hys : ys = [] := by
        apply Decidable.byContradiction; intro hne
        obtain ⟨ad, hn, _⟩ := h3 hne
        cases hn
      subst hys
      simp [Builtin.firstCells]
    | some ad =>
      have hp := hr.pts hf1 rfl ha
      exact run_firstCells_some (P := P) w 1 k ad ys.length cap _ (by rw [hlen, Nat.mul_one]) (fun j v hj => hp j v (by
        have hys : ys.flatMap f = (ys.take k).flatMap f ++ (ys.drop k).flatMap f := by rw [← List.flatMap_append, List.take_append_drop]
        rw [hys, List.getElem?_append_left (List.getElem?_eq_some_iff.1 hj).1]; exact hj))
  have hst := run_storeCells_soft P b off e fz ((ys.take k).flatMap f) 0 cs.toArray w (by rw [ha.heap]; exact hb1) hb2 (by rw [hlen]; simp; omega) h1
  simp only [Nat.add_zero] at hst
  refine ⟨_, _, w.setRow b (splice cs off ((ys.take k).flatMap f)).toArray, ?_, ha.row _ _, rfl, ⟨setRow_row ha hv.row (by simp [splice, hlen]; omega)⟩, setRow_mo ha _ _⟩
  simp [execOp, ho, hf.eval hd, hf.eval hx, resolve, invoke, builtin, Builtin.copy_, run_underlying ht, Builtin.lenOf, hs, hkk, hfc, hst, splice, goInt]
end
/-! results in variables -/
section
variable {P : Program} {w0 : World} {H : Heap} {n : Nat} {l : FL}
theorem run_loadPt {ty : TypeId} {ad : Addr} {cs : List Value} {k : Nat} {w : World} (ha : At w0 H w) (h : Pt H ad cs) (ht : ∀ w, (isAgg ty).run P w = .ok true w) (hs : ∀ w, (sizeOf ty).run P w = .ok k w) (hk : cs.length = k) : (loadVar ty ad).run P w = .ok (.agg cs.toArray) w := by
  have := run_loadCellsFrom (P := P) (w := w) h.spot k 0 cs #[] hk (fun j c e => by rw [ha.cell]; simpa using h.cells j c e)
  simp [loadVar, ht, hs, loadCells, this]
theorem resC {fn : Func} {p : Nat} {ty : TypeId} {ad : Addr} {cs : List Value} {k : Nat} (h : fn.results = #[.cell p ty]) (e : lk l p = some (.pointer (some ad))) (hp : Pt H ad cs) (ht : ∀ w, (isAgg ty).run P w = .ok true w) (hs : ∀ w, (sizeOf ty).run P w = .ok k w) (hk : cs.length = k) :
    ∀ a w, Fr n l a → At w0 H w → (results fn a.tmps).run P w = .ok (.agg cs.toArray) w := by
  intro a w hf ha
  have h1 := hf.get p _ e
  have h2 := run_loadPt (P := P) ha hp ht hs hk
  simp only [results, h]
  simp [h1, asAddr, h2]
end
end Go.Proofs.Ytepdhokpfecdnaa.E
/-
  Function values, and numbers that are not below 0: no condition.
-/
namespace Go.Proofs.Ytepdhokpfecdnaa.E
set_option linter.unusedVariables false
set_option linter.unusedSimpArgs false
set_option linter.unusedSectionVars false
/-- called with these arguments, the function value does this -/
def Clo (P : Program) (w0 : World) (v : Value) (args : List Value) (H : Heap) (R : Value → Heap → Prop) : Prop :=
  ∃ f caps, v = .func (.func f) #[] caps ∧ (∀ (vs : Array Value) (w : World), (callFunc f vs).run P w = .ok (.enter f vs) w) ∧ Ct P w0 f (args.toArray ++ caps) H R
section
variable {P : Program} {w0 : World} {Q : Exit → Act → World → Prop} {n : Nat} {l : FL} {H : Heap} {ops : Array Oper} {rest : List Oper} {o : Oper}
theorem Clo.of {f : FuncId} {caps : List Value} {args : List Value} {R : Value → Heap → Prop} (hcall : ∀ (vs : Array Value) (w : World), (callFunc f vs).run P w = .ok (.enter f vs) w) (h : Ct P w0 f (args ++ caps).toArray H R) : Clo P w0 (.func (.func f) #[] caps.toArray) args H R :=
  ⟨f, caps.toArray, rfl, hcall, by simpa using h⟩
theorem LR.calld {R : Value → Heap → Prop} {d : Nat} {c : Operand} {cv : Value} {args : List Operand} {ats : Array TypeId} {vs : List Value} (ho : o.op = .call { callee := .value c, args := args.toArray, argTypes := ats })
    (hcv : opv l c = some cv) (hv : opvs l args = some vs) (hw : Wd ops l o) (hd : o.dst = some d) (hn : Nat.blt d n = true) (hc : Clo P w0 cv vs H R)
    (h : ∀ v H', R v H' → LR false P w0 ops Q n ((d, v) :: l) rest H') : LR false P w0 ops Q n l (o :: rest) H := by
  intro a w hf ha
  simp only [Md]
  obtain ⟨f, caps, rfl, hcall, hct⟩ := hc
  have hr : (execOp a.eval o).run P w = .ok (.enter f (vs.toArray ++ caps)) w := by
    have h2 := hf.evals hv
    have h3 : (args.toArray.map a.eval) = vs.toArray := by rw [List.map_toArray, h2]
    simp [execOp, ho, resolve, Deferred.ofValue, hf.eval hcv, invoke, hcall, h2]
  unfold wpList
  rw [if_pos (hw n a hf)]
  refine .inl ?_
  unfold Oper.wp
  rw [hr]
  show Calls P f (vs.toArray ++ caps) w _
  refine (hct w ha).mono ?_
  rintro e w' ⟨r, H', rfl, ha', hR⟩
  have hp := hf.put hn r
  rw [← hd] at hp
  exact h r H' hR _ w' hp ha'
theorem Y.makeFunc {f : FuncId} {caps : List Operand} {vs : List Value} (ho : o.op = .makeFunc (.func f) #[] caps.toArray) (hv : opvs l caps = some vs) : Y P w0 n l H o (.func (.func f) #[] vs.toArray) := by
  intro a w hf ha
  have h2 := hf.evals hv
  simp [execOp, ho, Instr.makeFunc, h2]
theorem Y.shrn {x y : Operand} {t u : TypeId} {k2 : IntKind} {a : Nat} {iv : Int} (j : Nat) (ho : o.op = .binOp .shr t x y u) (hx : opv l x = some (.int .i64 a)) (hy : opv l y = some (.int k2 iv)) (hj : iv = j) (hlt : j ≤ 64) : Y P w0 n l H o (.int .i64 ((a / 2 ^ j : Nat) : Int)) := by
  have h := Y.shr (P := P) (w0 := w0) (n := n) (H := H) ho hx hy (by omega)
  rw [hj, Int.toNat_natCast, show min j IntKind.i64.bits = j from Nat.min_eq_left hlt] at h
  rw [show (a : Int).fdiv (2 ^ j) = ((a / 2 ^ j : Nat) : Int) by
    rw [Int.fdiv_eq_ediv_of_nonneg _ (by exact Int.le_of_lt (Int.pow_pos (by decide)))]; simp] at h
  exact h
theorem Y.shln {x y : Operand} {t u : TypeId} {k2 : IntKind} {a : Nat} {iv : Int} (j : Nat) (ho : o.op = .binOp .shl t x y u) (hx : opv l x = some (.int .i64 a)) (hy : opv l y = some (.int k2 iv)) (hj : iv = j) (hlt : j ≤ 64) (hb : a * 2 ^ j ≤ 9223372036854775807) : Y P w0 n l H o (.int .i64 ((a * 2 ^ j : Nat) : Int)) := by
  have h := Y.shl (P := P) (w0 := w0) (n := n) (H := H) ho hx hy (by omega)
  rw [hj, Int.toNat_natCast, show min j IntKind.i64.bits = j from Nat.min_eq_left hlt] at h
  rw [show ((a : Int) * 2 ^ j) = ((a * 2 ^ j : Nat) : Int) by simp, IntWalk.i64_in _ (by omega)] at h
  exact h
theorem Y.conv8i {x : Operand} {s d : TypeId} {b : UInt8} {ds : TypeDesc} (ho : o.op = .convert s d x) (hs : ∀ w, (underlying s).run P w = .ok ds w) (hd : ∀ w, (underlying d).run P w = .ok (.int .i64) w) (hx : opv l x = some (.int .u8 b.toNat)) : Y P w0 n l H o (.int .i64 (b.toNat : Nat)) :=
  Y.convi ho hs hd hx (IntWalk.i64_in _ (by have := b.toNat_lt; omega))
theorem ofInt_nat {a : Nat} (h : a ≤ 9223372036854775807) : (BitVec.ofInt IntKind.i64.bits (a : Int)).toNat = a := by
  show (BitVec.ofInt 64 (a : Int)).toNat = a
  rw [BitVec.toNat_ofInt]
  omega
theorem Y.orn {x y : Operand} {t u : TypeId} {a b : Nat} (ho : o.op = .binOp .or t x y u) (hx : opv l x = some (.int .i64 a)) (hy : opv l y = some (.int .i64 b)) (h1 : a ≤ 9223372036854775807) (h2 : b ≤ 9223372036854775807) : Y P w0 n l H o (.int .i64 ((a ||| b : Nat) : Int)) := by
  refine Y.bits .or _ ho hx hy (by simp) (fun w => ?_)
  have h3 : a ||| b < 2 ^ 63 := Nat.or_lt_two_pow (by omega) (by omega)
  have e : (BitVec.ofInt IntKind.i64.bits (a : Int) ||| BitVec.ofInt IntKind.i64.bits (b : Int)).toNat = a ||| b := by
    rw [BitVec.toNat_or, ofInt_nat h1, ofInt_nat h2]
  show (pure (Value.int .i64 (IntKind.i64.wrap ((BitVec.ofInt IntKind.i64.bits (a : Int) ||| BitVec.ofInt IntKind.i64.bits (b : Int)).toNat : Int))) : Sem Value).run P w = _
  rw [e, IntWalk.i64_in _ (by omega)]
  rfl
end
end Go.Proofs.Ytepdhokpfecdnaa.E
/-
  Maps whose keys are arrays of bytes, deletes, entries written in place, ranges over maps, calls through an interface: no condition.
-/
namespace Go.Proofs.Ytepdhokpfecdnaa.E
open Go.MapKept
set_option linter.unusedVariables false
set_option linter.unusedSimpArgs false
set_option linter.unusedSectionVars false

/-- 32 bytes -/
abbrev Ide := { l : List UInt8 // l.length = 32 }
def fA (x : Ide) : List Value := x.1.map (fun b => Value.int .u8 b.toNat)
def vA (x : Ide) : Value := .agg (fA x).toArray
theorem fA_len : ∀ x, (fA x).length = 32 := fun x => by simp [fA, x.2]
theorem fA_one : ∀ x, ∀ u ∈ fA x, u.oneCell' = true := fun x u hu => by
  obtain ⟨b, _, rfl⟩ := List.mem_map.1 hu
  rfl
def Zid : Ide := ⟨List.replicate 32 0, by simp⟩
instance : Inhabited Ide := ⟨Zid⟩
theorem bytes_inj {xs ys : List UInt8} (h : xs.map (fun b => Value.int .u8 (b.toNat : Int)) = ys.map (fun b => Value.int .u8 (b.toNat : Int))) : xs = ys := by
  refine (List.map_inj_right (fun a b h => ?_)).1 h
  simp only [Value.int.injEq, true_and] at h
  exact UInt8.toNat_inj.1 (by omega)
theorem vA_inj {x y : Ide} (h : vA x = vA y) : x = y := by
  unfold vA fA at h
  simp only [Value.agg.injEq] at h
  exact Subtype.ext (bytes_inj (by simpa using congrArg Array.toList h))
theorem nodup_inj {α β : Type} {f : α → β} : ∀ {l : List α}, (l.map f).Nodup → ∀ {x y : α}, x ∈ l → y ∈ l → f x = f y → x = y
  | [], _, _, _, h, _, _ => by cases h
  | a :: l, hn, x, y, hx, hy, e => by
    simp only [List.map_cons, List.nodup_cons] at hn
    rcases List.mem_cons.1 hx with rfl | hx2 <;> rcases List.mem_cons.1 hy with rfl | hy2
    · rfl
    · exact (hn.1 (List.mem_map.2 ⟨y, hy2, e.symm⟩)).elim
    · exact (hn.1 (List.mem_map.2 ⟨x, hx2, e⟩)).elim
    · exact nodup_inj hn.2 hx2 hy2 e
theorem Ow.fre {α : Type} {k h : Nat} {e : TypeId} {H : Heap} {f : α → List Value} {sz : Nat} {v : Value} {l : List α} (x : Ow k e H f sz v l) (hk : Nx 0 h k) : Rd (fun b => h ≤ b) H f sz v l := x.rd.imp (fun b _ e => by unfold Nx at hk; omega)
/-- keys that are arrays -/
structure KeyA {κ : Type} [DecidableEq κ] (P : Program) (kt : TypeId) (fk : κ → Value) : Prop where
  und : ∃ len e, P.underlying kt = some (.array len e)
  check : ∀ em k w, (Instr.checkKey em 10000 kt (fk k)).run P w = .ok () w
  eq : ∀ a b w, (Op.equal kt (fk a) (fk b)).run P w = .ok (decide (a = b)) w
  same : ∀ k, Instr.sameBits 10000 (fk k) (fk k) = true
  inj : ∀ a b, fk a = fk b → a = b

theorem run_forIn_unit {P : Program} {w : World} {α : Type} : ∀ (l : List α) (body : α → PUnit → Sem (ForInStep PUnit)), (∀ a ∈ l, (body a ()).run P w = .ok (.yield ()) w) → (forIn l () body).run P w = .ok () w
  | [], body, h => by simp
  | a :: l, body, h => by
    rw [List.forIn_cons, Sem.run_bind, h a (.head _)]
    simp only [Result.andThen_ok]
    exact run_forIn_unit l body (fun b hb => h b (.tail _ hb))

theorem keyI {P : Program} {t e : TypeId} (ht : P.underlying t = some (.array 32 e)) (he : P.underlying e = some (.int .u8)) (hs : ∀ w, (sizeOf e).run P w = .ok 1 w) (hg : ∀ w, (isAgg e).run P w = .ok false w) : KeyA P t vA := by
  refine ⟨⟨_, _, ht⟩, fun em k w => ?_, fun a b w => ?_, fun k => ?_, fun a b h => vA_inj h⟩
  · show (Instr.checkKey em (9999 + 1) t (vA k)).run P w = _
    unfold Instr.checkKey vA
    simp only [Sem.run_bind, run_underlying ht, Result.andThen_ok]
    rw [Std.Legacy.Range.forIn_eq_forIn_range']
    refine (congrArg (fun r => Result.andThen r _) (run_forIn_unit _ _ (fun i hi => ?_))).trans rfl
    have hi' : i < 32 := by
      simp [Std.Legacy.Range.size] at hi
      omega
    have hl := fA_len k
    have p1 : (part e (fA k).toArray (i * 1)).run P w = .ok ((fA k)[i]'(by rw [hl]; exact hi')) w := by simp [part, hg, hl, hi']
    have p2 : ∀ b : UInt8, (Instr.checkKey em (9998 + 1) e (Value.int .u8 b.toNat)).run P w = .ok () w := by
      intro b
      unfold Instr.checkKey
      simp [run_underlying he]
    have p3 : (fA k)[i]'(by rw [hl]; exact hi') = Value.int .u8 ((k.1[i]'(by rw [k.2]; exact hi')).toNat : Int) := by simp [fA]
    simp only [Sem.run_bind, hs, p1, p3, Result.andThen_ok]
    rw [p2]
    simp
  · have h := run_equalIn_id (P := P) (Op.maxDepth - 2) (xs := a.1) (ys := b.1) ht he hs hg a.2 b.2 w
    rw [show decide (a = b) = decide (a.1 = b.1) from decide_eq_decide.2 Subtype.ext_iff]
    exact h
  · unfold vA
    show Instr.sameBits (9999 + 1) _ _ = true
    unfold Instr.sameBits
    simp only [beq_self_eq_true, Bool.true_and, List.all_eq_true]
    intro p hp
    obtain ⟨i, h1, h2⟩ := List.mem_iff_getElem.1 hp
    rw [List.getElem_zip] at h2
    subst h2
    simp [fA, Instr.sameBits]

section
variable {P : Program} {w0 : World} {n : Nat} {l : FL} {H : Heap} {o : Oper}
variable {κ β : Type} [DecidableEq κ] {G : Nat → Prop} {fk : κ → Value} {fv : β → Value} {v : Value} {m : List (κ × β)} {kt : TypeId} {b : Nat}

theorem find_entriesA {k : κ} {w : World} (hk : KeyA P kt fk) : ∀ (es : List MapEntry) (m : List (κ × β)) (i : Nat), es.map (fun e => (e.key, e.val)) = m.map (fun p => (fk p.1, fv p.2)) →
    (mget m k = none ∧ (Instr.findAsking kt (fk k) es i).run P w = .ok none w ∧ ∀ x ∈ es, x.key ≠ fk k) ∨ ∃ j e b, mget m k = some b ∧ (Instr.findAsking kt (fk k) es i).run P w = .ok (some (i + j, fv b)) w ∧ es[j]? = some e ∧ e.key = fk k ∧ e.val = fv b
  | [], m, i, h => by
    have : m = [] := by cases m <;> simp_all
    subst this
    exact .inl ⟨rfl, by simp [Instr.findAsking], by simp⟩
  | e :: es, m, i, h => by
    match m, h with
    | (a, c) :: m, h =>
      simp only [List.map_cons, List.cons.injEq, Prod.mk.injEq] at h
      obtain ⟨⟨h1, h2⟩, h3⟩ := h
      have hq := hk.eq k a w
      rw [← h1] at hq
      by_cases hka : k = a
      · subst hka
        simp only [decide_true] at hq
        exact .inr ⟨0, e, c, by simp [mget], by simp [Instr.findAsking, hq, h2], rfl, h1, h2⟩
      · simp only [hka, decide_false] at hq
        rcases find_entriesA (k := k) (w := w) hk es m (i + 1) h3 with ⟨q1, q2, q3⟩ | ⟨j, e', b', q1, q2, q3, q4, q5⟩
        · refine .inl ⟨?_, by simp [Instr.findAsking, hq, q2], ?_⟩
          · simp only [mget, hka, if_false]; exact q1
          · intro x hx
            cases hx with
            | head => intro q; exact hka (hk.inj _ _ (by rw [← q, h1]))
            | tail _ hx => exact q3 x hx
        · refine .inr ⟨j + 1, e', b', ?_, ?_, by simpa using q3, q4, q5⟩
          · simp only [mget, hka, if_false]; exact q1
          · simp [Instr.findAsking, hq, q2]; omega

theorem run_findKeyA {k : κ} {w : World} (hk : KeyA P kt fk) (es : List MapEntry) : (Instr.findKey kt (fk k) es).run P w = (Instr.findAsking kt (fk k) es 0).run P w := by
  obtain ⟨len, e, hu⟩ := hk.und
  cases es with
  | nil => simp [Instr.findKey, run_underlying hu, Instr.findNow, Instr.findAsking]
  | cons x es =>
    have : Instr.findNow (.array len e) (fk k) (x :: es) 0 = none := by
      unfold Instr.findNow Instr.sameNow
      rfl
    simp [Instr.findKey, run_underlying hu, this]
theorem run_staysA {k : κ} {w : World} (hk : KeyA P kt fk) : (Instr.keyThatStays (fk k) (fk k)).run P w = .ok (fk k) w := by
  simp [Instr.keyThatStays, hk.same]

theorem run_lookupA {w : World} {t et : TypeId} {z : Value} {k : κ} {ok : Bool} (h : MapOf G H fk fv v m) (hk : KeyA P kt fk) (ha : At w0 H w) (hm : ∀ w, (underlying t).run P w = .ok (.map kt et) w) (hz : ∀ w, (zeroValue et).run P w = .ok z w) :
    (Instr.lookup t v (fk k) ok).run P w = .ok (if ok then .tuple #[(match mget m k with | some b => fv b | none => z), .bool (mget m k).isSome] else (match mget m k with | some b => fv b | none => z)) w := by
  obtain ⟨r, es, clock, rfl, h2, h3, h4, h5⟩ := h.ex
  have h3' : w.heap[r]? = some (.map es clock) := by rw [ha.heap]; exact h3
  rcases find_entriesA (k := k) (w := w) hk es.toList m 0 h5 with ⟨q1, q2, q3⟩ | ⟨j, e', b', q1, q2, q3, q4, q5⟩
  · simp [Instr.lookup, hm, MapKept.run_getObj_map h3', hk.check, run_findKeyA hk, q2, q1, hz]
  · simp [Instr.lookup, hm, MapKept.run_getObj_map h3', hk.check, run_findKeyA hk, q2, q1]
theorem Y.lookupOkA {t et : TypeId} {x i : Operand} {k : κ} {z0 : β} (h : MapOf G H fk fv v m) (hk : KeyA P kt fk) (ho : o.op = .lookup t x i true) (hm : ∀ w, (underlying t).run P w = .ok (.map kt et) w) (hz : ∀ w, (zeroValue et).run P w = .ok (fv z0) w)
    (hx : opv l x = some v) (hi : opv l i = some (fk k)) : Y P w0 n l H o (.tuple #[fv ((mget m k).getD z0), .bool (mget m k).isSome]) := by
  intro ac w hf ha
  have hr := run_lookupA (k := k) (ok := true) h hk ha hm hz
  have : (match mget m k with | some b => fv b | none => fv z0) = fv ((mget m k).getD z0) := by cases mget m k <;> rfl
  rw [this] at hr
  simp [execOp, ho, hf.eval hx, hf.eval hi, hr]
theorem Y.lookupA {t et : TypeId} {x i : Operand} {k : κ} {z0 : β} (h : MapOf G H fk fv v m) (hk : KeyA P kt fk) (ho : o.op = .lookup t x i false) (hm : ∀ w, (underlying t).run P w = .ok (.map kt et) w) (hz : ∀ w, (zeroValue et).run P w = .ok (fv z0) w)
    (hx : opv l x = some v) (hi : opv l i = some (fk k)) : Y P w0 n l H o (fv ((mget m k).getD z0)) := by
  intro ac w hf ha
  have hr := run_lookupA (k := k) (ok := false) h hk ha hm hz
  have : (match mget m k with | some b => fv b | none => fv z0) = fv ((mget m k).getD z0) := by cases mget m k <;> rfl
  rw [this] at hr
  simp [execOp, ho, hf.eval hx, hf.eval hi, hr]

theorem mo_set {r : Nat} (ob : Obj) : Mo (fun c => c = r) H (H.setIfInBounds r ob) := ⟨by simp, fun b hb hne => by simp [Ne.symm hne]⟩
theorem modify_entriesA {k : κ} {b : β} {key : Value} (hinj : ∀ a b, fk a = fk b → a = b) (hkey : key = fk k) : ∀ (es : List MapEntry) (m : List (κ × β)) (j : Nat) (e : MapEntry), es.map (fun e => (e.key, e.val)) = m.map (fun p => (fk p.1, fv p.2)) → (es.map (·.key)).Nodup → es[j]? = some e → e.key = fk k →
    (es.modify j (fun e => { e with key := key, val := fv b })).map (fun e => (e.key, e.val)) = (m.map (fun p => if p.1 = k then (p.1, b) else p)).map (fun p => (fk p.1, fv p.2))
  | [], _, _, _, _, _, h, _ => by simp at h
  | x :: es, m, j, e, h, hn, hj, he => by
    match m, h with
    | (a, c) :: m, h =>
      simp only [List.map_cons, List.cons.injEq, Prod.mk.injEq] at h
      obtain ⟨⟨h1, h2⟩, h3⟩ := h
      simp only [List.map_cons, List.nodup_cons] at hn
      cases j with
      | zero =>
        simp only [List.getElem?_cons_zero, Option.some.injEq] at hj
        subst hj
        have hak : a = k := hinj _ _ (by rw [← h1, he])
        subst hak
        simp only [List.modify_zero_cons, List.map_cons, if_true, hkey]
        congr 1
        rw [h3, List.map_map]
        apply List.map_congr_left
        intro p hp
        have : p.1 ≠ a := by
          intro e
          apply hn.1
          have : (fk p.1, fv p.2) ∈ es.map (fun e => (e.key, e.val)) := by rw [h3]; exact List.mem_map.2 ⟨p, hp, rfl⟩
          obtain ⟨y, hy, hye⟩ := List.mem_map.1 this
          simp only [Prod.mk.injEq] at hye
          exact List.mem_map.2 ⟨y, hy, by rw [hye.1, e, h1]⟩
        simp [this]
      | succ j =>
        simp only [List.getElem?_cons_succ] at hj
        have hak : a ≠ k := by
          intro q
          subst q
          apply hn.1
          rw [h1, ← he]
          exact List.mem_map.2 ⟨e, List.mem_of_getElem? hj, rfl⟩
        simp only [List.modify_succ_cons, List.map_cons, hak, if_false, h1, h2]
        rw [modify_entriesA hinj hkey es m j e h3 hn.2 hj he]

theorem S.putA {t et : TypeId} {x i y : Operand} {k : κ} (z : β) (h : Mp H fk fv b m) (hk : KeyA P kt fk) (ho : o.op = .mapUpdate t x i y) (hm : ∀ w, (underlying t).run P w = .ok (.map kt et) w)
    (hx : opv l x = some (.map (some b))) (hi : opv l i = some (fk k)) (hy : opv l y = some (fv z)) : S P w0 n l H o (fun H' => Mp H' fk fv b (mput m k z) ∧ Mo (fun c => c = b) H H') := by
  intro ac w hf ha
  obtain ⟨r, es, clock, hv, h2, h3, h4, h5⟩ := h.mo.ex
  obtain rfl := h2
  have h3' : w.heap[r]? = some (.map es clock) := by rw [ha.heap]; exact h3
  have hlt := (Array.getElem?_eq_some_iff.1 h3).1
  have hget : ∀ ob, (H.setIfInBounds r ob)[r]? = some ob := fun ob => by simp [hlt]
  rcases find_entriesA (k := k) (w := w) hk es.toList m 0 h5 with ⟨q1, q2, q3⟩ | ⟨j, e', b', q1, q2, q3, q4, q5⟩
  · refine ⟨H.setIfInBounds r (.map (es.push { key := fk k, val := fv z, born := clock }) (clock + 1)), { w with heap := H.setIfInBounds r (.map (es.push { key := fk k, val := fv z, born := clock }) (clock + 1)) }, ?_, ha.set, ⟨⟨r, _, _, rfl, rfl, hget _, stamped_push h4 q3, ?_⟩⟩, mo_set _⟩
    · simp [execOp, ho, hf.eval hx, hf.eval hi, hf.eval hy, Instr.mapUpdate, hm, MapKept.run_getObj_map h3', hk.check, run_findKeyA hk, q2, MapKept.run_setObj_map _ h3', ha.heap]
    · simp [mput, q1, h5]
  · have hj : es[j]? = some e' := by simpa using q3
    have hkey : ∀ e, es[j]? = some e → ({ e with key := fk k, val := fv z } : MapEntry).key = e.key := fun e he => by rw [hj] at he; cases he; exact q4.symm
    refine ⟨H.setIfInBounds r (.map (es.modify j fun e => { e with key := fk k, val := fv z }) clock), { w with heap := H.setIfInBounds r (.map (es.modify j fun e => { e with key := fk k, val := fv z }) clock) }, ?_, ha.set, ⟨⟨r, _, _, rfl, rfl, hget _, stamped_modify h4 _ _ (fun _ _ => rfl) (fun e _ he => hkey e he), ?_⟩⟩, mo_set _⟩
    · simp [execOp, ho, hf.eval hx, hf.eval hi, hf.eval hy, Instr.mapUpdate, hm, MapKept.run_getObj_map h3', hk.check, run_findKeyA hk, q2, hj, q4, run_staysA hk, MapKept.run_setObj_map _ h3', ha.heap]
    · have := modify_entriesA (fv := fv) (b := z) hk.inj rfl es.toList m j e' h5 h4.2.2 q3 q4
      rw [Array.toList_modify, this]
      simp [mput, q1]

/-- without a key -/
def mdel (m : List (κ × β)) (k : κ) : List (κ × β) := m.filter (fun p => decide (p.1 ≠ k))
theorem mget_del (m : List (κ × β)) (k q : κ) : mget (mdel m k) q = if q = k then none else mget m q := by
  induction m with
  | nil => simp [mdel, mget]
  | cons p m ih =>
    unfold mdel at ih ⊢
    by_cases hp : p.1 = k
    · rw [List.filter_cons_of_neg (by simp [hp]), ih]
      by_cases hq : q = k
      · simp [hq]
      · rw [if_neg hq, if_neg hq]; simp only [mget]; rw [if_neg (fun e => hq (e.trans hp))]
    · rw [List.filter_cons_of_pos (by simp [hp])]
      simp only [mget]
      by_cases hq : q = p.1
      · rw [if_pos hq, if_pos hq, if_neg (fun e => hp (hq.symm.trans e))]
      · rw [if_neg hq, if_neg hq, ih]
theorem mget_mem {m : List (κ × β)} {k : κ} {z : β} (h : mget m k = some z) : (k, z) ∈ m := by
  induction m with
  | nil => cases h
  | cons p m ih =>
    simp only [mget] at h
    split at h
    · rename_i e; cases h; rw [e]; exact .head _
    · exact .tail _ (ih h)
theorem mget_none {m : List (κ × β)} {k : κ} (h : mget m k = none) : ∀ p ∈ m, p.1 ≠ k := by
  induction m with
  | nil => simp
  | cons p m ih =>
    simp only [mget] at h
    split at h
    · cases h
    · rename_i hne
      intro q hq e
      cases hq with
      | head => exact hne e.symm
      | tail _ hq => exact ih h q hq e
theorem isSome_iff_key {m : List (κ × β)} {k : κ} : (mget m k).isSome = true ↔ k ∈ m.map (·.1) := by
  constructor
  · intro h
    obtain ⟨z, hz⟩ := Option.isSome_iff_exists.1 h
    exact List.mem_map.2 ⟨_, mget_mem hz, rfl⟩
  · intro h
    obtain ⟨p, hp, e⟩ := List.mem_map.1 h
    cases hg : mget m k with
    | some z => rfl
    | none => exact absurd e (mget_none hg p hp)
theorem erase_entries {k : κ} (hinj : ∀ a b, fk a = fk b → a = b) : ∀ (es : List MapEntry) (m : List (κ × β)) (j : Nat) (e : MapEntry), es.map (fun e => (e.key, e.val)) = m.map (fun p => (fk p.1, fv p.2)) → (es.map (·.key)).Nodup → es[j]? = some e → e.key = fk k →
    (es.eraseIdx j).map (fun e => (e.key, e.val)) = (mdel m k).map (fun p => (fk p.1, fv p.2))
  | [], _, _, _, _, _, h, _ => by simp at h
  | x :: es, m, j, e, h, hn, hj, he => by
    match m, h with
    | (a, c) :: m, h =>
      simp only [List.map_cons, List.cons.injEq, Prod.mk.injEq] at h
      obtain ⟨⟨h1, h2⟩, h3⟩ := h
      simp only [List.map_cons, List.nodup_cons] at hn
      cases j with
      | zero =>
        simp only [List.getElem?_cons_zero, Option.some.injEq] at hj
        subst hj
        have hak : a = k := hinj _ _ (by rw [← h1, he])
        subst hak
        have hm : mdel ((a, c) :: m) a = m := by
          unfold mdel
          rw [List.filter_cons_of_neg (by simp)]
          apply List.filter_eq_self.2
          intro p hp
          simp only [decide_eq_true_eq]
          intro e
          apply hn.1
          have : (fk p.1, fv p.2) ∈ es.map (fun e => (e.key, e.val)) := by rw [h3]; exact List.mem_map.2 ⟨p, hp, rfl⟩
          obtain ⟨y, hy, hye⟩ := List.mem_map.1 this
          simp only [Prod.mk.injEq] at hye
          exact List.mem_map.2 ⟨y, hy, by rw [hye.1, e, h1]⟩
        rw [hm]
        simpa using h3
      | succ j =>
        simp only [List.getElem?_cons_succ] at hj
        have hak : a ≠ k := by
          intro q
          subst q
          apply hn.1
          rw [h1, ← he]
          exact List.mem_map.2 ⟨e, List.mem_of_getElem? hj, rfl⟩
        have hm : mdel ((a, c) :: m) k = (a, c) :: mdel m k := by
          unfold mdel
          rw [List.filter_cons_of_pos (by simp [hak])]
        rw [hm]
        simp only [List.eraseIdx_cons_succ, List.map_cons, h1, h2]
        rw [erase_entries hinj es m j e h3 hn.2 hj he]
theorem Z.delA {t u et : TypeId} {x i : Operand} {k : κ} (h : Mp H fk fv b m) (hk : KeyA P kt fk) (ho : o.op = .call { callee := .builtin .delete, args := #[x, i], argTypes := #[t, u] }) (hm : ∀ w, (underlying t).run P w = .ok (.map kt et) w)
    (hx : opv l x = some (.map (some b))) (hi : opv l i = some (fk k)) : Z P w0 n l H o (fun r H' => r = .tuple #[] ∧ Mp H' fk fv b (mdel m k) ∧ Mo (fun c => c = b) H H') := by
  intro ac w hf ha
  obtain ⟨r, es, clock, hv, h2, h3, h4, h5⟩ := h.mo.ex
  obtain rfl := h2
  have h3' : w.heap[r]? = some (.map es clock) := by rw [ha.heap]; exact h3
  have hlt := (Array.getElem?_eq_some_iff.1 h3).1
  have hget : ∀ ob, (H.setIfInBounds r ob)[r]? = some ob := fun ob => by simp [hlt]
  rcases find_entriesA (k := k) (w := w) hk es.toList m 0 h5 with ⟨q1, q2, q3⟩ | ⟨j, e', b', q1, q2, q3, q4, q5⟩
  · refine ⟨_, H.setIfInBounds r (.map es clock), { w with heap := H.setIfInBounds r (.map es clock) }, ?_, ha.set, rfl, ⟨⟨r, _, _, rfl, rfl, hget _, h4, ?_⟩⟩, mo_set _⟩
    · simp [execOp, ho, hf.eval hx, hf.eval hi, resolve, invoke, builtin, Builtin.delete_, hm, MapKept.run_getObj_map h3', hk.check, run_findKeyA hk, q2, MapKept.run_setObj_map _ h3', ha.heap]
    · rw [h5]
      congr 1
      unfold mdel
      exact (List.filter_eq_self.2 (fun p hp => by simpa using mget_none q1 p hp)).symm
  · have hj : es[j]? = some e' := by simpa using q3
    refine ⟨_, H.setIfInBounds r (.map (es.eraseIdxIfInBounds j) clock), { w with heap := H.setIfInBounds r (.map (es.eraseIdxIfInBounds j) clock) }, ?_, ha.set, rfl, ⟨⟨r, _, _, rfl, rfl, hget _, stamped_erase h4 _, ?_⟩⟩, mo_set _⟩
    · simp [execOp, ho, hf.eval hx, hf.eval hi, resolve, invoke, builtin, Builtin.delete_, hm, MapKept.run_getObj_map h3', hk.check, run_findKeyA hk, q2, MapKept.run_setObj_map _ h3', ha.heap]
    · have hjl : j < es.size := (Array.getElem?_eq_some_iff.1 hj).1
      rw [Array.eraseIdxIfInBounds, dif_pos hjl, Array.toList_eraseIdx]
      exact erase_entries hk.inj es.toList m j e' h5 h4.2.2 q3 q4

/-! ### entries that are written in place -/
def ment (m : List (κ × β)) (k : κ) (z : β) : List (κ × β) := if (mget m k).isSome then m else m ++ [(k, z)]
/-- the block b is a map that holds m; the entry of k was made at q -/
structure Mq (H : Heap) (fk : κ → Value) (fv : β → Value) (b : Nat) (m : List (κ × β)) (k : κ) (q : Int) : Prop where
  ex : ∃ es clock, H[b]? = some (.map es clock) ∧ Stamped es clock ∧ es.toList.map (fun e => (e.key, e.val)) = m.map (fun p => (fk p.1, fv p.2)) ∧ ∃ e ∈ es.toList, (e.born : Int) = q ∧ e.key = fk k
theorem Mq.mp {k : κ} {q : Int} (h : Mq H fk fv b m k q) : Mp H fk fv b m := by
  obtain ⟨es, clock, h1, h2, h3, _⟩ := h.ex
  exact ⟨⟨b, es, clock, rfl, rfl, h1, h2, h3⟩⟩
theorem Mq.lt {k : κ} {q : Int} (h : Mq H fk fv b m k q) : b < H.size := h.mp.lt
theorem Mq.up {k : κ} {q : Int} {H' : Heap} {S : Nat → Prop} (h : Mq H fk fv b m k q) (s : Mo S H H') (hS : ¬ S b) : Mq H' fk fv b m k q := by
  obtain ⟨es, clock, h1, h2⟩ := h.ex
  exact ⟨es, clock, by rw [s.same b h.lt hS]; exact h1, h2⟩
theorem Mq.nw {k : κ} {q : Int} {H' : Heap} (h : Mq H fk fv b m k q) (s : Nw H H') : Mq H' fk fv b m k q := h.up s (fun e => e)
theorem Mq.upL {k : κ} {q : Int} {H' : Heap} {ks : List Nat} (h : Mq H fk fv b m k q) (s : Mo (Ms ks) H H') (d : DL (b + 1) ks) : Mq H' fk fv b m k q := h.up s (fun h2 => d (b + 1) h2 b rfl rfl)
theorem Z.entA {t et : TypeId} {x i : Operand} {k : κ} {z0 : β} (h : Mp H fk fv b m) (hk : KeyA P kt fk) (ho : o.op = .mapEntry t x i) (hm : ∀ w, (underlying t).run P w = .ok (.map kt et) w) (hz : ∀ w, (zeroValue et).run P w = .ok (fv z0) w)
    (hx : opv l x = some (.map (some b))) (hi : opv l i = some (fk k)) : Z P w0 n l H o (fun r H' => ∃ q, r = .tuple #[fv ((mget m k).getD z0), .int .i64 q] ∧ Mq H' fk fv b (ment m k z0) k q ∧ Mo (fun c => c = b) H H') := by
  intro ac w hf ha
  obtain ⟨r, es, clock, hv, h2, h3, h4, h5⟩ := h.mo.ex
  obtain rfl := h2
  have h3' : w.heap[r]? = some (.map es clock) := by rw [ha.heap]; exact h3
  have hlt := (Array.getElem?_eq_some_iff.1 h3).1
  have hget : ∀ ob, (H.setIfInBounds r ob)[r]? = some ob := fun ob => by simp [hlt]
  rcases find_entriesA (k := k) (w := w) hk es.toList m 0 h5 with ⟨q1, q2, q3⟩ | ⟨j, e', b', q1, q2, q3, q4, q5⟩
  · refine ⟨.tuple #[fv z0, .int .i64 (clock : Int)], H.setIfInBounds r (.map (es.push { key := fk k, val := fv z0, born := clock }) (clock + 1)), { w with heap := H.setIfInBounds r (.map (es.push { key := fk k, val := fv z0, born := clock }) (clock + 1)) }, ?_, ha.set, (clock : Int), by rw [q1]; rfl, ⟨_, _, hget _, stamped_push h4 q3, ?_, ?_⟩, mo_set _⟩
    · simp [execOp, ho, hf.eval hx, hf.eval hi, Instr.mapEntry, hm, MapKept.run_getObj_map h3', hk.check, run_findKeyA hk, q2, hz, goInt, MapKept.run_setObj_map _ h3', ha.heap]
    · simp [ment, q1, h5]
    · exact ⟨{ key := fk k, val := fv z0, born := clock }, by simp, rfl, rfl⟩
  · have hj : es[j]? = some e' := by simpa using q3
    have hkey : ∀ e, es[j]? = some e → ({ e with key := fk k } : MapEntry).key = e.key := fun e he => by rw [hj] at he; cases he; exact q4.symm
    have hes : (es.modify j fun e => { e with key := fk k }) = es := by
      apply Array.ext_getElem?
      intro q
      rw [Array.getElem?_modify]
      split
      · rename_i e; subst e; rw [hj]; simp [← q4]
      · rfl
    refine ⟨.tuple #[fv b', .int .i64 (e'.born : Int)], H.setIfInBounds r (.map (es.modify j fun e => { e with key := fk k }) clock), { w with heap := H.setIfInBounds r (.map (es.modify j fun e => { e with key := fk k }) clock) }, ?_, ha.set, (e'.born : Int), by rw [q1]; rfl, ⟨_, _, hget _, by rw [hes]; exact h4, ?_, ?_⟩, mo_set _⟩
    · simp [execOp, ho, hf.eval hx, hf.eval hi, Instr.mapEntry, hm, MapKept.run_getObj_map h3', hk.check, run_findKeyA hk, q2, hj, q4, run_staysA hk, goInt, MapKept.run_setObj_map _ h3', ha.heap]
    · rw [hes, h5]
      simp [ment, q1]
    · rw [hes]
      exact ⟨e', List.mem_of_getElem? q3, rfl, q4⟩
theorem S.entA {t : TypeId} {x i y : Operand} {k : κ} {q : Int} (z : β) (h : Mq H fk fv b m k q) (hinj : ∀ a b, fk a = fk b → a = b) (ho : o.op = .entryStore t x i y)
    (hx : opv l x = some (.map (some b))) (hi : opv l i = some (.int .i64 q)) (hy : opv l y = some (fv z)) : S P w0 n l H o (fun H' => Mp H' fk fv b (m.map (fun p => if p.1 = k then (p.1, z) else p)) ∧ Mo (fun c => c = b) H H') := by
  intro ac w hf ha
  obtain ⟨es, clock, h3, h4, h5, e, he1, he2, he3⟩ := h.ex
  have h3' : w.heap[b]? = some (.map es clock) := by rw [ha.heap]; exact h3
  have hlt := (Array.getElem?_eq_some_iff.1 h3).1
  have hget : ∀ ob, (H.setIfInBounds b ob)[b]? = some ob := fun ob => by simp [hlt]
  obtain ⟨j, hjl, hj⟩ := List.mem_iff_getElem.1 he1
  have hj' : es.toList[j]? = some e := by rw [List.getElem?_eq_getElem hjl, hj]
  have hjs : j < es.size := by simpa using hjl
  have hja : es[j]? = some e := by simpa using hj'
  have hidx : es.findIdx? (fun e => (e.born : Int) == q) = some j := by
    rw [Array.findIdx?_eq_some_iff_getElem]
    refine ⟨hjs, ?_, ?_⟩
    · have : es[j] = e := by rw [Array.getElem?_eq_getElem hjs] at hja; exact Option.some.inj hja
      simp [this, he2]
    · intro i hij
      have hne : es[i].born ≠ e.born := by
        intro hb
        have hnd := h4.2.1
        have h1 : (es.toList.map (·.born))[i]? = some e.born := by simp [show i < es.size by omega, hb]
        have h2 : (es.toList.map (·.born))[j]? = some e.born := by rw [List.getElem?_map, hj']; rfl
        have hi2 : i < (es.toList.map (·.born)).length := by simp; omega
        have hj2 : j < (es.toList.map (·.born)).length := by simpa using hjs
        have := (List.getElem_inj (h₀ := hi2) (h₁ := hj2) hnd).1 (by rw [List.getElem?_eq_getElem hi2] at h1; rw [List.getElem?_eq_getElem hj2] at h2; rw [Option.some.inj h1, Option.some.inj h2])
        omega
      have : ((es[i].born : Int) == q) = false := by
        rw [← he2]
        simp only [beq_eq_false_iff_ne, ne_eq]
        omega
      simp [this]
  have hmod : (es.modify j fun e => { e with val := fv z }) = es.modify j fun e => { e with key := fk k, val := fv z } := by
    apply Array.ext_getElem?
    intro i
    rw [Array.getElem?_modify, Array.getElem?_modify]
    split
    · rename_i e'; subst e'; rw [hja]; simp [he3]
    · rfl
  refine ⟨H.setIfInBounds b (.map (es.modify j fun e => { e with val := fv z }) clock), { w with heap := H.setIfInBounds b (.map (es.modify j fun e => { e with val := fv z }) clock) }, ?_, ha.set, ⟨⟨b, _, _, rfl, rfl, hget _, stamped_modify h4 _ _ (fun _ _ => rfl) (fun _ _ _ => rfl), ?_⟩⟩, mo_set _⟩
  · simp [execOp, ho, hf.eval hx, hf.eval hi, hf.eval hy, Instr.entryStore, MapKept.run_getObj_map h3', asInt, asIntOf, hidx, MapKept.run_setObj_map _ h3', ha.heap]
  · have := modify_entriesA (fv := fv) (b := z) hinj rfl es.toList m j e h5 h4.2.2 hj' he3
    rw [hmod, Array.toList_modify, this]
theorem ment_put (m : List (κ × β)) (k : κ) (z0 z : β) : (ment m k z0).map (fun p => if p.1 = k then (p.1, z) else p) = mput m k z := by
  unfold ment mput
  split
  · rfl
  · rename_i h
    have hn : mget m k = none := by simpa using h
    rw [List.map_append]
    congr 1
    · exact (List.map_congr_left (fun p hp => by rw [if_neg (mget_none hn p hp)])).trans (by simp)
    · simp

theorem Mp.le (h : Mp H fk fv b m) : b + 1 ≤ H.size := h.lt
/-! ### ranges over a map that is not turned -/
structure Mr (H : Heap) (fk : κ → Value) (fv : β → Value) (b : Nat) (m : List (κ × β)) (es : Array MapEntry) (clock : Nat) : Prop where
  at_ : H[b]? = some (.map es clock)
  st : Stamped es clock
  eq : es.toList.map (fun e => (e.key, e.val)) = m.map (fun p => (fk p.1, fv p.2))
theorem Mp.raw (h : Mp H fk fv b m) : ∃ es clock, Mr H fk fv b m es clock := by
  obtain ⟨r, es, clock, hv, h2, h3, h4, h5⟩ := h.mo.ex
  obtain rfl := h2
  exact ⟨es, clock, h3, h4, h5⟩
section
variable {es : Array MapEntry} {clock : Nat} {H' : Heap}
theorem Mr.mp (h : Mr H fk fv b m es clock) : Mp H fk fv b m := ⟨⟨b, es, clock, rfl, rfl, h.at_, h.st, h.eq⟩⟩
theorem Mr.lt (h : Mr H fk fv b m es clock) : b < H.size := h.mp.lt
theorem Mr.up {S : Nat → Prop} (h : Mr H fk fv b m es clock) (s : Mo S H H') (hS : ¬ S b) : Mr H' fk fv b m es clock := ⟨by rw [s.same b h.lt hS]; exact h.at_, h.st, h.eq⟩
theorem Mr.nw (h : Mr H fk fv b m es clock) (s : Nw H H') : Mr H' fk fv b m es clock := h.up s (fun e => e)
theorem Mr.upL {ks : List Nat} (h : Mr H fk fv b m es clock) (s : Mo (Ms ks) H H') (d : DL (b + 1) ks) : Mr H' fk fv b m es clock := h.up s (fun h2 => d (b + 1) h2 b rfl rfl)
theorem Mr.mo (h : Mr H fk fv b m es clock) : MapOf (fun x => x = b) H fk fv (.map (some b)) m := h.mp.mo
end
/-- the block b is an iterator over the map in block r; the keys dn have come -/
structure Itr (H : Heap) (b r : Nat) (fk : κ → Value) (es : Array MapEntry) (clock : Nat) (dn : List κ) : Prop where
  ex : ∃ vis : List MapEntry, H[b]? = some (.mapIter (some r) clock (vis.map (·.born)).toArray clock) ∧ (∀ e ∈ vis, e ∈ es.toList) ∧ vis.map (·.key) = dn.map fk
section
variable {es : Array MapEntry} {clock r : Nat} {H' : Heap} {dn : List κ}
theorem Itr.lt (h : Itr H b r fk es clock dn) : b < H.size := by
  obtain ⟨vis, h1, _⟩ := h.ex
  exact (Array.getElem?_eq_some_iff.1 h1).1
theorem Itr.up {S : Nat → Prop} (h : Itr H b r fk es clock dn) (s : Mo S H H') (hS : ¬ S b) : Itr H' b r fk es clock dn := by
  obtain ⟨vis, h1, h2⟩ := h.ex
  exact ⟨vis, by rw [s.same b h.lt hS]; exact h1, h2⟩
theorem Itr.nw (h : Itr H b r fk es clock dn) (s : Nw H H') : Itr H' b r fk es clock dn := h.up s (fun e => e)
theorem Itr.upL {ks : List Nat} (h : Itr H b r fk es clock dn) (s : Mo (Ms ks) H H') (d : DL (b + 1) ks) : Itr H' b r fk es clock dn := h.up s (fun h2 => d (b + 1) h2 b rfl rfl)
theorem Z.rangeA {t et : TypeId} {x : Operand} (h : Mr H fk fv b m es clock) (ho : o.op = .range t x) (hm : ∀ w, (underlying t).run P w = .ok (.map kt et) w) (hx : opv l x = some (.map (some b))) :
    Z P w0 n l H o (fun v H' => v = .pointer (some ⟨H.size, 0, none⟩) ∧ Itr H' H.size b fk es clock ([] : List κ) ∧ Nw H H' ∧ ∃ ob, H' = H.push ob) := by
  intro ac w hf ha
  have h3' : w.heap[b]? = some (.map es clock) := by rw [ha.heap]; exact h.at_
  refine ⟨.pointer (some ⟨w.heap.size, 0, none⟩), H.push (.mapIter (some b) clock #[] clock), w.alloc (.mapIter (some b) clock #[] clock), ?_, ha.alloc _, by rw [ha.heap], ⟨[], by simp, by simp, rfl⟩, Nw.pu _ _, _, rfl⟩
  simp [execOp, ho, hf.eval hx, Instr.range, hm, MapKept.run_getObj_map h3']
theorem Mr.le (h : Mr H fk fv b m es clock) : b + 1 ≤ H.size := h.lt
theorem Itr.le (h : Itr H b r fk es clock dn) : b + 1 ≤ H.size := h.lt
/-- what 'next' hands back -/
def nxt (q : Bool) (a c : Value) : Value := .tuple (if q then #[.bool true, a, c] else #[.bool false])
theorem Y.ext0 {x : Operand} {q : Bool} {a c : Value} (ho : o.op = .extract x 0) (hx : opv l x = some (nxt q a c)) : Y P w0 n l H o (.bool q) := by
  intro ac w hf ha
  cases q <;> simp [execOp, ho, hf.eval hx, nxt, Instr.extract]
theorem seen_mem (hinj : ∀ a b, fk a = fk b → a = b) {m : List (κ × β)} {vis : List MapEntry} (hs : Stamped es clock) (hv : ∀ e ∈ vis, e ∈ es.toList) (hd : vis.map (·.key) = dn.map fk) {e : MapEntry} (he : e ∈ es.toList) {a : κ} (ha : e.key = fk a) : e.born ∈ vis.map (·.born) ↔ a ∈ dn := by
  have uniqB : ∀ x ∈ es.toList, ∀ y ∈ es.toList, x.born = y.born → x = y := fun x hx y hy hb => nodup_inj hs.2.1 hx hy hb
  have uniqK : ∀ x ∈ es.toList, ∀ y ∈ es.toList, x.key = y.key → x = y := fun x hx y hy hb => nodup_inj hs.2.2 hx hy hb
  constructor
  · intro h
    obtain ⟨y, hy, hb⟩ := List.mem_map.1 h
    have := uniqB y (hv y hy) e he hb
    subst this
    have h2 : y.key ∈ dn.map fk := by rw [← hd]; exact List.mem_map.2 ⟨y, hy, rfl⟩
    obtain ⟨c, hc, hce⟩ := List.mem_map.1 h2
    rw [hinj _ _ (ha.symm.trans hce.symm)]
    exact hc
  · intro h
    have h2 : fk a ∈ vis.map (·.key) := by rw [hd]; exact List.mem_map.2 ⟨a, h, rfl⟩
    obtain ⟨y, hy, hk⟩ := List.mem_map.1 h2
    have := uniqK y (hv y hy) e he (hk.trans ha.symm)
    subst this
    exact List.mem_map.2 ⟨y, hy, rfl⟩
theorem Z.nextA {x : Operand} [Inhabited κ] [Inhabited β] (h : Itr H b r fk es clock dn) (hmr : Mr H fk fv r m es clock) (hinj : ∀ a b, fk a = fk b → a = b) (ho : o.op = .next x false) (hx : opv l x = some (.pointer (some ⟨b, 0, none⟩))) :
    Z P w0 n l H o (fun v H' => ∃ (q : Bool) (a : κ) (c : β) (dn' : List κ), v = nxt q (fk a) (fv c) ∧ Itr H' b r fk es clock dn' ∧ (q = true → (a, c) ∈ m ∧ a ∉ dn ∧ dn' = dn ++ [a]) ∧ (q = false → (∀ p ∈ m, p.1 ∈ dn) ∧ dn' = dn) ∧ Mo (fun g => g = b) H H') := by
  intro ac w hf ha
  obtain ⟨vis, h1, h2, h3⟩ := h.ex
  have h1' : w.heap[b]? = some (.mapIter (some r) clock (vis.map (·.born)).toArray clock) := by rw [ha.heap]; exact h1
  have hm' : w.heap[r]? = some (.map es clock) := by rw [ha.heap]; exact hmr.at_
  have hold : ∀ x ∈ es.toList, x.born < clock := hmr.st.1
  have hlt := h.lt
  have pairs : ∀ e ∈ es.toList, ∃ a c, (a, c) ∈ m ∧ e.key = fk a ∧ e.val = fv c := by
    intro e he
    have : (e.key, e.val) ∈ m.map (fun p => (fk p.1, fv p.2)) := by rw [← hmr.eq]; exact List.mem_map.2 ⟨e, he, rfl⟩
    obtain ⟨p, hp, hpe⟩ := List.mem_map.1 this
    simp only [Prod.mk.injEq] at hpe
    exact ⟨p.1, p.2, hp, hpe.1.symm, hpe.2.symm⟩
  rcases run_next_at (P := P) w o.type b r clock clock _ es clock h1' hm' hold (Nat.le_refl _) with ⟨hl, hr⟩ | ⟨e, he, w1, hw1, hr⟩
  · refine ⟨.tuple #[.bool false], H, w, by simp [execOp, ho, hf.eval hx, hr], ha, false, default, default, dn, rfl, h, by simp, fun _ => ⟨fun p hp => ?_, rfl⟩, Mo.refl _ _⟩
    have : (fk p.1, fv p.2) ∈ es.toList.map (fun e => (e.key, e.val)) := by rw [hmr.eq]; exact List.mem_map.2 ⟨p, hp, rfl⟩
    obtain ⟨e, he, hee⟩ := List.mem_map.1 this
    simp only [Prod.mk.injEq] at hee
    have hs := all_seen es _ hl e he
    refine (seen_mem (m := m) hinj hmr.st h2 h3 he hee.1).1 ?_
    simpa using hs
  · obtain ⟨hes, hns⟩ := mem_left he
    obtain ⟨a, c, hac, hk, hv⟩ := pairs e hes
    have hw1' : At w0 H w1 := by
      rcases hw1 with rfl | rfl
      · exact ha
      · exact ha.drew
    refine ⟨.tuple #[.bool true, e.key, e.val], H.setIfInBounds b (.mapIter (some r) clock ((vis.map (·.born)).toArray.push e.born) clock), _, by simp [execOp, ho, hf.eval hx, hr]; rfl, ?_, true, a, c, dn ++ [a], by rw [hk, hv]; rfl, ⟨vis ++ [e], ?_, ?_, ?_⟩, fun _ => ⟨hac, ?_, rfl⟩, by simp, mo_set _⟩
    · exact ⟨by simp [ChangeMaps.setBlock, hw1'.heap], hw1'.os, hw1'.tape, hw1'.output, hw1'.dr⟩
    · simp [hlt]
    · intro x hx
      rcases List.mem_append.1 hx with h | h
      · exact h2 x h
      · simp only [List.mem_singleton] at h; subst h; exact hes
    · simp [h3, hk]
    · intro had
      have := (seen_mem (m := m) hinj hmr.st h2 h3 hes hk).2 had
      simp at hns
      simp at this
      obtain ⟨x, hx, hxe⟩ := this
      exact hns x hx hxe
theorem Y.entryA {x : Operand} {a : κ} {c : β} (h : Itr H b r fk es clock (dn ++ [a])) (hmr : Mr H fk fv r m es clock) (hinj : ∀ a b, fk a = fk b → a = b) (hac : (a, c) ∈ m) (ho : o.op = .entry x) (hx : opv l x = some (.pointer (some ⟨b, 0, none⟩))) : Y P w0 n l H o (.tuple #[fk a, fv c]) := by
  intro ac w hf ha
  obtain ⟨vis, h1, h2, h3⟩ := h.ex
  have h1' : w.heap[b]? = some (.mapIter (some r) clock (vis.map (·.born)).toArray clock) := by rw [ha.heap]; exact h1
  have hm' : w.heap[r]? = some (.map es clock) := by rw [ha.heap]; exact hmr.at_
  have hne : vis ≠ [] := by intro e; subst e; simp at h3
  obtain ⟨e, he⟩ : ∃ e, vis.getLast? = some e := by
    rw [List.getLast?_eq_some_getLast hne]; exact ⟨_, rfl⟩
  have hev : e ∈ vis := List.mem_of_getLast? he
  have hek : e.key = fk a := by
    have := congrArg List.getLast? h3
    simpa [he] using this
  have hes := h2 e hev
  have hback : (vis.map (·.born)).toArray.back? = some e.born := by simp [he]
  have hfind : es.find? (fun x => x.born == e.born) = some e := by
    rw [← Array.find?_toList]
    obtain ⟨x, hx⟩ : ∃ x, es.toList.find? (fun x => x.born == e.born) = some x := by
      rw [← Option.isSome_iff_exists, List.find?_isSome]
      exact ⟨e, hes, by simp⟩
    have hxm := List.mem_of_find?_eq_some hx
    have hxb := List.find?_some hx
    simp only [beq_iff_eq] at hxb
    rw [hx, nodup_inj hmr.st.2.1 hxm hes hxb]
  have hval : e.val = fv c := by
    have : (fk a, fv c) ∈ es.toList.map (fun e => (e.key, e.val)) := by rw [hmr.eq]; exact List.mem_map.2 ⟨_, hac, rfl⟩
    obtain ⟨y, hy, hye⟩ := List.mem_map.1 this
    simp only [Prod.mk.injEq] at hye
    have := nodup_inj hmr.st.2.2 hy hes (hye.1.trans hek.symm)
    rw [← this]; exact hye.2
  simp [execOp, ho, hf.eval hx, Instr.entry, getObj, Sem.run, h1', hm', hback, hfind, hek, hval]
end
end

/-! ### errors that are numbers -/
/-- no error, or one of this number -/
def erV (t : TypeId) (e : Nat) : Value := if e = 0 then .nilIface else .iface t (.int .i64 e)
section
variable {P : Program} {w0 : World} {n : Nat} {l : FL} {H : Heap} {o : Oper}
theorem Y.mki {x : Operand} {t : TypeId} {d : TypeDesc} {v : Value} (ho : o.op = .makeInterface t x) (ht : ∀ w, (underlying t).run P w = .ok d w) (hd : ∀ ms, d ≠ .interface ms) (hx : opv l x = some v) : Y P w0 n l H o (.iface t v) := by
  intro ac w hf ha
  have : (Instr.makeInterface t v).run P w = .ok (.iface t v) w := by
    simp only [Instr.makeInterface, Sem.run_bind, ht, Result.andThen]
    cases d <;> first | rfl | exact absurd rfl (hd _)
  simp [execOp, ho, hf.eval hx, this]
theorem run_err0 {u : TypeId} {ms : Array (String × TypeId)} (w : World) (ht : P.underlying u = some (.interface ms)) : (Op.equal u .nilIface .nilIface).run P w = .ok true w := by
  show (Op.equalIn (9999 + 1) u .nilIface .nilIface).run P w = _
  unfold Op.equalIn
  simp [run_underlying ht]
theorem run_err1 {t u : TypeId} {v : Value} {ms : Array (String × TypeId)} (w : World) (ht : P.underlying u = some (.interface ms)) : (Op.equal u (.iface t v) .nilIface).run P w = .ok false w := by
  show (Op.equalIn (9999 + 1) u (.iface t v) .nilIface).run P w = _
  unfold Op.equalIn
  simp [run_underlying ht]
theorem Y.eeq {x : Operand} {t u u2 : TypeId} {ms : Array (String × TypeId)} {e : Nat} (ho : o.op = .binOp .eql u x (.const .nilIface) u2) (ht : P.underlying u = some (.interface ms)) (hx : opv l x = some (erV t e)) : Y P w0 n l H o (.bool (decide (e = 0))) := by
  intro a w hf ha
  have he : a.eval (.const .nilIface) = .nilIface := rfl
  have hv := hf.eval hx
  unfold erV at hv
  by_cases h0 : e = 0
  · rw [if_pos h0] at hv
    simp [execOp, ho, he, hv, eqGuard, binOp, run_err0 w ht, h0]
  · rw [if_neg h0] at hv
    simp [execOp, ho, he, hv, eqGuard, binOp, run_err1 w ht, h0]
theorem Y.ene {x : Operand} {t u u2 : TypeId} {ms : Array (String × TypeId)} {e : Nat} (ho : o.op = .binOp .neq u x (.const .nilIface) u2) (ht : P.underlying u = some (.interface ms)) (hx : opv l x = some (erV t e)) : Y P w0 n l H o (.bool (decide (e ≠ 0))) := by
  intro a w hf ha
  have he : a.eval (.const .nilIface) = .nilIface := rfl
  have hv := hf.eval hx
  unfold erV at hv
  by_cases h0 : e = 0
  · rw [if_pos h0] at hv
    simp [execOp, ho, he, hv, eqGuard, binOp, run_err0 w ht, h0]
  · rw [if_neg h0] at hv
    simp [execOp, ho, he, hv, eqGuard, binOp, run_err1 w ht, h0]
end

/-! ### a call through an interface -/
section
variable {P : Program} {w0 : World} {Q : Exit → Act → World → Prop} {n : Nat} {l : FL} {H : Heap} {ops : Array Oper} {rest : List Oper} {o : Oper}
/-- the method of the value behind an interface is this function; its receiver is this value -/
def Mth (P : Program) (t : TypeId) (v : Value) (name : String) (f : FuncId) : Prop := (∀ w, (method (P.types.size + Made.depth) t v name).run P w = .ok (f, v) w) ∧ ∀ (vs : Array Value) (w : World), (callFunc f vs).run P w = .ok (.enter f vs) w
theorem LR.calli {R : Value → Heap → Prop} {f d : Nat} {x : Operand} {name : String} {t : TypeId} {v : Value} {args : List Operand} {ats : Array TypeId} {vs : List Value} (hm : Mth P t v name f) (ho : o.op = .call { callee := .invoke x name, args := args.toArray, argTypes := ats })
    (hx : opv l x = some (.iface t v)) (hv : opvs l args = some vs) (hw : Wd ops l o) (hd : o.dst = some d) (hn : Nat.blt d n = true) (hc : Ct P w0 f (v :: vs).toArray H R)
    (h : ∀ v H', R v H' → LR false P w0 ops Q n ((d, v) :: l) rest H') : LR false P w0 ops Q n l (o :: rest) H := by
  intro a w hf ha
  simp only [Md]
  have hr : (execOp a.eval o).run P w = .ok (.enter f (v :: vs).toArray) w := by
    have h2 := hf.evals hv
    have h3 : (args.toArray.map a.eval) = vs.toArray := by rw [List.map_toArray, h2]
    have h4 : ((#[Value.iface t v] ++ vs.toArray).extract 1 (#[Value.iface t v] ++ vs.toArray).size) = vs.toArray := by
      apply Array.ext'
      simp
    simp [execOp, ho, resolve, hf.eval hx, invoke, h2, callMethod, hm.1, hm.2]
  unfold wpList
  rw [if_pos (hw n a hf)]
  refine .inl ?_
  unfold Oper.wp
  rw [hr]
  show Calls P f (v :: vs).toArray w _
  refine (hc w ha).mono ?_
  rintro e w' ⟨r, H', rfl, ha', hR⟩
  have hp := hf.put hn r
  rw [← hd] at hp
  exact h r H' hR _ w' hp ha'
end
section
variable {P : Program} {w0 : World} {Q : Exit → Act → World → Prop} {n k i : Nat} {dn : List Nat} {l : FL} {H : Heap} {ops : Array Oper} {o : Oper} {SH : Heap → Prop} {X : List Nat}
theorem LO.calld {R : Value → Heap → Prop} {d : Nat} {c : Operand} {cv : Value} {args : List Operand} {ats : Array TypeId} {vs : List Value} (hi : ops[i]? = some o) (ho : o.op = .call { callee := .value c, args := args.toArray, argTypes := ats })
    (hcv : opv l c = some cv) (hv : opvs l args = some vs) (hw : Wd ops l o) (hd : o.dst = some d) (hn : Nat.blt d n = true) (hc : Clo P w0 cv vs H R)
    (h : ∀ v H', R v H' → (X.contains i = true ∨ SH H') ∧ LH P w0 ops Q SH X n k (i :: dn) ((d, v) :: l) H') : LO P w0 ops Q SH X n k i dn l H := by
  intro a w hf ha
  obtain ⟨f, caps, rfl, hcall, hct⟩ := hc
  have hr : (execOp a.eval o).run P w = .ok (.enter f (vs.toArray ++ caps)) w := by
    have h2 := hf.evals hv
    have h3 : (args.toArray.map a.eval) = vs.toArray := by rw [List.map_toArray, h2]
    simp [execOp, ho, resolve, Deferred.ofValue, hf.eval hcv, invoke, hcall, h2]
  unfold wpOp
  simp only [hi]
  rw [if_pos (hw n a hf)]
  refine .inl ?_
  unfold Oper.wp
  rw [hr]
  show Calls P f (vs.toArray ++ caps) w _
  refine (hct w ha).mono ?_
  rintro e w' ⟨r, H', rfl, ha', hR⟩
  obtain ⟨h1, h2⟩ := h r H' hR
  have hp := hf.put hn r
  rw [← hd] at hp
  exact ⟨h1.imp id (fun h1 => ⟨H', ha', h1⟩), h2 _ w' hp ha'⟩
end
end Go.Proofs.Ytepdhokpfecdnaa.E
/-
  Comparing rows of bytes: no condition.
-/
namespace Go.Proofs.Ytepdhokpfecdnaa.E
set_option linter.unusedVariables false
set_option linter.unusedSimpArgs false
set_option linter.unusedSectionVars false
section
variable {P : Program} {w0 : World} {n : Nat} {l : FL} {H : Heap} {o : Oper}
theorem run_bytesOf_rd {F : Nat → Prop} {v : Value} {xs : List UInt8} (h : Rd F H fB 1 v xs) {w : World} (ha : At w0 H w) : (Extern.Bytes.bytesOf v).run P w = .ok ⟨xs.toArray⟩ w := by
  obtain ⟨ad, cap, rfl, _, _, h3⟩ := id h.ex
  cases ad with
  | none =>
    have hxs : xs = [] := by
      apply Decidable.byContradiction; intro hne
      obtain ⟨ad, hn, _⟩ := h3 hne
      cases hn
    subst hxs
    rfl
  | some ad =>
    have hnews := h.pts fB_len rfl ha
    have hl := Lib.run_loadBytesX (P := P) w (xs.map (fun b => (b.toNat : Int))) ad .empty (fun j x hj => by
      apply hnews
      rw [flatMap_fB]
      rw [List.getElem?_map] at hj ⊢
      cases hx : xs[j]? with
      | none => simp [hx] at hj
      | some y => simp [hx] at hj ⊢; exact hj)
    rw [bytesOf_map, List.length_map] at hl
    have he : (⟨ByteArray.empty.data ++ xs.toArray⟩ : ByteArray) = ⟨xs.toArray⟩ := by
      apply ByteArray.ext
      show (#[] : Array UInt8) ++ xs.toArray = xs.toArray
      simp
    rw [he] at hl
    exact hl
theorem Y.compare {F G : Nat → Prop} {f : FuncId} {fn : Func} {args : List Operand} {ats : Array TypeId} {u v : Value} {xs ys : List UInt8} (h : Rd F H fB 1 u xs) (h2 : Rd G H fB 1 v ys) (ho : o.op = .call { callee := .value (.func f), args := args.toArray, argTypes := ats }) (hf : P.funcs[f]? = some fn)
    (hname : (fn.name == "runtime.NumGoroutine") = false) (hb : fn.body.isNone = true) (hn : Extern.findNext fn = none) (he : Extern.find fn = some Extern.BytealgCompare.compare) (hv : opvs l args = some [u, v]) : Y P w0 n l H o (.int .i64 (Lib.compareBytes xs ys)) := by
  refine Y.ext ho hf hname hb hn he hv (fun w ha => ?_)
  have e1 := run_bytesOf_rd (P := P) h ha
  have e2 := run_bytesOf_rd (P := P) h2 ha
  change Sem.run P (do pure (goInt (Extern.BytealgCompare.cmp (← Extern.Bytes.bytesOf u) (← Extern.Bytes.bytesOf v)))) w = _
  simp only [Sem.run_bind, e1, e2, Sem.run_pure, Result.andThen]
  rw [Lib.cmp_eq]
  rfl
end
end Go.Proofs.Ytepdhokpfecdnaa.E
/-
  slices.SortFunc over owned rows, by the shelf's contract: no condition.
-/
namespace Go.Proofs.Ytepdhokpfecdnaa.E
open Go.Shelf Go.Sort
set_option linter.unusedVariables false
set_option linter.unusedSimpArgs false
set_option linter.unusedSectionVars false
section
variable {P : Program} {w0 : World} {H H' : Heap} {args : Array Value} {v : Value} {fn : FuncId}
theorem World.of_grown {W w' : World} (ha : At W H' w') (hs : Nw W.heap H') : ∃ q os', w' = grow (W.drewN q) os' := by
  refine ⟨w'.drawn - W.drawn, H'.extract W.heap.size H'.size, ?_⟩
  have e1 : w'.heap = W.heap ++ H'.extract W.heap.size H'.size := by
    rw [ha.heap]
    apply Array.ext_getElem?
    intro i
    by_cases hi : i < W.heap.size
    · rw [Array.getElem?_append_left hi]
      exact hs.same i hi (fun e => e)
    · rw [Array.getElem?_append_right (by omega), Array.getElem?_extract]
      have hsz := hs.size
      by_cases h2 : i < H'.size
      · rw [if_pos (by omega)]
        congr 1; omega
      · rw [if_neg (by omega), Array.getElem?_eq_none (by omega)]
  have e2 : W.drawn + (w'.drawn - W.drawn) = w'.drawn := by have := ha.dr; omega
  obtain ⟨h, t, d, o, p⟩ := w'
  have a1 := ha.os; have a2 := ha.tape; have a3 := ha.output
  simp only at a1 a2 a3 e1 e2
  subst a1 a2 a3
  simp only [grow, World.drewN, e2, ← e1]
theorem Ct.grown (h : ∀ w0 H0, Ct P w0 fn args H0 (fun r H2 => r = v ∧ Nw H0 H2)) (W : World) : Calls P fn args W fun e w' => e = .returned v ∧ ∃ q os', w' = grow (W.drewN q) os' :=
  (h W W.heap W ⟨rfl, rfl, rfl, rfl, Nat.le_refl _⟩).mono (fun e w' ⟨r, H', he, ha, hr, hn⟩ => ⟨by rw [he, hr], World.of_grown ha hn⟩)
end
section
variable {α : Type} [Inhabited α] {f : α → List Value} {sz : Nat}
theorem flatK_list (hf : ∀ x, (f x).length = sz) (l : List α) : flatK f sz l.toArray = (l.flatMap f).toArray := by
  refine Array.ext_getElem? (fun t => ?_)
  have hs : (flatK f sz l.toArray).size = l.length * sz := by simp
  have hl := length_flatMap hf l
  by_cases ht : t < l.length * sz
  · have h1 := get_flatK f sz l.toArray t (by simpa using ht)
    have hpos : 0 < sz := by rcases Nat.eq_zero_or_pos sz with h | h; rw [h] at ht; simp at ht; exact h
    have hdiv : t / sz < l.length := Nat.div_lt_of_lt_mul (by rw [Nat.mul_comm]; exact ht)
    have hm := Nat.mod_lt t hpos
    have h2 := get_flatMap hf l (t / sz) (t % sz) l[t / sz] ((f l[t / sz])[t % sz]'(by rw [hf]; exact hm)) (by simp [hdiv]) (by simp [hf, hm])
    have hqq : t / sz * sz + t % sz = t := by rw [Nat.mul_comm]; exact Nat.div_add_mod t sz
    rw [hqq] at h2
    rw [Array.getElem?_eq_getElem (by rw [hs]; exact ht), ← getElem!_pos (flatK f sz l.toArray) t (by rw [hs]; exact ht), h1, List.getElem?_toArray, h2]
    congr 1
    rw [getElem!_pos l.toArray (t / sz) (by simpa using hdiv), List.getElem_toArray, getElem!_pos (f l[t / sz]) (t % sz) (by rw [hf]; exact hm)]
  · rw [Array.getElem?_eq_none (by omega), List.getElem?_toArray, List.getElem?_eq_none (by omega)]
theorem putCells_take (F cur : Array Value) (h : F.size ≤ cur.size) : (putCells id 0 F cur).size = cur.size ∧ (putCells id 0 F cur).toList.take F.size = F.toList := by
  refine ⟨by simp [putCells], ?_⟩
  apply List.ext_getElem?
  intro i
  rw [List.getElem?_take]
  split
  · rename_i hi
    rw [Array.getElem?_toList, Array.getElem?_toList, Array.getElem?_eq_getElem (by simp [putCells]; omega), Array.getElem?_eq_getElem hi]
    simp only [putCells, Array.getElem_mapIdx, Nat.zero_le, Nat.zero_add, true_and, Nat.sub_zero]
    rw [if_pos hi, getElem!_pos F i hi]; rfl
  · rw [Array.getElem?_toList, Array.getElem?_eq_none (by omega)]
variable {P : Program} {ρ : Ren} {w0 : World} {H : Heap} {k : Nat} {e : TypeId} {v : Value} {l : List α}
/-- slices.SortFunc: the row is a permutation, sorted -/
theorem Ct.sortf (L : SlLaysF0.n6 P ρ) (aE : ∀ w, (isAgg (ρ.t 24)).run P w = .ok true w) (zE : ∀ w, (Go.sizeOf (ρ.t 24)).run P w = .ok sz w) (cf : α → α → Int) (hO : SWO (ltOf cf)) (g : Nat)
    (eg : ∀ args w, (callFunc g args).run P w = .ok (.enter g args) w) (hcmp : ∀ w0 H0 x y, Ct P w0 g #[.agg (f x).toArray, .agg (f y).toArray] H0 (fun r H2 => r = .int .i64 (cf x y) ∧ Nw H0 H2)) (h : Ow k e H f sz v l) (hl : l.length < 4611686018427387904) :
    Ct P w0 (ρ.f 6) #[v, .func (.func g) #[] #[]] H (fun r H2 => ∃ l', r = .tuple #[] ∧ Ow k e H2 f sz v l' ∧ Nx k H.size k ∧ (l'.Perm l ∧ l'.Pairwise (fun x y => ¬ cf y x < 0)) ∧ Mo (Ms [k]) H H2) := by
  intro w ha
  rcases h.own.ex with ⟨hv, hx⟩ | ⟨g', cap, cur, hv, hk, hr, h1, h2, h3, h4⟩
  · subst hv hx
    exact (AnyF.slices_SortFunc_none L none 0 (.func (.func g) #[] #[]) w).mono (fun e w' ⟨he, hw⟩ => ⟨_, H, he, by rw [hw]; exact ha, [], rfl, h, Nx.refl _ _, ⟨List.Perm.refl _, List.Pairwise.nil⟩, Mo.refl _ _⟩)
  · have hf := h.own.cells
    obtain ⟨fz, hh, hsf⟩ := id hr
    have hwb : w.heap[g']? = some (.cells cur e fz) := by rw [ha.heap]; exact hh
    have hle : l.length * sz ≤ cur.size := by rw [h3]; exact Nat.mul_le_mul_right _ h1
    have hH : HoldsK f sz w g' 0 l.toArray := by
      intro j hj
      rw [flatK_list hf] at hj ⊢
      have hj2 : j < l.length * sz := by rw [← length_flatMap hf l]; simpa using hj
      have hc : cur[j]? = (l.flatMap f)[j]? := by rw [← h4, List.getElem?_take, if_pos hj2, Array.getElem?_toList]
      have hjl : j < (l.flatMap f).length := by rw [length_flatMap hf]; exact hj2
      refine ⟨?_, ?_⟩
      · simp only [World.cell?, hwb, Nat.zero_add, Option.isSome_none, Bool.false_eq_true, if_false, id_eq]
        rw [hc, List.getElem?_eq_getElem hjl, getElem!_pos (l.flatMap f).toArray j (by simpa using hjl)]; simp
      · have := hsf.2 j (by omega)
        simp only [World.frozen?, hwb, Nat.zero_add]
        simpa using this
    have hg : g' < w.heap.size := by rw [ha.heap]; exact hr.lt
    have hcon := AnyQ.slices_SortFunc L sz aE zE f hf h.own.one cf hO g #[] g' 0 cap l.toArray w eg (fun m os dk hs x y => Ct.grown (fun w0 H0 => hcmp w0 H0 x y) _) hH hg (by simpa using hl)
    rw [List.size_toArray, ← hv] at hcon
    refine hcon.mono ?_
    rintro en w' ⟨he, d', n, os, hp, hs, rfl⟩
    obtain ⟨p1, _, p3⟩ := hp
    simp only [List.size_toArray] at p1
    have hd : d'.toList.length = l.length := by simpa using p1
    have hperm : d'.toList.Perm l := by
      rw [List.extract_toArray] at p3
      simp only [Array.toList_extract, List.size_toArray, List.extract_eq_take_drop, List.drop_zero, Nat.sub_zero] at p3
      rwa [List.take_of_length_le (by omega), List.take_of_length_le (by omega)] at p3
    obtain ⟨hF1, hF2⟩ := putCells_take (flatK f sz d') cur (by rw [size_flatK, p1]; exact hle)
    have hfl : (flatK f sz d').toList = d'.toList.flatMap f := by
      have := flatK_list hf d'.toList
      rw [Array.toArray_toList] at this
      rw [this]
    have hheap : (sortWorldK f sz w g' 0 n d' os).heap = w.heap.modify g' (onCells (putCells id 0 (flatK f sz d'))) ++ os := rfl
    have hat : (sortWorldK f sz w g' 0 n d' os).heap[g']? = some (.cells (putCells id 0 (flatK f sz d') cur) e fz) := by
      rw [hheap, Array.getElem?_append_left (by simpa using hg), Array.getElem?_modify, if_pos rfl, hwb]; rfl
    refine ⟨_, (sortWorldK f sz w g' 0 n d' os).heap, he, ⟨rfl, ha.os, ha.tape, ha.output, Nat.le_trans ha.dr (Nat.le_add_right _ _)⟩, d'.toList, rfl, ⟨⟨hf, h.own.one, .inr ⟨g', cap, _, by rw [hd]; exact hv, hk, ⟨fz, hat, by rw [hF1]; exact hsf⟩, by rw [hd]; exact h1, h2, by rw [hF1]; exact h3, ?_⟩⟩, ?_⟩, Nx.refl _ _, ⟨hperm, ?_⟩, ?_, ?_⟩
    · rw [← hfl, ← hF2, size_flatK, Array.length_toList]
    · rw [hheap]
      have := h.le
      simp [ha.heap]; omega
    · rw [List.pairwise_iff_getElem]
      intro i j hi hj hij
      have := hs i j (Nat.zero_le _) hij (by omega)
      rw [getElem!_pos d' j (by simpa using hj), getElem!_pos d' i (by simpa using hi)] at this
      simpa [ltOf] using this
    · rw [hheap]; simp [ha.heap]
    · intro b hb hn
      have hne : g' ≠ b := fun q => hn (by unfold Ms; rw [← q]; simp [hk])
      rw [hheap, Array.getElem?_append_left (by simp [ha.heap, hb]), Array.getElem?_modify, if_neg hne, ha.heap]
end
end Go.Proofs.Ytepdhokpfecdnaa.E
/-
  Commits' names: their order, rows of them that are one's own.
-/
namespace Go.Proofs.Ytepdhokpfecdnaa.GraA
open Go.Proofs.Ytepdhokpfecdnaa.E Go.RowKit
set_option maxRecDepth 20000
set_option linter.unusedVariables false
set_option linter.unusedSimpArgs false
set_option linter.unusedSectionVars false
set_option maxRecDepth 100000 in
theorem inf28 : Inf Try.prog 28 30 32 32 := ⟨Try.underlying28, _, _, rfl, rfl, rfl, rfl, rfl⟩

open Go.Sort
theorem keyId : KeyA Try.prog 30 vA := keyI Try.underlying30 Try.underlying5 Try.sizeOf5 Try.isAgg5
theorem bl_refl : ∀ a : List UInt8, Op.bytesLess a a = false
  | [] => rfl
  | x :: a => by simp [Op.bytesLess, bl_refl a]
theorem bl_total : ∀ a b : List UInt8, Op.bytesLess a b = false → Op.bytesLess b a = false → a = b
  | [], [], _, _ => rfl
  | [], _ :: _, h, _ => by simp [Op.bytesLess] at h
  | _ :: _, [], _, h => by simp [Op.bytesLess] at h
  | x :: a, y :: b, h1, h2 => by
    simp only [Op.bytesLess] at h1 h2
    by_cases e1 : x < y
    · simp [e1] at h1
    · by_cases e2 : y < x
      · simp [e2] at h2
      · have : x = y := by apply UInt8.toNat.inj; rw [UInt8.lt_iff_toNat_lt] at e1 e2; omega
        subst this
        rw [bl_total a b (by simpa using h1) (by simpa using h2)]
theorem bl_trans : ∀ {a b c : List UInt8}, Op.bytesLess a b = true → Op.bytesLess b c = true → Op.bytesLess a c = true
  | [], [], _, h, _ => by simp [Op.bytesLess] at h
  | _ :: _, [], _, h, _ => by simp [Op.bytesLess] at h
  | _, _ :: _, [], _, h => by simp [Op.bytesLess] at h
  | [], _ :: _, _ :: _, _, _ => by simp [Op.bytesLess]
  | x :: a, y :: b, z :: c, h1, h2 => by
    simp only [Op.bytesLess, Bool.or_eq_true, decide_eq_true_eq, Bool.and_eq_true, beq_iff_eq] at h1 h2 ⊢
    rcases h1 with h1 | ⟨rfl, h1⟩
    · rcases h2 with h2 | ⟨rfl, h2⟩
      · left; rw [UInt8.lt_iff_toNat_lt] at *; omega
      · exact .inl h1
    · rcases h2 with h2 | ⟨rfl, h2⟩
      · exact .inl h2
      · exact .inr ⟨rfl, bl_trans h1 h2⟩
/-- a comparison is an order -/
structure CO {α : Type} (c : α → α → Int) : Prop where
  sw : ∀ x y, c x y < 0 ↔ 0 < c y x
  tr : ∀ x y z, c x y ≤ 0 → c y z ≤ 0 → c x z ≤ 0
section
variable {α β : Type} {c d : α → α → Int}
theorem CO.z (h : CO c) {x y : α} : c x y = 0 ↔ c y x = 0 := by have h1 := h.sw x y; have h2 := h.sw y x; omega
theorem CO.tr0 (h : CO c) {x y z : α} (h1 : c x y ≤ 0) (h2 : c y z ≤ 0) (h3 : c x z = 0) : c x y = 0 ∧ c y z = 0 := by
  have a1 := h.tr z x y (by have := h.z.1 h3; omega) h1
  have a2 := h.tr y z x h2 (by have := h.z.1 h3; omega)
  have b1 := h.sw z y; have b2 := h.sw y z; have b3 := h.sw x y; have b4 := h.sw y x
  omega
theorem CO.on (h : CO c) (g : β → α) : CO (fun x y => c (g x) (g y)) := ⟨fun x y => h.sw _ _, fun x y z => h.tr _ _ _⟩
theorem CO.swo (h : CO c) : Sort.SWO (ltOf c) := by
  refine ⟨fun x => ?_, fun x y z h1 h2 => ?_, fun x y z h1 h2 => ?_⟩
  · have := h.sw x x
    simp only [ltOf, decide_eq_false_iff_not]; omega
  · simp only [ltOf, decide_eq_true_eq] at *
    have a := h.tr x y z (by omega) (by omega)
    have b := h.tr0 (x := x) (y := y) (z := z) (by omega) (by omega)
    omega
  · simp only [ltOf, decide_eq_false_iff_not] at *
    have a := h.tr z y x; have b1 := h.sw x y; have b2 := h.sw y z; have b3 := h.sw x z
    have c1 := h.sw y x; have c2 := h.sw z y
    omega
end


theorem cb_eq : ∀ a b : List UInt8, Lib.compareBytes a b = if Op.bytesLess a b = true then -1 else if Op.bytesLess b a = true then 1 else 0
  | [], [] => rfl
  | [], _ :: _ => by simp [Lib.compareBytes, Op.bytesLess]
  | _ :: _, [] => by simp [Lib.compareBytes, Op.bytesLess]
  | x :: a, y :: b => by
    simp only [Lib.compareBytes, Op.bytesLess]
    by_cases h1 : x < y
    · simp [h1]
    · by_cases h2 : y < x
      · have : ¬ x = y := fun e => by subst e; exact h1 h2
        simp [h1, h2, this]
      · have e : x = y := by apply UInt8.toNat.inj; rw [UInt8.lt_iff_toNat_lt] at h1 h2; omega
        subst e
        simp [h1, cb_eq a b]
/-- the order of names -/
def cA (x y : Ide) : Int := Lib.compareBytes x.1 y.1
/-- one name is ahead of another -/
def ltA (x y : Ide) : Prop := Op.bytesLess x.1 y.1 = true
instance (x y : Ide) : Decidable (ltA x y) := inferInstanceAs (Decidable (_ = _))
theorem ltA_irr (x : Ide) : ¬ ltA x x := by unfold ltA; rw [bl_refl]; simp
theorem ltA_tr {x y z : Ide} (h : ltA x y) (h2 : ltA y z) : ltA x z := bl_trans h h2
theorem ltA_tot {x y : Ide} (h : ¬ ltA x y) (h2 : ¬ ltA y x) : x = y := Subtype.ext (bl_total _ _ (by simpa [ltA] using h) (by simpa [ltA] using h2))
theorem ltA_asym {x y : Ide} (h : ltA x y) : ¬ ltA y x := fun h2 => ltA_irr x (ltA_tr h h2)
theorem cA_neg {x y : Ide} : cA x y < 0 ↔ ltA x y := by
  unfold cA ltA; rw [cb_eq]
  split
  · rename_i h; simp [h]
  · rename_i h; split <;> simp [h]
theorem cA_pos {x y : Ide} : 0 < cA x y ↔ ltA y x := by
  unfold cA; rw [cb_eq]
  split
  · rename_i h
    have : ¬ ltA y x := ltA_asym h
    simp [this]
  · rename_i h; unfold ltA; split <;> (rename_i h2; simp [h2])
theorem cA_z {x y : Ide} : cA x y = 0 ↔ x = y := by
  constructor
  · intro h
    exact ltA_tot (fun q => by have := cA_neg.2 q; omega) (fun q => by have := cA_pos.2 q; omega)
  · rintro rfl
    have h1 : ¬ cA x x < 0 := fun h => ltA_irr x (cA_neg.1 h)
    have h2 : ¬ 0 < cA x x := fun h => ltA_irr x (cA_pos.1 h)
    omega
theorem cA_co : CO cA := by
  refine ⟨fun x y => by rw [cA_neg, cA_pos], fun x y z h1 h2 => ?_⟩
  by_cases e1 : cA x y = 0
  · rw [cA_z.1 e1]; exact h2
  · by_cases e2 : cA y z = 0
    · rw [← cA_z.1 e2]; exact h1
    · have := cA_neg.2 (ltA_tr (cA_neg.1 (show cA x y < 0 by omega)) (cA_neg.1 (show cA y z < 0 by omega)))
      omega
/-- names that rise -/
def Ris (l : List Ide) : Prop := l.Pairwise ltA
theorem ris_nodup {l : List Ide} (h : Ris l) : l.Nodup := by
  rw [List.nodup_iff_pairwise_ne]
  exact List.Pairwise.imp (fun {x y} (h : ltA x y) (e : x = y) => ltA_irr x (by subst e; exact h)) h
/-- two rows that rise, of the same names, are one -/
theorem ris_ext : ∀ {a b : List Ide}, Ris a → Ris b → (∀ x, x ∈ a ↔ x ∈ b) → a = b
  | [], [], _, _, _ => rfl
  | [], y :: b, _, _, h => by have := (h y).2 List.mem_cons_self; cases this
  | x :: a, [], _, _, h => by have := (h x).1 List.mem_cons_self; cases this
  | x :: a, y :: b, ha, hb, h => by
    unfold Ris at ha hb
    rw [List.pairwise_cons] at ha hb
    have hxy : x = y := by
      rcases List.mem_cons.1 ((h x).1 List.mem_cons_self) with e | e
      · exact e
      · rcases List.mem_cons.1 ((h y).2 List.mem_cons_self) with e2 | e2
        · exact e2.symm
        · exact absurd (hb.1 x e) (ltA_asym (ha.1 y e2))
    subst hxy
    congr 1
    refine ris_ext ha.2 hb.2 (fun z => ?_)
    have h1 := h z
    simp only [List.mem_cons] at h1
    constructor
    · intro hz
      rcases h1.1 (.inr hz) with e | e
      · subst e; exact absurd (ha.1 z hz) (ltA_irr z)
      · exact e
    · intro hz
      rcases h1.2 (.inr hz) with e | e
      · subst e; exact absurd (hb.1 z hz) (ltA_irr z)
      · exact e

theorem cmp_ct (u v : Value) (a b : List UInt8) (w0 : World) (H0 : Heap)
    (ha : RdT H0 fB 1 u a) (hb : RdT H0 fB 1 v b) :
    Ct Try.prog w0 43 #[u, v] H0 (fun r H2 => r = .int .i64 (Lib.compareBytes a b) ∧ Nw H0 H2) := by
  refine Ct.enter (args := [u, v]) Try.func43 rfl rfl rfl ?_
  intro Q0 hret
  have hm0 : Nw H0 H0 := Mo.refl _ _
  replace ha := ha.bnd
  have bf_ha := ha.bf
  replace hb := hb.bnd
  have bf_hb := hb.bf
  refine CW.seq (fun K1 hK1 hE1 => ?_)
  refine CW.region ?_
  refine LR.v (Y.assign rfl rfl) (Wd.u rfl) rfl rfl ?_
  refine LR.nil ?_
  refine hK1 _ _ ?_
  refine CW.seq (fun K2 hK2 hE2 => ?_)
  refine CW.region ?_
  refine LR.v (Y.move rfl rfl) (Wd.u rfl) rfl rfl ?_
  refine LR.v (Y.move rfl rfl) (Wd.u rfl) rfl rfl ?_
  refine LR.v (Y.compare ha hb rfl Try.func52 (by kernel_rfl) (by kernel_rfl) (by kernel_rfl) (by kernel_rfl) rfl) (Wd.u rfl) rfl rfl ?_
  refine LR.v (Y.assign rfl rfl) (Wd.u rfl) rfl rfl ?_
  refine LR.nil ?_
  refine hK2 _ _ ?_
  refine CW.ret (hret .ret (.inr rfl) _ _ _ (res1 rfl rfl) ?_)
  exact ⟨rfl, hm0⟩

theorem acmp_ct (a b : Ide) (w0 : World) (H0 : Heap)
     :
    Ct Try.prog w0 32 #[vA a, vA b] H0 (fun r H2 => r = .int .i64 (cA a b) ∧ Nw H0 H2) := by
  refine Ct.enter (args := [vA a, vA b]) Try.func32 rfl rfl rfl ?_
  intro Q0 hret
  have hm0 : Nw H0 H0 := Mo.refl _ _
  refine CW.seq (fun K1 hK1 hE1 => ?_)
  refine CW.region ?_
  refine LR.z (Z.boxv rfl rfl) (Wd.u rfl) rfl rfl (fun v2 H2 r2 => ?_)
  obtain ⟨rfl, va2, hs2, ob2, hH2⟩ := r2
  have hzs2 : H2.size = H0.size + 1 := by rw [hH2]; simp
  have nx1 : Nx 0 H0.size (H0.size + 1) := Nx.new hm0.size
  replace hm0 := hm0.tr hs2
  have hz1 := hs2.size
  replace va2 : Var 30 H2 H0.size (fA a) := va2
  refine LR.z (Z.boxv rfl rfl) (Wd.u rfl) rfl rfl (fun v3 H3 r3 => ?_)
  obtain ⟨rfl, va3, hs3, ob3, hH3⟩ := r3
  have hzs3 : H3.size = H2.size + 1 := by rw [hH3]; simp
  have dj2 : Dj (H0.size + 1) (H2.size + 1) := Dj.new va2.lt
  have nx3 : Nx 0 H0.size (H2.size + 1) := Nx.new hm0.size
  replace va2 := va2.nw hs3
  replace hm0 := hm0.tr hs3
  have hz2 := hs3.size
  replace va3 : Var 30 H3 H2.size (fA b) := va3
  refine LR.v (Y.assign rfl rfl) (Wd.u rfl) rfl rfl ?_
  refine LR.nil ?_
  refine hK1 _ _ ?_
  refine CW.seq (fun K2 hK2 hE2 => ?_)
  refine CW.region_tail 2 rfl (by kernel_rfl) (fun T1 hT1 => ?_)
  refine LR.e (g := fun v => v) (Y.sliceArrE (F := fun c => c = H0.size) (f := fB) (xs := a.1) va2.pt rfl va2.lt (a.2) (fun i x h => ⟨by simp [fA, h], rfl⟩) (0) (32) rfl (fun w => .inl (Try.runUnderlying30 w)) Try.sizeOf5 rfl (.inl ⟨rfl, rfl⟩) (.inl ⟨rfl, rfl⟩) (by omega) (by omega) (by decide)) (Wd.u rfl) rfl rfl (fun v5 rd5 => ?_)
  rw [List.drop_zero, List.take_of_length_le (by rw [a.2]; omega)] at rd5
  refine LR.e (g := fun v => v) (Y.sliceArrE (F := fun c => c = H2.size) (f := fB) (xs := b.1) va3.pt rfl va3.lt (b.2) (fun i x h => ⟨by simp [fA, h], rfl⟩) (0) (32) rfl (fun w => .inl (Try.runUnderlying30 w)) Try.sizeOf5 rfl (.inl ⟨rfl, rfl⟩) (.inl ⟨rfl, rfl⟩) (by omega) (by omega) (by decide)) (Wd.u rfl) rfl rfl (fun v6 rd6 => ?_)
  rw [List.drop_zero, List.take_of_length_le (by rw [b.2]; omega)] at rd6
  refine LR.nil (hT1 _ ?_)
  -- call bytes.Compare
  refine LR.call rfl Try.call43 rfl (Wd.u rfl) rfl rfl (cmp_ct _ _ a.1 b.1 w0 _ rd5.any rd6.any) (fun v7 H7 r7 => ?_)
  obtain ⟨rfl, hs7⟩ := r7
  replace va2 := va2.nw hs7
  replace va3 := va3.nw hs7
  replace hm0 := hm0.tr hs7
  have hz3 := hs7.size
  refine LR.v (Y.assign rfl rfl) (Wd.u rfl) rfl rfl ?_
  refine LR.nil ?_
  refine hK2 _ _ ?_
  refine CW.ret (hret .ret (.inr rfl) _ _ _ (res1 rfl rfl) ?_)
  exact ⟨rfl, hm0⟩

theorem iclone_ct (v1 : Value) (a : List Ide) (w0 : World) (H0 : Heap)
    (ha : RdT H0 fA 32 v1 a) (hal : a.length ≤ 1073741824) :
    Ct Try.prog w0 37 #[v1] H0 (fun r H2 => ∃ s : SV, ∃ k : Nat, r = s.v ∧ (Ow k 30 H2 fA 32 s.v a) ∧ (Nx 0 H0.size k) ∧ Nw H0 H2) := by
  refine Ct.enter (args := [v1]) Try.func37 rfl rfl rfl ?_
  intro Q0 hret
  have hm0 : Nw H0 H0 := Mo.refl _ _
  replace ha := ha.bnd
  have bf_ha := ha.bf
  obtain ⟨p, cp, rfl, _, _, hne⟩ := id ha.ex
  refine CW.seq (fun K1 hK1 hE1 => ?_)
  refine CW.region ?_
  refine LR.v (Y.assign rfl rfl) (Wd.u rfl) rfl rfl ?_
  refine LR.nil ?_
  refine hK1 _ _ ?_
  refine CW.seq (fun K2 hK2 hE2 => ?_)
  refine CW.seq (fun K3 hK3 hE3 => ?_)
  refine CW.region ?_
  refine LR.v (Y.move rfl rfl) (Wd.u rfl) rfl rfl ?_
  refine LR.v (Y.sleq rfl Try.underlying28 rfl rfl) (Wd.u rfl) rfl rfl ?_
  refine LR.nil ?_
  refine hK3 _ _ ?_
  refine CW.cond rfl (fun c4 => ?_) (fun c4 => ?_)
  ·
    obtain rfl : a = [] := by
      apply Decidable.byContradiction
      intro h
      obtain ⟨ad, h1, _⟩ := hne h
      rw [h1] at c4; cases c4
    refine CW.seq (fun K4 hK4 hE4 => ?_)
    refine CW.region ?_
    refine LR.v (Y.assign rfl rfl) (Wd.u rfl) rfl rfl ?_
    refine LR.nil ?_
    refine hK4 _ _ ?_
    refine CW.ret (hE2 .ret nofun _ _ (hret .ret (.inr rfl) _ _ _ (res1 rfl rfl) ?_))
    exact ⟨⟨none, 0, 0⟩, 0, rfl, Ow.nil fA_len fA_one, Nx.refl _ _, hm0⟩
  ·
    
    refine CW.skip ?_
    refine hK2 _ _ ?_
    refine CW.seq (fun K5 hK5 hE5 => ?_)
    refine CW.region ?_
    refine LR.z (Z.litw _ (([] : List Ide)) rfl inf28 rfl rfl rfl (by decide) (by decide) fA_len fA_one (rfl)) (Wd.u rfl) rfl rfl (fun v5 H5 r5 => ?_)
    obtain ⟨ow5, hs5, ob5, hH5⟩ := r5
    have hzs5 : H5.size = H0.size + 1 := by rw [hH5]; simp
    have df1 := (DF.new (bf_ha.mono hm0.size) : DF _ (H0.size + 1))
    have nx2 : Nx 0 H0.size (H0.size + 1) := Nx.new hm0.size
    replace ha := ha.nw hs5
    replace hm0 := hm0.tr hs5
    have hz1 := hs5.size
    refine LR.v (Y.move rfl rfl) (Wd.u rfl) rfl rfl ?_
    refine LR.z (Z.apnd ow5 ha rfl inf28 rfl rfl (by first | omega | (simp; omega)) (by first | omega | (simp; omega))) (Wd.u rfl) rfl rfl (fun v7 H7 r7 => ?_)
    obtain ⟨k7, ow7, hk7, hs7⟩ := r7
    replace hk7 : Nx (H0.size + 1) H5.size k7 := hk7
    replace hs7 := hs7.md
    have df3 := DF.app (df1) (bf_ha.mono hm0.size) hk7
    have nx4 : Nx 0 H0.size k7 := Nx.tr (nx2) hk7 hm0.size
    replace ha := ha.upL hs7 (DFL.cons df1 DFL.nil)
    replace hm0 := (Mo.trL (ks := []) (hm0.mdn []) hs7 (MIL.cons (MI.app MI.z (nx2) (Nat.le_refl _)) MIL.nil)).nil
    have hz2 := hs7.size
    have hle_ow7 := ow7.le
    refine LR.v (Y.assign rfl rfl) (Wd.u rfl) rfl rfl ?_
    refine LR.nil ?_
    refine hK5 _ _ ?_
    refine CW.ret (hret .ret (.inr rfl) _ _ _ (res1 rfl rfl) ?_)
    obtain ⟨s7, rfl⟩ : ∃ s : SV, v7 = s.v := ⟨toSV v7, ow7.sv.symm⟩
    exact ⟨s7, k7, rfl, by simpa using ow7, nx4, hm0⟩

end Go.Proofs.Ytepdhokpfecdnaa.GraA
