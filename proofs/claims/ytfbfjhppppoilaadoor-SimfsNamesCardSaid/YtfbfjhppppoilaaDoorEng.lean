/-
  Rules for straight-line code, branches, loops and calls, stated over the live slots of a frame and over the heap alone: no condition.
-/
import Derived.WalkKit
import Derived.StillTail
namespace Go.Proofs.YtfbfjhppppoilaaDoor.E
set_option linter.unusedVariables false
set_option linter.unusedSimpArgs false
set_option linter.unusedSectionVars false

abbrev Heap := Array Obj
abbrev FL := List (Nat × Value)

/-- the value of a slot, if the frame list knows it -/
def lk : FL → Nat → Option Value
  | [], _ => none
  | (s, v) :: l, t => match Nat.beq s t with
    | true => some v
    | false => lk l t

structure Fr (n : Nat) (l : FL) (a : Act) : Prop where
  defers : a.defers = []
  size : a.tmps.size = n
  get : ∀ t v, lk l t = some v → a.tmps[t]? = some v

def opv (l : FL) : Operand → Option Value
  | .tmp t => lk l t
  | .const v => some v
  | .global g => some (.pointer (some ⟨g, 0, none⟩))
  | .func f => some (.func (.func f) #[] #[])

def opvs (l : FL) : List Operand → Option (List Value)
  | [] => some []
  | x :: r => match opv l x, opvs l r with
    | some v, some vs => some (v :: vs)
    | _, _ => none

theorem Fr.eval {n : Nat} {l : FL} {a : Act} (h : Fr n l a) {x : Operand} {v : Value} (e : opv l x = some v) : a.eval x = v := by
  cases x with
  | tmp t => have := h.get t v e; simp [Act.eval, Array.getD_eq_getD_getElem?, this]
  | const c => simpa [opv, Act.eval] using e
  | global g => simpa [opv, Act.eval] using e
  | func f => simpa [opv, Act.eval] using e

theorem Fr.evals {n : Nat} {l : FL} {a : Act} (h : Fr n l a) : ∀ {xs : List Operand} {vs : List Value}, opvs l xs = some vs → xs.map a.eval = vs
  | [], vs, e => by simpa [opvs] using e
  | x :: r, vs, e => by
    simp only [opvs] at e
    cases hx : opv l x with
    | none => simp [hx] at e
    | some v =>
      cases hr : opvs l r with
      | none => simp [hx, hr] at e
      | some vr =>
        simp only [hx, hr, Option.some.injEq] at e
        subst e
        simp [h.eval hx, h.evals hr]

theorem Fr.put {n : Nat} {l : FL} {a : Act} (h : Fr n l a) {d : Nat} (hd : Nat.blt d n = true) (v : Value) : Fr n ((d, v) :: l) (a.put (some d) v) := by
  have hd' : d < n := by simpa [Nat.blt_eq] using hd
  refine ⟨h.defers, by simp [Act.put, h.size], fun t u e => ?_⟩
  simp only [Act.put, Array.getElem?_setIfInBounds]
  simp only [lk] at e
  by_cases ht : d = t
  · subst ht
    have : Nat.beq d d = true := by simp
    simp only [this] at e
    simp [h.size, hd', ← Option.some.inj e]
  · have : Nat.beq d t = false := by
      cases hb : Nat.beq d t with
      | true => exact absurd (Nat.eq_of_beq_eq_true hb) ht
      | false => rfl
    simp only [this] at e
    simp [ht, h.get t u e]

/-- the slots of 'l'' hold in 'l' what they are said to hold -/
def Sub : FL → FL → Prop
  | [], _ => True
  | (t, v) :: r, l => lk l t = some v ∧ Sub r l
theorem Sub.lk {l : FL} : ∀ {l' : FL}, Sub l' l → ∀ t v, lk l' t = some v → lk l t = some v
  | [], _, t, v, e => by simp [E.lk] at e
  | (s, u) :: r, ⟨h1, h2⟩, t, v, e => by
    simp only [E.lk] at e
    cases hb : Nat.beq s t with
    | true =>
      simp only [hb, Option.some.injEq] at e
      have := Nat.eq_of_beq_eq_true hb
      subst this; subst e; exact h1
    | false => simp only [hb] at e; exact Sub.lk h2 t v e
theorem Fr.sub {n : Nat} {l l' : FL} {a : Act} (h : Fr n l a) (hs : Sub l' l) : Fr n l' a :=
  ⟨h.defers, h.size, fun t v e => h.get t v (hs.lk t v e)⟩

structure At (w0 : World) (H : Heap) (w : World) : Prop where
  heap : w.heap = H
  os : w.os = w0.os
  tape : w.tape = w0.tape
  output : w.output = w0.output
  dr : w0.drawn ≤ w.drawn

theorem At.drew {w0 w : World} {H : Heap} (h : At w0 H w) : At w0 H { w with drawn := w.drawn + 1 } := ⟨h.heap, h.os, h.tape, h.output, Nat.le_succ_of_le h.dr⟩
theorem At.set {w0 w : World} {H H' : Heap} (h : At w0 H w) : At w0 H' { w with heap := H' } := ⟨rfl, h.os, h.tape, h.output, h.dr⟩

/-! ### one operation that yields a value and leaves the world -/
def Y (P : Program) (w0 : World) (n : Nat) (l : FL) (H : Heap) (o : Oper) (v : Value) : Prop :=
  ∀ a w, Fr n l a → At w0 H w → (execOp a.eval o).run P w = .ok (.value v) w

def Md (m : Bool) (P : Program) (ops : Array Oper) (Q : Exit → Act → World → Prop) (rest : List Oper) (a : Act) (w : World) : Prop := match m with
  | true => wpStill P ops w (fun a' => Q .normal a' w) rest a
  | false => wpList P ops Q rest a w

/-- operations in the text's order; m: the region draws its order (every operation leaves the world) -/
def LR (m : Bool) (P : Program) (w0 : World) (ops : Array Oper) (Q : Exit → Act → World → Prop) (n : Nat) (l : FL) (rest : List Oper) (H : Heap) : Prop :=
  ∀ a w, Fr n l a → At w0 H w → Md m P ops Q rest a w

def QN (w0 : World) (Q : Exit → Act → World → Prop) (n : Nat) (l : FL) (H : Heap) : Prop := ∀ a w, Fr n l a → At w0 H w → Q .normal a w

def QE (w0 : World) (Q : Exit → Act → World → Prop) (e : Exit) (n : Nat) (l : FL) (H : Heap) : Prop := ∀ a w, Fr n l a → At w0 H w → Q e a w

def CW (P : Program) (w0 : World) (Q : Exit → Act → World → Prop) (n : Nat) (l : FL) (c : Code) (H : Heap) : Prop :=
  ∀ a w, Fr n l a → At w0 H w → c.wp P Q a w

section
variable {P : Program} {w0 : World} {Q : Exit → Act → World → Prop} {n : Nat} {l : FL} {H : Heap} {ops : Array Oper} {rest : List Oper} {o : Oper} {m : Bool}

theorem LR.nil (h : QN w0 Q n l H) : LR m P w0 ops Q n l [] H := by
  intro a w hf ha
  cases m
  · exact h a w hf ha
  · exact h a w hf ha

theorem step_aux {a : Act} {w : World} {v : Value} (hf : Fr n l a) (ha : At w0 H w) (hw : Region.wanted o (yielded ops a.tmps) = true) (hr : (execOp a.eval o).run P w = .ok (.value v) w)
    {d : Nat} (hd : o.dst = some d) (hn : Nat.blt d n = true) (h : LR m P w0 ops Q n ((d, v) :: l) rest H) : Md m P ops Q (o :: rest) a w := by
  have hp := hf.put hn v
  rw [← hd] at hp
  have hh := h _ w hp ha
  cases m
  · simp only [Md] at hh ⊢
    unfold wpList
    rw [if_pos hw]
    exact .inl (by unfold Oper.wp; rw [hr]; exact hh)
  · simp only [Md] at hh ⊢
    unfold wpStill
    rw [if_pos hw]
    unfold Oper.still
    rw [hr]
    exact ⟨rfl, hh⟩

/-- the operation is carried out: it bears no guard, or one that is met -/
def Wd (ops : Array Oper) (l : FL) (o : Oper) : Prop := ∀ n a, Fr n l a → Region.wanted o (yielded ops a.tmps) = true
theorem yielded_of {a : Act} (hf : Fr n l a) {j d : Nat} {b : Bool} (hj : (ops[j]?).bind (·.dst) = some d) (hc : lk l d = some (.bool b)) : yielded ops a.tmps j = some b := by
  have h1 := hf.get d _ hc
  have : (ops[j]?).bind (fun o => o.dst) = some d := hj
  unfold yielded
  rw [this]
  simp [h1]
theorem Wd.u (hg : o.guard = none) : Wd ops l o := fun _ _ _ => by simp [Region.wanted, hg]
theorem Wd.g {j e : Nat} {b : Bool} (hg : o.guard = some (j, b)) (hj : (ops[j]?).bind (·.dst) = some e) (hc : lk l e = some (.bool b)) : Wd ops l o :=
  fun _ _ hf => by simp [Region.wanted, hg, yielded_of hf hj hc]

theorem LR.v {v : Value} {d : Nat} (hy : Y P w0 n l H o v) (hw : Wd ops l o) (hd : o.dst = some d) (hn : Nat.blt d n = true) (h : LR m P w0 ops Q n ((d, v) :: l) rest H) : LR m P w0 ops Q n l (o :: rest) H :=
  fun a w hf ha => step_aux hf ha (hw n a hf) (hy a w hf ha) hd hn h

/-- an operation that yields some value of which 'φ' is known -/
theorem LR.e {α : Type} {g : α → Value} {φ : α → Prop} {d : Nat} (hy : ∃ x, (∀ H', Y P w0 n l H' o (g x)) ∧ φ x) (hw : Wd ops l o) (hd : o.dst = some d) (hn : Nat.blt d n = true) (h : ∀ x, φ x → LR m P w0 ops Q n ((d, g x) :: l) rest H) : LR m P w0 ops Q n l (o :: rest) H :=
  let ⟨x, h1, h2⟩ := hy
  LR.v (h1 H) hw hd hn (h x h2)

/-- a guarded operation whose guard is not met -/
theorem LR.gs {d j e : Nat} {b c : Bool} (hg : o.guard = some (j, b)) (hj : (ops[j]?).bind (·.dst) = some e) (hc : lk l e = some (.bool c)) (hne : (c == b) = false)
    (hd : o.dst = some d) (hn : Nat.blt d n = true) (h : LR m P w0 ops Q n ((d, undef) :: l) rest H) : LR m P w0 ops Q n l (o :: rest) H := by
  intro a w hf ha
  have hw : Region.wanted o (yielded ops a.tmps) = false := by
    have hne' : c ≠ b := by intro e; subst e; simp at hne
    simp [Region.wanted, hg, yielded_of hf hj hc, hne']
  have hp := hf.put hn undef
  rw [← hd] at hp
  have hh := h _ w hp ha
  cases m
  · simp only [Md] at hh ⊢
    unfold wpList
    rw [if_neg (by simp [hw])]
    exact hh
  · simp only [Md] at hh ⊢
    unfold wpStill
    rw [if_neg (by simp [hw])]
    exact hh

theorem Fr.same {a : Act} (hf : Fr n l a) {d : Nat} {v : Value} (hc : lk l d = some v) : Fr n ((d, v) :: l) a := by
  refine ⟨hf.defers, hf.size, fun t u e => ?_⟩
  simp only [lk] at e
  cases hb : Nat.beq d t with
  | true =>
    have := Nat.eq_of_beq_eq_true hb
    subst this
    simp only [hb] at e
    exact hf.get d u (by rw [hc]; exact e)
  | false => simp only [hb] at e; exact hf.get t u e
theorem LR.splitp {d : Nat} {p : Prop} [Decidable p] (hc : lk l d = some (.bool (decide p))) (ht : p → LR m P w0 ops Q n ((d, .bool true) :: l) rest H) (he : ¬p → LR m P w0 ops Q n ((d, .bool false) :: l) rest H) : LR m P w0 ops Q n l rest H := by
  intro a w hf ha
  by_cases hp : p
  · rw [decide_eq_true hp] at hc; exact ht hp a w (hf.same hc) ha
  · rw [decide_eq_false hp] at hc; exact he hp a w (hf.same hc) ha
theorem LR.split {d : Nat} {b : Bool} (hc : lk l d = some (.bool b)) (ht : b = true → LR m P w0 ops Q n ((d, .bool true) :: l) rest H) (he : b = false → LR m P w0 ops Q n ((d, .bool false) :: l) rest H) : LR m P w0 ops Q n l rest H := by
  intro a w hf ha
  cases b
  · exact he rfl a w (hf.same hc) ha
  · exact ht rfl a w (hf.same hc) ha

theorem LR.sub {l' : FL} (h : LR m P w0 ops Q n l' rest H) (hs : Sub l' l) : LR m P w0 ops Q n l rest H := fun a w hf ha => h a w (hf.sub hs) ha
theorem CW.sub {c : Code} {l' : FL} (h : CW P w0 Q n l' c H) (hs : Sub l' l) : CW P w0 Q n l c H := fun a w hf ha => h a w (hf.sub hs) ha
theorem QN.sub {l' : FL} (h : QN w0 Q n l' H) (hs : Sub l' l) : QN w0 Q n l H := fun a w hf ha => h a w (hf.sub hs) ha

/-! ### code -/
theorem CW.region {id : Nat} {lo : List Oper} (h : LR false P w0 lo.toArray Q n l lo H) : CW P w0 Q n l (.region id lo.toArray false) H :=
  fun a w hf ha => wp_region_lit (h a w hf ha)
theorem CW.region_draw {id : Nat} {lo : List Oper} (hm : P.follows .mixedOrders = true) (hB : Region.lexB .any lo.toArray = true) (h : LR true P w0 lo.toArray Q n l lo H) : CW P w0 Q n l (.region id lo.toArray true) H :=
  fun a w hf ha => wp_region_still_lit hm hB (h a _ hf ha.drew)

/-- reads in any order, then the rest in the text's: 'k' operations read -/
theorem CW.region_tail {id : Nat} {lo : List Oper} (k : Nat) (hm : P.follows .mixedOrders = true) (hB : Region.lexTailB .any lo.toArray k = true)
    (h : ∀ K : Exit → Act → World → Prop, (∀ l', LR false P w0 lo.toArray Q n l' (lo.drop k) H → QN w0 K n l' H) → LR true P w0 lo.toArray K n l (lo.take k) H) : CW P w0 Q n l (.region id lo.toArray true) H :=
  fun a w hf ha => wp_region_still_tail k hm hB (h (fun _ a' w' => wpList P lo.toArray Q (lo.drop k) a' w') (fun l' hl a' w' hf' ha' => hl a' w' hf' ha') a _ hf ha.drew)

/-- what comes behind, under one name -/
theorem CW.seq {x y : Code} (h : ∀ K : Exit → Act → World → Prop, (∀ l' H', CW P w0 Q n l' y H' → QN w0 K n l' H') → (∀ e, e ≠ .normal → ∀ l' H', QE w0 Q e n l' H' → QE w0 K e n l' H') → CW P w0 K n l x H) : CW P w0 Q n l (.seq x y) H := by
  intro a w hf ha
  refine wp_seq (h (Exit.then (y.wp P Q) Q) (fun l' H' hy a' w' hf' ha' => hy a' w' hf' ha') ?_ a w hf ha)
  intro e he l' H' hq a' w' hf' ha'
  have hq := hq a' w' hf' ha'
  cases e <;> first | exact absurd rfl he | exact hq

theorem CW.skip (h : QN w0 Q n l H) : CW P w0 Q n l .skip H := fun a w hf ha => wp_skip (h a w hf ha)
theorem CW.label {k : Nat} (h : QN w0 Q n l H) : CW P w0 Q n l (.label k) H := fun a w hf ha => wp_label (h a w hf ha)
theorem CW.exit {id : Nat} (h : QE w0 Q (.exit id) n l H) : CW P w0 Q n l (.exit id) H := fun a w hf ha => wp_exit (h a w hf ha)
theorem CW.ret (h : QE w0 Q .ret n l H) : CW P w0 Q n l .ret H := fun a w hf ha => wp_ret (h a w hf ha)
theorem CW.cond {c : Operand} {x y : Code} {b : Bool} (hc : opv l c = some (.bool b)) (ht : b = true → CW P w0 Q n l x H) (he : b = false → CW P w0 Q n l y H) : CW P w0 Q n l (.cond c x y) H :=
  fun a w hf ha => wp_cond_split (hf.eval hc) (fun h => ht h a w hf ha) (fun h => he h a w hf ha)
theorem CW.condp {c : Operand} {x y : Code} {p : Prop} [Decidable p] (hc : opv l c = some (.bool (decide p))) (ht : p → CW P w0 Q n l x H) (he : ¬p → CW P w0 Q n l y H) : CW P w0 Q n l (.cond c x y) H :=
  CW.cond hc (fun h => ht (of_decide_eq_true h)) (fun h => he (of_decide_eq_false h))
theorem CW.cond_t {c : Operand} {x y : Code} (hc : opv l c = some (.bool true)) (ht : CW P w0 Q n l x H) : CW P w0 Q n l (.cond c x y) H :=
  CW.cond hc (fun _ => ht) (fun h => by cases h)
theorem CW.cond_f {c : Operand} {x y : Code} (hc : opv l c = some (.bool false)) (he : CW P w0 Q n l y H) : CW P w0 Q n l (.cond c x y) H :=
  CW.cond hc (fun h => by cases h) (fun _ => he)
/-- what lies behind a block, under one name -/
theorem CW.block {id : Nat} {c : Code} (h : ∀ K : Exit → Act → World → Prop, (∀ l' H', QN w0 Q n l' H' → QN w0 K n l' H') → (∀ l' H', QN w0 Q n l' H' → QE w0 K (.exit id) n l' H') → (∀ e, e ≠ .normal → e ≠ .exit id → ∀ l' H', QE w0 Q e n l' H' → QE w0 K e n l' H') → CW P w0 K n l c H) : CW P w0 Q n l (.block id c) H := by
  intro a w hf ha
  refine wp_block (h (Exit.inBlock id Q) (fun l' H' hy a' w' hf' ha' => hy a' w' hf' ha') (fun l' H' hy a' w' hf' ha' => ?_) ?_ a w hf ha)
  · show (if id = id then Q .normal a' w' else Q (.exit id) a' w'); rw [if_pos rfl]; exact hy a' w' hf' ha'
  · intro e he hi l' H' hq a' w' hf' ha'
    cases e with
    | normal => exact absurd rfl he
    | exit k =>
      show (if k = id then Q .normal a' w' else Q (.exit k) a' w')
      rw [if_neg (fun e => hi (by rw [e]))]; exact hq a' w' hf' ha'
    | goto k => exact hq a' w' hf' ha'
    | ret => exact hq a' w' hf' ha'
    | panic k => exact hq a' w' hf' ha'
    | outgrown => exact hq a' w' hf' ha'
theorem CW.scope {c : Code} (h : ∀ K : Exit → Act → World → Prop, (∀ l' H', QN w0 Q n l' H' → QN w0 K n l' H') → (∀ e, e ≠ .normal → (∀ k, e ≠ .goto k) → ∀ l' H', QE w0 Q e n l' H' → QE w0 K e n l' H') → CW P w0 K n l c H) : CW P w0 Q n l (.scope c) H := by
  intro a w hf ha
  refine wp_scope_straight (h (Exit.noGoto Q) (fun l' H' hy a' w' hf' ha' => hy a' w' hf' ha') ?_ a w hf ha)
  intro e he hg l' H' hq a' w' hf' ha'
  have hq := hq a' w' hf' ha'
  cases e <;> first | exact absurd rfl he | exact absurd rfl (hg _) | exact hq

/-- a loop: 'fl s' the live slots at a round's head, 'I s' what holds of the heap there -/
theorem CW.loop {σ : Type} {c : Code} (fl : σ → FL) (I : σ → Heap → Prop) (μ : σ → Nat) (s0 : σ) (hl : Sub (fl s0) l) (h0 : I s0 H)
    (round : ∀ s H, I s H → ∀ K : Exit → Act → World → Prop, (∀ s' H', I s' H' → μ s' < μ s → QN w0 K n (fl s') H') → (∀ e, e ≠ .normal → ∀ l' H', QE w0 Q e n l' H' → QE w0 K e n l' H') → CW P w0 K n (fl s) c H) : CW P w0 Q n l (.loop c) H := by
  intro a w hf ha b k cs
  have key : ∀ N s H a w, μ s = N → I s H → Fr n (fl s) a → At w0 H w →
      ∃ e a' w', Q e a' w' ∧ Arrives P (lone (b.at a (.code c :: .inLoop c :: k)) cs w) b k cs e a' w' := by
    intro N
    induction N using Nat.strongRecOn with
    | _ N ih =>
      intro s H a w hN hI hfr hat
      have hr := round s H hI (Exit.then (fun a' w' => ∃ s' H', Fr n (fl s') a' ∧ At w0 H' w' ∧ I s' H' ∧ μ s' < μ s) Q)
        (fun s' H' hI' hlt a' w' hf' ha' => ⟨s', H', hf', ha', hI', hlt⟩) (fun e he l' H' hq a' w' hf' ha' => by have hq := hq a' w' hf' ha'; cases e <;> first | exact absurd rfl he | exact hq) a w hfr hat
      obtain ⟨e, a₁, w₁, hq, harr⟩ := hr b (.inLoop c :: k) cs
      cases e with
      | normal =>
        obtain ⟨s', H', hf', ha', hI', hlt⟩ := hq
        obtain ⟨e₂, a₂, w₂, hq₂, harr₂⟩ := ih (μ s') (hN ▸ hlt) s' H' a₁ w₁ rfl hI' hf' ha'
        exact ⟨e₂, a₂, w₂, hq₂, .of_steps (Steps.trans harr (.one step_inLoop)) harr₂⟩
      | exit id => exact ⟨_, a₁, w₁, hq, .pass (x := .inLoop c) rfl (fun _ _ => .inl (by simp)) harr⟩
      | goto l => exact ⟨_, a₁, w₁, hq, .pass (x := .inLoop c) rfl (fun _ _ => .inl (by simp)) harr⟩
      | ret => exact ⟨_, a₁, w₁, hq, .pass (x := .inLoop c) rfl (fun _ _ => .inl (by simp)) harr⟩
      | panic ch => exact ⟨_, a₁, w₁, hq, .pass (x := .inLoop c) rfl (fun _ _ => .inl (by simp)) harr⟩
      | outgrown => exact ⟨_, a₁, w₁, hq, .pass (x := .inLoop c) rfl (fun _ _ => .inl (by simp)) harr⟩
  obtain ⟨e, a', w', hq, harr⟩ := key _ s0 H a w rfl h0 (hf.sub hl) ha
  exact ⟨e, a', w', hq, .of_steps (.one step_loop) harr⟩

/-- the ways through x meet again -/
theorem CW.cut {σ : Type} {x y : Code} (fl : σ → FL) (I : σ → Heap → Prop)
    (h : ∀ K : Exit → Act → World → Prop, (∀ s H', I s H' → QN w0 K n (fl s) H') → (∀ e, e ≠ .normal → ∀ l' H', QE w0 Q e n l' H' → QE w0 K e n l' H') → CW P w0 K n l x H)
    (hy : ∀ s H', I s H' → CW P w0 Q n (fl s) y H') : CW P w0 Q n l (.seq x y) H := by
  intro a w hf ha
  refine wp_seq (h (Exit.then (y.wp P Q) Q) (fun s H' hI a' w' hf' ha' => hy s H' hI a' w' hf' ha') ?_ a w hf ha)
  intro e he l' H' hq a' w' hf' ha'
  have hq := hq a' w' hf' ha'
  cases e <;> first | exact absurd rfl he | exact hq
end

/-! ### contracts -/
/-- called with these arguments, in any world over this heap, it returns r and leaves the heap H', and 'R r H'' holds -/
def Ct (P : Program) (w0 : World) (f : FuncId) (args : Array Value) (H : Heap) (R : Value → Heap → Prop) : Prop :=
  ∀ w, At w0 H w → Calls P f args w (fun e w' => ∃ r H', e = .returned r ∧ At w0 H' w' ∧ R r H')

def RP (w0 : World) (R : Value → Heap → Prop) : Ending → World → Prop := fun e w' => ∃ r H', e = .returned r ∧ At w0 H' w' ∧ R r H'

def argL (args : List Value) (k : Nat) : FL := match args with
  | [] => []
  | v :: r => (k, v) :: argL r (k + 1)

theorem argL_get : ∀ (args : List Value) (k t : Nat) (v : Value), lk (argL args k) t = some v → k ≤ t ∧ args[t - k]? = some v
  | [], _, _, _, e => by simp [argL, lk] at e
  | x :: r, k, t, v, e => by
    simp only [argL, lk] at e
    cases hb : Nat.beq k t with
    | true =>
      have := Nat.eq_of_beq_eq_true hb
      subst this
      simp only [hb, Option.some.injEq] at e
      simp [e]
    | false =>
      simp only [hb] at e
      obtain ⟨h1, h2⟩ := argL_get r (k + 1) t v e
      refine ⟨by omega, ?_⟩
      have : t - k = (t - (k + 1)) + 1 := by omega
      rw [this]; simpa using h2

theorem Ct.enter {P : Program} {w0 : World} {f : FuncId} {fn : Func} {c : Code} {args : List Value} {H : Heap} {R : Value → Heap → Prop} {n : Nat}
    (hf : P.funcs[f]? = some fn) (hb : fn.body = some c) (hn : fn.ntmps = n) (hk : Nat.ble args.length n = true)
    (h : ∀ Q : Exit → Act → World → Prop, (∀ e, (e = .normal ∨ e = .ret) → ∀ l H' v, (∀ a w, Fr n l a → At w0 H' w → (results fn a.tmps).run P w = .ok v w) → R v H' → QE w0 Q e n l H') → CW P w0 Q n (argL args 0) c H) :
    Ct P w0 f args.toArray H R := by
  intro w ha
  have hk' : args.length ≤ n := Nat.le_of_ble_eq_true hk
  refine calls_of_wp hf hb (h (bodyPost P fn (RP w0 R)) ?_ _ w ⟨rfl, ?_, ?_⟩ ha)
  · intro e he l H' v hv hR a w' hfr ha'
    rcases he with rfl | rfl <;> exact ⟨hfr.defers, v, hv a w' hfr ha', v, H', rfl, ha', hR⟩
  · simp [hn]; omega
  · intro t v e
    obtain ⟨_, h2⟩ := argL_get args 0 t v e
    simp only [Nat.sub_zero] at h2
    simp only
    have hlt := (List.getElem?_eq_some_iff.1 h2).1
    rw [Array.getElem?_append_left (by simpa using hlt)]
    simpa using h2

theorem res1 {P : Program} {w0 : World} {H : Heap} {fn : Func} {n t : Nat} {l : FL} {v : Value} (h : fn.results = #[.tmp t]) (e : lk l t = some v) : ∀ a w, Fr n l a → At w0 H w → (results fn a.tmps).run P w = .ok v w := by
  intro a w hf _
  rw [results_tmp h]
  simp [Array.getD_eq_getD_getElem?, hf.get t v e]
theorem res2 {P : Program} {w0 : World} {H : Heap} {fn : Func} {n t u : Nat} {l : FL} {v x : Value} (h : fn.results = #[.tmp t, .tmp u]) (e : lk l t = some v) (e2 : lk l u = some x) : ∀ a w, Fr n l a → At w0 H w → (results fn a.tmps).run P w = .ok (.tuple #[v, x]) w := by
  intro a w hf _
  rw [results_tmp2 h]
  simp [Array.getD_eq_getD_getElem?, hf.get t v e, hf.get u x e2]
theorem res3 {P : Program} {w0 : World} {H : Heap} {fn : Func} {n t u s : Nat} {l : FL} {v x y : Value} (h : fn.results = #[.tmp t, .tmp u, .tmp s]) (e : lk l t = some v) (e2 : lk l u = some x) (e3 : lk l s = some y) : ∀ a w, Fr n l a → At w0 H w → (results fn a.tmps).run P w = .ok (.tuple #[v, x, y]) w := by
  intro a w hf _
  rw [results_tmp3 h]
  simp [Array.getD_eq_getD_getElem?, hf.get t v e, hf.get u x e2, hf.get s y e3]
theorem res0 {P : Program} {w0 : World} {H : Heap} {fn : Func} {n : Nat} {l : FL} (h : fn.results = #[]) : ∀ a w, Fr n l a → At w0 H w → (results fn a.tmps).run P w = .ok (.tuple #[]) w := by
  intro a w _ _
  exact results_none h _ _ _

section
variable {P : Program} {w0 : World} {Q : Exit → Act → World → Prop} {n : Nat} {l : FL} {H : Heap} {ops : Array Oper} {rest : List Oper} {o : Oper} {m : Bool}

/-- an operation that turns the heap (in a region that does not draw) -/
def Z (P : Program) (w0 : World) (n : Nat) (l : FL) (H : Heap) (o : Oper) (R : Value → Heap → Prop) : Prop :=
  ∀ a w, Fr n l a → At w0 H w → ∃ v H' w', (execOp a.eval o).run P w = .ok (.value v) w' ∧ At w0 H' w' ∧ R v H'

theorem LR.z {R : Value → Heap → Prop} {d : Nat} (hz : Z P w0 n l H o R) (hw : Wd ops l o) (hd : o.dst = some d) (hn : Nat.blt d n = true)
    (h : ∀ v H', R v H' → LR false P w0 ops Q n ((d, v) :: l) rest H') : LR false P w0 ops Q n l (o :: rest) H := by
  intro a w hf ha
  obtain ⟨v, H', w', hr, ha', hR⟩ := hz a w hf ha
  have hp := hf.put hn v
  rw [← hd] at hp
  have hh := h v H' hR _ w' hp ha'
  simp only [Md] at hh ⊢
  unfold wpList
  rw [if_pos (hw n a hf)]
  exact .inl (by unfold Oper.wp; rw [hr]; exact hh)

/-- a store: no slot is written -/
def S (P : Program) (w0 : World) (n : Nat) (l : FL) (H : Heap) (o : Oper) (R : Heap → Prop) : Prop :=
  ∀ a w, Fr n l a → At w0 H w → ∃ H' w', (execOp a.eval o).run P w = .ok .skip w' ∧ At w0 H' w' ∧ R H'
theorem LR.s {R : Heap → Prop} (hz : S P w0 n l H o R) (hw : Wd ops l o) (hd : o.dst = none)
    (h : ∀ H', R H' → LR false P w0 ops Q n l rest H') : LR false P w0 ops Q n l (o :: rest) H := by
  intro a w hf ha
  obtain ⟨H', w', hr, ha', hR⟩ := hz a w hf ha
  have hh := h H' hR a w' hf ha'
  simp only [Md] at hh ⊢
  unfold wpList
  rw [if_pos (hw n a hf)]
  refine .inl ?_
  unfold Oper.wp
  rw [hr]
  show wpList P ops Q rest (a.put o.dst undef) w'
  rw [hd]
  exact hh

theorem run_call {ρ : Operand → Value} {f : FuncId} {args : Array Operand} {ats : Array TypeId} {w : World} (ho : o.op = .call { callee := .value (.func f), args := args, argTypes := ats }) (hρ : ρ (.func f) = .func (.func f) #[] #[])
    (hcall : ∀ (vs : Array Value) (w : World), (callFunc f vs).run P w = .ok (.enter f vs) w) : (execOp ρ o).run P w = .ok (.enter f (args.map ρ)) w := by
  simp [execOp, ho, resolve, Deferred.ofValue, hρ, invoke, hcall]

theorem LR.call {R : Value → Heap → Prop} {f d : Nat} {args : List Operand} {ats : Array TypeId} {vs : List Value} (ho : o.op = .call { callee := .value (.func f), args := args.toArray, argTypes := ats })
    (hcall : ∀ (vs : Array Value) (w : World), (callFunc f vs).run P w = .ok (.enter f vs) w) (hv : opvs l args = some vs) (hw : Wd ops l o) (hd : o.dst = some d) (hn : Nat.blt d n = true) (hc : Ct P w0 f vs.toArray H R)
    (h : ∀ v H', R v H' → LR false P w0 ops Q n ((d, v) :: l) rest H') : LR false P w0 ops Q n l (o :: rest) H := by
  intro a w hf ha
  simp only [Md]
  have hr := run_call (P := P) (ρ := a.eval) (w := w) ho rfl hcall
  rw [List.map_toArray, hf.evals hv] at hr
  unfold wpList
  rw [if_pos (hw n a hf)]
  refine .inl ?_
  unfold Oper.wp
  rw [hr]
  show Calls P f vs.toArray w _
  refine (hc w ha).mono ?_
  rintro e w' ⟨r, H', rfl, ha', hR⟩
  have hp := hf.put hn r
  rw [← hd] at hp
  exact h r H' hR _ w' hp ha'
end

theorem Ct.mono {P : Program} {w0 : World} {f : FuncId} {args : Array Value} {H : Heap} {R R' : Value → Heap → Prop} (h : Ct P w0 f args H R) (hr : ∀ v H', R v H' → R' v H') : Ct P w0 f args H R' :=
  fun w ha => (h w ha).mono fun _ _ ⟨r, H', he, ha', hR⟩ => ⟨r, H', he, ha', hr r H' hR⟩

end Go.Proofs.YtfbfjhppppoilaaDoor.E
