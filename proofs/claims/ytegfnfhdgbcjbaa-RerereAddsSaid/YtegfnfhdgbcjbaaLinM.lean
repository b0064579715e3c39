/-
  Longest common subsequences and scripts, on lists alone: no condition.
-/
import Derived.Test.YtegfnfhdgbcjbaaMap
namespace Go.Proofs.Ytegfnfhdgbcjbaa.LinM
set_option linter.unusedVariables false
set_option linter.unusedSimpArgs false
set_option linter.unusedSectionVars false
open Go.Proofs.Ytegfnfhdgbcjbaa.E
section
variable {α : Type} [DecidableEq α]

def lcs : List α → List α → Nat
  | [], _ => 0
  | _ :: _, [] => 0
  | x :: xs, y :: ys => if x = y then lcs xs ys + 1 else max (lcs xs (y :: ys)) (lcs (x :: xs) ys)
termination_by a b => a.length + b.length

theorem lcs_nil (b : List α) : lcs ([] : List α) b = 0 := by rw [lcs]
theorem lcs_nil_right (a : List α) : lcs a ([] : List α) = 0 := by cases a <;> rw [lcs]
theorem lcs_cons (x y : α) (xs ys : List α) : lcs (x :: xs) (y :: ys) = if x = y then lcs xs ys + 1 else max (lcs xs (y :: ys)) (lcs (x :: xs) ys) := by rw [lcs]

/-- the steps of the first of the shortest scripts: 0 keeps, 1 deletes, 2 inserts -/
def W : List α → List α → List Int
  | [], [] => []
  | [], _ :: ys => 2 :: W [] ys
  | _ :: xs, [] => 1 :: W xs []
  | x :: xs, y :: ys => if x = y then 0 :: W xs ys else if lcs xs (y :: ys) = lcs (x :: xs) (y :: ys) then 1 :: W xs (y :: ys) else 2 :: W (x :: xs) ys
termination_by a b => a.length + b.length

theorem W_nil : W ([] : List α) [] = [] := by rw [W]
end

/-- rows that are the same at the same places -/
def Sim {α β : Type} (a b : List α) (x y : List β) : Prop := a.length = x.length ∧ b.length = y.length ∧ ∀ (i j : Nat) (p q : α) (u v : β), a[i]? = some p → b[j]? = some q → x[i]? = some u → y[j]? = some v → (p = q ↔ u = v)
theorem Sim.tail_left {α β : Type} {p : α} {a b : List α} {u : β} {x y : List β} (h : Sim (p :: a) b (u :: x) y) : Sim a b x y :=
  ⟨by have := h.1; simpa using this, h.2.1, fun i j p' q' u' v' h1 h2 h3 h4 => h.2.2 (i + 1) j p' q' u' v' (by simpa using h1) h2 (by simpa using h3) h4⟩
theorem Sim.tail_right {α β : Type} {q : α} {a b : List α} {v : β} {x y : List β} (h : Sim a (q :: b) x (v :: y)) : Sim a b x y :=
  ⟨h.1, by have := h.2.1; simpa using this, fun i j p' q' u' v' h1 h2 h3 h4 => h.2.2 i (j + 1) p' q' u' v' h1 (by simpa using h2) h3 (by simpa using h4)⟩
theorem Sim.head {α β : Type} {p q : α} {a b : List α} {u v : β} {x y : List β} (h : Sim (p :: a) (q :: b) (u :: x) (v :: y)) : p = q ↔ u = v := h.2.2 0 0 p q u v rfl rfl rfl rfl
theorem Sim.lcs {α β : Type} [DecidableEq α] [DecidableEq β] : ∀ (n : Nat) (a b : List α) (x y : List β), a.length + b.length ≤ n → Sim a b x y → LinM.lcs a b = LinM.lcs x y := by
  intro n
  induction n with
  | zero =>
    intro a b x y h hs
    have h1 : a = [] := List.eq_nil_of_length_eq_zero (by omega)
    subst h1
    have : x = [] := List.eq_nil_of_length_eq_zero (by have := hs.1; simpa using this.symm)
    subst this
    simp [lcs_nil]
  | succ n ih =>
    intro a b x y h hs
    match a, x, hs with
    | [], [], _ => simp [lcs_nil]
    | [], _ :: _, hs => exact absurd hs.1 (by simp)
    | _ :: _, [], hs => exact absurd hs.1 (by simp)
    | p :: a, u :: x, hs =>
      match b, y, hs with
      | [], [], _ => simp [lcs_nil_right]
      | [], _ :: _, hs => exact absurd hs.2.1 (by simp)
      | _ :: _, [], hs => exact absurd hs.2.1 (by simp)
      | q :: b, v :: y, hs =>
        simp only [List.length_cons] at h
        rw [lcs_cons, lcs_cons, ih a b x y (by omega) hs.tail_left.tail_right, ih a (q :: b) x (v :: y) (by simp; omega) hs.tail_left, ih (p :: a) b (u :: x) y (by simp; omega) hs.tail_right]
        have := hs.head
        by_cases hpq : p = q
        · rw [if_pos hpq, if_pos (this.1 hpq)]
        · rw [if_neg hpq, if_neg (fun e => hpq (this.2 e))]
theorem Sim.W {α β : Type} [DecidableEq α] [DecidableEq β] : ∀ (n : Nat) (a b : List α) (x y : List β), a.length + b.length ≤ n → Sim a b x y → LinM.W a b = LinM.W x y := by
  intro n
  induction n with
  | zero =>
    intro a b x y h hs
    have h1 : a = [] := List.eq_nil_of_length_eq_zero (by omega)
    have h2 : b = [] := List.eq_nil_of_length_eq_zero (by omega)
    subst h1; subst h2
    have h3 : x = [] := List.eq_nil_of_length_eq_zero (by have := hs.1; simpa using this.symm)
    have h4 : y = [] := List.eq_nil_of_length_eq_zero (by have := hs.2.1; simpa using this.symm)
    subst h3; subst h4
    rw [W_nil, W_nil]
  | succ n ih =>
    intro a b x y h hs
    match a, x, hs with
    | [], _ :: _, hs => exact absurd hs.1 (by simp)
    | _ :: _, [], hs => exact absurd hs.1 (by simp)
    | [], [], hs =>
      match b, y, hs with
      | [], [], _ => rw [W_nil, W_nil]
      | [], _ :: _, hs => exact absurd hs.2.1 (by simp)
      | _ :: _, [], hs => exact absurd hs.2.1 (by simp)
      | q :: b, v :: y, hs => rw [LinM.W, LinM.W, ih [] b [] y (by simp at h ⊢; omega) hs.tail_right]
    | p :: a, u :: x, hs =>
      match b, y, hs with
      | [], _ :: _, hs => exact absurd hs.2.1 (by simp)
      | _ :: _, [], hs => exact absurd hs.2.1 (by simp)
      | [], [], hs => rw [LinM.W, LinM.W, ih a [] x [] (by simp at h ⊢; omega) hs.tail_left]
      | q :: b, v :: y, hs =>
        simp only [List.length_cons] at h
        rw [LinM.W, LinM.W, ih a b x y (by omega) hs.tail_left.tail_right, ih a (q :: b) x (v :: y) (by simp; omega) hs.tail_left, ih (p :: a) b (u :: x) y (by simp; omega) hs.tail_right,
          Sim.lcs _ _ _ _ _ (Nat.le_refl _) hs, Sim.lcs _ _ _ _ _ (Nat.le_refl _) hs.tail_left]
        have := hs.head
        by_cases hpq : p = q
        · rw [if_pos hpq, if_pos (this.1 hpq)]
        · rw [if_neg hpq, if_neg (fun e => hpq (this.2 e))]

/-! numbers for lines -/
/-! scripts -/
def addE (es : List (Int × Int)) (op : Int) : List (Int × Int) := if 0 < es.length ∧ (es[es.length - 1]?.map (·.1)) = some op then es.set (es.length - 1) (op, ((es[es.length - 1]?.map (·.2)).getD 0) + 1) else es ++ [(op, 1)]
def runs (ops : List Int) : List (Int × Int) := ops.foldl addE []
def script {α : Type} [DecidableEq α] (a b : List α) : List (Int × Int) := runs (W a b)
end Go.Proofs.Ytegfnfhdgbcjbaa.LinM
