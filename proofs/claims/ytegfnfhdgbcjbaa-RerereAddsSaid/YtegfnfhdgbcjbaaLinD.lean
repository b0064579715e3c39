/-
  Contracts of functions of the program
-/
import Derived.Test.YtegfnfhdgbcjbaaLinC
namespace Go.Proofs.Ytegfnfhdgbcjbaa.LinD
open Go.Proofs.Ytegfnfhdgbcjbaa.E Go.RowKit Go.Proofs.Ytegfnfhdgbcjbaa.LinM Go.Proofs.Ytegfnfhdgbcjbaa.LinB Go.Proofs.Ytegfnfhdgbcjbaa.LinC
set_option maxRecDepth 20000
set_option linter.unusedVariables false
set_option linter.unusedSimpArgs false
set_option linter.unusedSectionVars false
theorem flat_inj {w i k p q : Nat} (hk : k < w) (hq : q < w) (h : p * w + q = i * w + k) : p = i ∧ q = k := by
  have h1 := congrArg (· / w) h
  have h2 := congrArg (· % w) h
  simp only [Nat.mul_add_mod_of_lt hk, Nat.mul_add_mod_of_lt hq] at h2
  have hw : 0 < w := by omega
  simp only [Nat.add_comm (p * w), Nat.add_comm (i * w), Nat.add_mul_div_right _ _ hw, Nat.div_eq_of_lt hk, Nat.div_eq_of_lt hq] at h1
  exact ⟨by omega, h2⟩
theorem flat_lt {w i k n : Nat} (hk : k < w) (hi : i < n) : i * w + k < n * w := by
  have := Nat.mul_le_mul_right w (show i + 1 ≤ n from hi)
  rw [Nat.add_mul] at this; omega
/-- the numbers of the rows behind i, and of row i behind k, are laid -/
def KP (a b : List (List UInt8)) (K : List Int) (i k : Int) : Prop := K.length = (a.length + 1) * (b.length + 1) ∧
  ∀ p q : Nat, p ≤ a.length → q ≤ b.length → (p = a.length ∨ q = b.length ∨ i < p ∨ (i = p ∧ k < q)) → K[p * (b.length + 1) + q]? = some ((lcs (a.drop p) (b.drop q) : Nat) : Int)
theorem KP.row {a b : List (List UInt8)} {K : List Int} {i k : Int} (h : KP a b K i k) (hk : k < 0) : KP a b K (i - 1) (b.length - 1) :=
  ⟨h.1, fun p q hp hq hh => h.2 p q hp hq (by omega)⟩
theorem KP.get {a b : List (List UInt8)} {K : List Int} {i k : Int} (h : KP a b K i k) (p q : Nat) (hp : p ≤ a.length) (hq : q ≤ b.length) (hh : p = a.length ∨ q = b.length ∨ i < p ∨ (i = p ∧ k < q)) (hlt : p * (b.length + 1) + q < K.length) : K[p * (b.length + 1) + q] = ((lcs (a.drop p) (b.drop q) : Nat) : Int) := by
  have := h.2 p q hp hq hh
  rw [List.getElem?_eq_getElem hlt] at this
  exact Option.some.inj this
theorem KP.lt {a b : List (List UInt8)} {K : List Int} {i k : Int} (h : KP a b K i k) (p q : Nat) (hp : p ≤ a.length) (hq : q ≤ b.length) : p * (b.length + 1) + q < K.length := by
  rw [h.1]; exact flat_lt (by omega) (by omega)
theorem KP.set {a b : List (List UInt8)} {K : List Int} {i k : Int} {x : Int} (h : KP a b K i k) (p0 q0 : Nat) (hp : i = p0) (hq : k = q0) (hp2 : p0 < a.length) (hq2 : q0 < b.length) (hx : x = ((lcs (a.drop p0) (b.drop q0) : Nat) : Int)) : KP a b (K.set (p0 * (b.length + 1) + q0) x) i (k - 1) := by
  refine ⟨by simp [h.1], fun p q hpa hqb hh => ?_⟩
  rw [List.getElem?_set]
  by_cases e : p0 * (b.length + 1) + q0 = p * (b.length + 1) + q
  · obtain ⟨rfl, rfl⟩ := flat_inj (by omega) (by omega) e
    rw [if_pos rfl, if_pos (h.lt _ _ hpa hqb), hx]
  · rw [if_neg e]
    refine h.2 p q hpa hqb ?_
    by_cases hpq : p = p0 ∧ q = q0
    · obtain ⟨rfl, rfl⟩ := hpq; exact absurd rfl e
    · omega
theorem KP.all {a b : List (List UInt8)} {K : List Int} {i k : Int} (h : KP a b K i k) (hi : i < 0) (p q : Nat) (hp : p ≤ a.length) (hq : q ≤ b.length) (hlt : p * (b.length + 1) + q < K.length) : K[p * (b.length + 1) + q] = ((lcs (a.drop p) (b.drop q) : Nat) : Int) := h.get p q hp hq (by omega) hlt
end Go.Proofs.Ytegfnfhdgbcjbaa.LinD
