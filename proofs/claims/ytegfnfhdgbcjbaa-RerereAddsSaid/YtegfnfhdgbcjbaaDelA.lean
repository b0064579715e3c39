/-
  Numbers read and written, rows compared from the front.
-/
import Derived.Test.YtegfnfhdgbcjbaaNum
namespace Go.Proofs.Ytegfnfhdgbcjbaa.DelA
open Go.Proofs.Ytegfnfhdgbcjbaa.E Go.RowKit Go.Proofs.Ytegfnfhdgbcjbaa.Num
set_option maxRecDepth 20000
set_option linter.unusedVariables false
set_option linter.unusedSimpArgs false
set_option linter.unusedSectionVars false

def be32 (n : Nat) : List UInt8 := [UInt8.ofNat (n / 2 ^ 24), UInt8.ofNat (n / 2 ^ 16), UInt8.ofNat (n / 2 ^ 8), UInt8.ofNat n]
theorem be32_len (n : Nat) : (be32 n).length = 4 := rfl
/-- the first place at which p fails, n at most -/
def IsP (n : Nat) (p : Nat → Bool) (q : Nat) : Prop := q ≤ n ∧ (∀ i, i < q → p i = true) ∧ (q < n → p q = false)
theorem IsP.one {n q r : Nat} {p : Nat → Bool} (h : IsP n p q) (k : IsP n p r) : q = r := by
  obtain ⟨h1, h2, h3⟩ := h
  obtain ⟨k1, k2, k3⟩ := k
  rcases Nat.lt_trichotomy q r with hl | hl | hl
  · have := h3 (by omega); rw [k2 q hl] at this; cases this
  · exact hl
  · have := k3 (by omega); rw [h2 r hl] at this; cases this

end Go.Proofs.Ytegfnfhdgbcjbaa.DelA
