/-
  Three sides are taken to pieces.
-/
import Derived.Test.YtegfnfhdgbcjbaaMerD
namespace Go.Proofs.Ytegfnfhdgbcjbaa.MerE
open Go.Proofs.Ytegfnfhdgbcjbaa.E Go.RowKit Go.Proofs.Ytegfnfhdgbcjbaa.LinM Go.Proofs.Ytegfnfhdgbcjbaa.LinC Go.Proofs.Ytegfnfhdgbcjbaa.MerA Go.Proofs.Ytegfnfhdgbcjbaa.MerB Go.Proofs.Ytegfnfhdgbcjbaa.MerC Go.Proofs.Ytegfnfhdgbcjbaa.MerD
set_option maxRecDepth 20000
set_option linter.unusedVariables false
set_option linter.unusedSimpArgs false
set_option linter.unusedSectionVars false
set_option maxRecDepth 100000 in
theorem inf32 : Inf Try.prog 32 9 1 16 := ⟨Try.underlying32, _, _, rfl, rfl, rfl, rfl, rfl⟩

/-- each line of a has a partner in b, or none; they rise -/
structure Al (P : List Int) (a b : List (List UInt8)) : Prop where
  len : P.length = a.length
  val : ∀ (k : Nat) (x : Int), P[k]? = some x → x = -1 ∨ ∃ j : Nat, x = j ∧ j < b.length ∧ a[k]? = b[j]?
  mono : ∀ (k k2 : Nat) (x y : Int), k < k2 → P[k]? = some x → P[k2]? = some y → 0 ≤ x → 0 ≤ y → x < y
theorem Al.get {P : List Int} {a b : List (List UInt8)} (h : Al P a b) (k : Nat) (hk : k < P.length) : P[k] = P.getD k 0 := by simp [List.getD, hk]
theorem z1 {b o t : List (List UInt8)} (h : b.length + o.length + t.length = 0) : b = [] ∧ o = [] ∧ t = [] :=
  ⟨List.eq_nil_of_length_eq_zero (by omega), List.eq_nil_of_length_eq_zero (by omega), List.eq_nil_of_length_eq_zero (by omega)⟩
end Go.Proofs.Ytegfnfhdgbcjbaa.MerE
