/-
  The contracts of the document's sum.
-/
import Derived.Test.YtegfnfhdgbcjbaaSumD
import Derived.Test.YtegfnfhdgbcjbaaOw
namespace Go.Proofs.Ytegfnfhdgbcjbaa.SumE
open Go.Proofs.Ytegfnfhdgbcjbaa.E Go.RowKit Go.Proofs.Ytegfnfhdgbcjbaa.SumA Go.Proofs.Ytegfnfhdgbcjbaa.SumB Go.Proofs.Ytegfnfhdgbcjbaa.SumC Go.Proofs.Ytegfnfhdgbcjbaa.SumD
set_option maxRecDepth 20000
set_option linter.unusedVariables false
set_option linter.unusedSimpArgs false
set_option linter.unusedSectionVars false
set_option maxRecDepth 100000 in
theorem inf22 : Inf Try.prog 22 5 1 1 := ⟨Try.underlying22, _, _, rfl, rfl, rfl, rfl, rfl⟩

/-- a number's n bytes, the highest first -/
def numL : Nat → UInt64 → List UInt8
  | 0, _ => []
  | j + 1, x => UInt8.ofNat (shrw_u64 x (8 * j)).toNat :: numL j x
theorem numL_len : ∀ (n : Nat) (x : UInt64), (numL n x).length = n
  | 0, _ => rfl
  | n + 1, x => by rw [numL, List.length_cons, numL_len]

end Go.Proofs.Ytegfnfhdgbcjbaa.SumE
