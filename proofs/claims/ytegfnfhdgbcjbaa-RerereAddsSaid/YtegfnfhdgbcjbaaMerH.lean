/-
  Three texts are merged.
-/
import Derived.Test.YtegfnfhdgbcjbaaMerF
import Derived.Test.YtegfnfhdgbcjbaaClo
namespace Go.Proofs.Ytegfnfhdgbcjbaa.MerH
open Go.Proofs.Ytegfnfhdgbcjbaa.E Go.RowKit Go.Proofs.Ytegfnfhdgbcjbaa.LinM Go.Proofs.Ytegfnfhdgbcjbaa.LinC Go.Proofs.Ytegfnfhdgbcjbaa.LinL Go.Proofs.Ytegfnfhdgbcjbaa.LinN Go.Proofs.Ytegfnfhdgbcjbaa.MerA Go.Proofs.Ytegfnfhdgbcjbaa.MerB Go.Proofs.Ytegfnfhdgbcjbaa.MerC Go.Proofs.Ytegfnfhdgbcjbaa.MerD Go.Proofs.Ytegfnfhdgbcjbaa.MerE Go.Proofs.Ytegfnfhdgbcjbaa.MerF
set_option maxRecDepth 20000
set_option linter.unusedVariables false
set_option linter.unusedSimpArgs false
set_option linter.unusedSectionVars false

theorem flat_split (b : List UInt8) : (splitL [] b).flatten = b := by rw [splitL_flat]; rfl
/-- not too many bytes, not too many lines -/
def Short (b : List UInt8) : Prop := b.length < 3000 ∧ Few (splitL [] b)
instance (b : List UInt8) : Decidable (Short b) := by unfold Short; infer_instance
theorem split_mem {b : List UInt8} : ∀ s ∈ splitL [] b, s.length ≤ b.length := by
  intro s hs
  have h := flat_split b
  have : s.length ≤ (splitL [] b).flatten.length := by
    have := List.sublist_flatten_of_mem hs
    exact this.length_le
  rw [h] at this
  exact this
end Go.Proofs.Ytegfnfhdgbcjbaa.MerH
