/-
  The contracts of Hex and of the example, of the rows put together.
-/
import Derived.Test.YtegfnfhdgbcjbaaSumH
import Derived.Test.YtegfnfhdgbcjbaaRead
namespace Go.Proofs.Ytegfnfhdgbcjbaa.SumI
open Go.Proofs.Ytegfnfhdgbcjbaa.E Go.RowKit Go.Proofs.Ytegfnfhdgbcjbaa.SumA Go.Proofs.Ytegfnfhdgbcjbaa.SumB Go.Proofs.Ytegfnfhdgbcjbaa.SumC Go.Proofs.Ytegfnfhdgbcjbaa.SumD Go.Proofs.Ytegfnfhdgbcjbaa.SumE Go.Proofs.Ytegfnfhdgbcjbaa.SumF Go.Proofs.Ytegfnfhdgbcjbaa.SumG Go.Proofs.Ytegfnfhdgbcjbaa.SumH
set_option maxRecDepth 20000
set_option linter.unusedVariables false
set_option linter.unusedSimpArgs false
set_option linter.unusedSectionVars false

theorem gd {l : List UInt8} {j : Nat} (h : j < l.length) : l[j] = l.getD j 0 := by simp [h]
end Go.Proofs.Ytegfnfhdgbcjbaa.SumI
