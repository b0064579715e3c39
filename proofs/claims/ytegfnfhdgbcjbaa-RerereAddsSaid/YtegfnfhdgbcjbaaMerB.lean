/-
  Which kind of chunk a gap is.
-/
import Derived.Test.YtegfnfhdgbcjbaaMerA
namespace Go.Proofs.Ytegfnfhdgbcjbaa.MerB
open Go.Proofs.Ytegfnfhdgbcjbaa.E Go.RowKit Go.Proofs.Ytegfnfhdgbcjbaa.MerA
set_option maxRecDepth 20000
set_option linter.unusedVariables false
set_option linter.unusedSimpArgs false
set_option linter.unusedSectionVars false

/-- the kind of a gap -/
def kB (x y z : Bool) : Int := if x && y then 0 else if z then 3 else if y then 1 else if x then 2 else 4
end Go.Proofs.Ytegfnfhdgbcjbaa.MerB
