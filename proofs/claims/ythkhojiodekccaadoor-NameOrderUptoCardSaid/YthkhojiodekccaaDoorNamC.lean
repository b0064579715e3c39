/-
  Names: the document's check is the program's: the plain law.
-/
import Derived.Test.YthkhojiodekccaaDoorNamB
namespace Go.Proofs.YthkhojiodekccaaDoor.NamC
open Go.Proofs.YthkhojiodekccaaDoor.E Go.RowKit Go.Proofs.YthkhojiodekccaaDoor.NamA Go.Proofs.YthkhojiodekccaaDoor.NamB
set_option maxRecDepth 20000
set_option linter.unusedVariables false
set_option linter.unusedSimpArgs false
set_option linter.unusedSectionVars false

def lst (cur : List UInt8) : Nat := match cur.getLast? with | none => 47 | some c => c.toNat
end Go.Proofs.YthkhojiodekccaaDoor.NamC
