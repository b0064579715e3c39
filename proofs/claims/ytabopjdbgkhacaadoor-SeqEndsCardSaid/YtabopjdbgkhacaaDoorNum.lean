/-
  Numbers as bytes, the highest first.
-/
import Derived.Test.YtabopjdbgkhacaaDoorRows
import Derived.Test.YtabopjdbgkhacaaDoorOw
import Derived.Test.YtabopjdbgkhacaaDoorWord
import Derived.Test.YtabopjdbgkhacaaDoorClo
namespace Go.Proofs.YtabopjdbgkhacaaDoor.Num
open Go.Proofs.YtabopjdbgkhacaaDoor.E Go.RowKit
set_option maxRecDepth 20000
set_option linter.unusedVariables false
set_option linter.unusedSimpArgs false
set_option linter.unusedSectionVars false

/-- a number's n bytes, the highest first -/
def numL : Nat → UInt64 → List UInt8
  | 0, _ => []
  | j + 1, x => UInt8.ofNat (shrw_u64 x (8 * j)).toNat :: numL j x
theorem numL_len : ∀ (n : Nat) (x : UInt64), (numL n x).length = n
  | 0, _ => rfl
  | n + 1, x => by rw [numL, List.length_cons, numL_len]

end Go.Proofs.YtabopjdbgkhacaaDoor.Num
