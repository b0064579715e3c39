/-
  How the arguments of a statement read, as facts of the engine, and their sizes: no condition.
-/
import Derived.Test.YtepdhokpfecdnaaRows
import Derived.Test.YtepdhokpfecdnaaOwn
import Derived.ProofKit
import Derived.OpenShut
import Derived.ShutString
import Derived.ChangeOld
import Derived.Below
import Derived.JoinedCond
import Derived.Deep.Slices
import Derived.ChangeSame
namespace Go.Proofs.Ytepdhokpfecdnaa.E
set_option linter.unusedVariables false
set_option linter.unusedSimpArgs false
set_option linter.unusedSectionVars false
open Go.ChangeShapes Go.WideShapes Go.ChangeAt Go.RowKit Go.Deep

section
variable {H : Type} {enc : TypeId × Value → H} {P : Program} {W : World} {base : Nat} {sp : Nat → Bool} {held : Bool}
theorem i64_of {x : Int} (h : (Lit.int .i64 x).wf = true) : -9223372036854775808 ≤ x ∧ x ≤ 9223372036854775807 := by
  simpa only [Lit.wf, Bool.and_eq_true, decide_eq_true_eq, show IntKind.i64.min = -9223372036854775808 by decide, show IntKind.i64.max = 9223372036854775807 by decide] using h
end
end Go.Proofs.Ytepdhokpfecdnaa.E
