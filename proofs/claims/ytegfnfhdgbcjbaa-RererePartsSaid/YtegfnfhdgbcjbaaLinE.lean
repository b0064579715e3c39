/-
  Contracts of functions of the program
-/
import Derived.Test.YtegfnfhdgbcjbaaLinD
namespace Go.Proofs.Ytegfnfhdgbcjbaa.LinE
open Go.Proofs.Ytegfnfhdgbcjbaa.E Go.RowKit Go.Proofs.Ytegfnfhdgbcjbaa.LinM Go.Proofs.Ytegfnfhdgbcjbaa.LinA Go.Proofs.Ytegfnfhdgbcjbaa.LinB Go.Proofs.Ytegfnfhdgbcjbaa.LinC Go.Proofs.Ytegfnfhdgbcjbaa.LinD
set_option linter.unusedVariables false
set_option linter.unusedSimpArgs false
set_option linter.unusedSectionVars false

abbrev sA : List UInt8 := [97]
abbrev sB : List UInt8 := [98]
abbrev sC : List UInt8 := [99]
abbrev sD : List UInt8 := [100]
theorem script_abc : script [sA, sB, sC] [sB, sC, sD] = [(1, 1), (0, 2), (2, 1)] := by
  unfold script
  simp [W, lcs_cons, lcs_nil, lcs_nil_right, runs, addE]


theorem Few.bd {a : List (List UInt8)} (h : Few a) : a.length < 120 := h.len

end Go.Proofs.Ytegfnfhdgbcjbaa.LinE
