/-
  Chunks are rendered.
-/
import Derived.Test.YtegfnfhdgbcjbaaMerE
namespace Go.Proofs.Ytegfnfhdgbcjbaa.MerF
open Go.Proofs.Ytegfnfhdgbcjbaa.E Go.RowKit Go.Proofs.Ytegfnfhdgbcjbaa.LinM Go.Proofs.Ytegfnfhdgbcjbaa.LinC Go.Proofs.Ytegfnfhdgbcjbaa.LinL Go.Proofs.Ytegfnfhdgbcjbaa.MerA Go.Proofs.Ytegfnfhdgbcjbaa.MerB Go.Proofs.Ytegfnfhdgbcjbaa.MerC Go.Proofs.Ytegfnfhdgbcjbaa.MerD Go.Proofs.Ytegfnfhdgbcjbaa.MerE
set_option maxRecDepth 20000
set_option linter.unusedVariables false
set_option linter.unusedSimpArgs false
set_option linter.unusedSectionVars false
set_option maxRecDepth 100000 in
theorem inf22 : Inf Try.prog 22 5 1 1 := ⟨Try.underlying22, _, _, rfl, rfl, rfl, rfl, rfl⟩
set_option maxRecDepth 100000 in
theorem inf32 : Inf Try.prog 32 9 1 16 := ⟨Try.underlying32, _, _, rfl, rfl, rfl, rfl, rfl⟩

/-- the marks, with their line feeds -/
def mkL : List (List UInt8) := [[60, 60, 60, 60, 60, 60, 60, 10], [124, 124, 124, 124, 124, 124, 124, 10], [61, 61, 61, 61, 61, 61, 61, 10], [62, 62, 62, 62, 62, 62, 62, 10]]
def mk (n : Nat) : List UInt8 := mkL.getD n []
/-- the last line with its line feed -/
def endL (f : List UInt8) : List UInt8 := if f.getLastD 10 = 10 then f else f ++ [10]
def rend1 (c : Cn) : List UInt8 :=
  if c.1 = 0 then c.2.1.flatten else if c.1 = 1 ∨ c.1 = 3 then c.2.2.1.flatten else if c.1 = 2 then c.2.2.2.flatten
  else if c.1 = 4 then mk 0 ++ endL c.2.2.1.flatten ++ mk 1 ++ endL c.2.1.flatten ++ mk 2 ++ endL c.2.2.2.flatten ++ mk 3 else []
def BdC (c : Cn) : Prop := c.2.1.flatten.length ≤ 1048576 ∧ c.2.2.1.flatten.length ≤ 1048576 ∧ c.2.2.2.flatten.length ≤ 1048576
theorem r1_1 {c : Cn} (h : c.1 = 1 ∨ c.1 = 3) : rend1 c = c.2.2.1.flatten := by rw [rend1, if_neg (by omega), if_pos h]
theorem r1_4 {c : Cn} (h : c.1 = 4) : rend1 c = mk 0 ++ endL c.2.2.1.flatten ++ mk 1 ++ endL c.2.1.flatten ++ mk 2 ++ endL c.2.2.2.flatten ++ mk 3 := by rw [rend1, if_neg (by omega), if_neg (by omega), if_neg (by omega), if_pos h]
/-- the marks without their line feeds -/
abbrev mw0 : List UInt8 := [60, 60, 60, 60, 60, 60, 60]
abbrev mw1 : List UInt8 := [124, 124, 124, 124, 124, 124, 124]
abbrev mw2 : List UInt8 := [61, 61, 61, 61, 61, 61, 61]
abbrev mw3 : List UInt8 := [62, 62, 62, 62, 62, 62, 62]
end Go.Proofs.Ytegfnfhdgbcjbaa.MerF
