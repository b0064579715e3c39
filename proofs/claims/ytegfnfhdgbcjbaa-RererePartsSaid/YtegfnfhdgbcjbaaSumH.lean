/-
  The example of the document.
-/
import Derived.Test.YtegfnfhdgbcjbaaSumG
namespace Go.Proofs.Ytegfnfhdgbcjbaa.SumH
open Go.Proofs.Ytegfnfhdgbcjbaa.E Go.RowKit Go.Proofs.Ytegfnfhdgbcjbaa.SumA Go.Proofs.Ytegfnfhdgbcjbaa.SumB Go.Proofs.Ytegfnfhdgbcjbaa.SumC Go.Proofs.Ytegfnfhdgbcjbaa.SumD Go.Proofs.Ytegfnfhdgbcjbaa.SumE Go.Proofs.Ytegfnfhdgbcjbaa.SumF Go.Proofs.Ytegfnfhdgbcjbaa.SumG
set_option maxRecDepth 20000
set_option linter.unusedVariables false
set_option linter.unusedSimpArgs false
set_option linter.unusedSectionVars false

def DG : List UInt8 := [48, 49, 50, 51, 52, 53, 54, 55, 56, 57, 97, 98, 99, 100, 101, 102]
def hd (n : UInt8) : UInt8 := DG.getD n.toNat 0
def hexL (l : List UInt8) : List UInt8 := l.flatMap (fun b => [hd (shrw_u8 b 4), hd (b &&& 15)])
def ABC : List UInt8 := [0x61, 0x62, 0x63]
theorem abc_run : run IV (ABC ++ padOf 3) = (compress IV (ABC ++ padOf 3), []) := by
  have hl : (ABC ++ padOf 3).length = 64 := by decide +kernel
  rw [run_ge _ _ (by omega), List.take_of_length_le (by omega), List.drop_of_length_le (by omega), run_lt _ _ (by simp)]
theorem abc_sum : hexL (sumOf ABC) = [98,97,55,56,49,54,98,102,56,102,48,49,99,102,101,97,52,49,52,49,52,48,100,101,53,100,97,101,50,50,50,51,98,48,48,51,54,49,97,51,57,54,49,55,55,97,57,99,98,52,49,48,102,102,54,49,102,50,48,48,49,53,97,100] := by
  unfold sumOf
  rw [show ABC.length = 3 from rfl, abc_run]
  decide +kernel

end Go.Proofs.Ytegfnfhdgbcjbaa.SumH
