/-
  The contracts of Hex and of the example, of the rows put together.
-/
import Derived.Test.YtegfnfhdgbcjbaaSumH
import Derived.Test.YtegfnfhdgbcjbaaRead
namespace Go.Proofs.Ytegfnfhdgbcjbaa.SumI
open Go.Proofs.Ytegfnfhdgbcjbaa.E Go.RowKit Go.Proofs.Ytegfnfhdgbcjbaa.SumA Go.Proofs.Ytegfnfhdgbcjbaa.SumB Go.Proofs.Ytegfnfhdgbcjbaa.SumC Go.Proofs.Ytegfnfhdgbcjbaa.SumD Go.Proofs.Ytegfnfhdgbcjbaa.SumE Go.Proofs.Ytegfnfhdgbcjbaa.SumF Go.Proofs.Ytegfnfhdgbcjbaa.SumG Go.Proofs.Ytegfnfhdgbcjbaa.SumH
set_option maxRecDepth 20000
set_option linter.unusedVariables false
set_option linter.unusedSimpArgs false
set_option linter.unusedSectionVars false

theorem gd {l : List UInt8} {j : Nat} (h : j < l.length) : l[j] = l.getD j 0 := by simp [h]
theorem shr4_lt (b : UInt8) : (shrw_u8 b 4).toNat < 16 := by rw [shrw_u8_toNat]; have := b.toNat_lt; omega
theorem and15_lt (b : UInt8) : (b &&& 15).toNat < 16 := by have : (b &&& 15) ≤ 15 := UInt8.and_le_right; have := UInt8.le_iff_toNat_le.1 this; simpa using Nat.lt_succ_of_le this
theorem hexL_len (l : List UInt8) : (hexL l).length = 2 * l.length := by
  unfold hexL; induction l with
  | nil => rfl
  | cons b l ih => simp only [List.flatMap_cons, List.length_append, List.length_cons, List.length_nil, ih]; omega
theorem cat_le (l : List (SV × List UInt8)) (k : Nat) : (cat (l.take k)).length ≤ (cat l).length := by
  have : cat l = cat (l.take k) ++ cat (l.drop k) := by unfold cat; rw [← List.flatMap_append, List.take_append_drop]
  rw [this, List.length_append]; omega
theorem hexL_take (l : List UInt8) (i : Nat) (h : i < l.length) : hexL (l.take (i + 1)) = hexL (l.take i) ++ [hd (shrw_u8 (l.getD i 0) 4), hd (l.getD i 0 &&& 15)] := by
  unfold hexL; rw [List.take_succ_eq_append_getElem h, List.flatMap_append, ← gd h]; simp

end Go.Proofs.Ytegfnfhdgbcjbaa.SumI
