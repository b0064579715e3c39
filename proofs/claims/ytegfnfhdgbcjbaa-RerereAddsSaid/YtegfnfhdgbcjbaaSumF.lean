/-
  The document's sum of a row of bytes.
-/
import Derived.Test.YtegfnfhdgbcjbaaSumE
namespace Go.Proofs.Ytegfnfhdgbcjbaa.SumF
open Go.Proofs.Ytegfnfhdgbcjbaa.E Go.RowKit Go.Proofs.Ytegfnfhdgbcjbaa.SumA Go.Proofs.Ytegfnfhdgbcjbaa.SumB Go.Proofs.Ytegfnfhdgbcjbaa.SumC Go.Proofs.Ytegfnfhdgbcjbaa.SumD Go.Proofs.Ytegfnfhdgbcjbaa.SumE
set_option maxRecDepth 20000
set_option linter.unusedVariables false
set_option linter.unusedSimpArgs false
set_option linter.unusedSectionVars false
set_option maxRecDepth 100000 in
theorem inf22 : Inf Try.prog 22 5 1 1 := ⟨Try.underlying22, _, _, rfl, rfl, rfl, rfl, rfl⟩

def padZ (n : Nat) : Nat := (119 - n % 64) % 64
def padOf (n : Nat) : List UInt8 := 0x80 :: (List.replicate (padZ n) 0 ++ numL 8 (UInt64.ofNat (8 * n)))
def outL (s : List UInt32) : List UInt8 := (List.range 32).map (fun i => UInt8.ofNat (shrw_u32 (s.getD (i / 4) 0) (24 - 8 * (i % 4))).toNat)
theorem outL_len (s : List UInt32) : (outL s).length = 32 := by simp [outL]
/-- the sum of bytes -/
def sumOf (m : List UInt8) : List UInt8 := outL (run IV (m ++ padOf m.length)).1.list
theorem sumOf_len (m : List UInt8) : (sumOf m).length = 32 := outL_len _
theorem map_get8 (w : List UInt8) (j : Nat) (h : j < w.length) : (w.map V8)[j]? = some (V8 (w.getD j 0)) := by simp [h]
theorem map_set8 (w : List UInt8) (j : Nat) (x : UInt8) : (w.map V8).set (0 + j) (V8 x) = (w.set j x).map V8 := by rw [Nat.zero_add, List.map_set]
theorem take8_succ (w r : List UInt8) (i : Nat) (x : UInt8) (h : w.take i = r.take i) (hi : i < w.length) (hr : r[i]? = some x) : (w.set i x).take (i + 1) = r.take (i + 1) := by
  have h2 := (List.getElem?_eq_some_iff.1 hr)
  obtain ⟨h3, h4⟩ := h2
  rw [take_set_succ _ _ _ hi, h, List.take_succ_eq_append_getElem h3, h4]
theorem outL_get (s : List UInt32) (i : Nat) (h : i < 32) : (outL s)[i]? = some (UInt8.ofNat (shrw_u32 (s.getD (i / 4) 0) (24 - 8 * (i % 4))).toNat) := by
  simp [outL, h]

end Go.Proofs.Ytegfnfhdgbcjbaa.SumF
