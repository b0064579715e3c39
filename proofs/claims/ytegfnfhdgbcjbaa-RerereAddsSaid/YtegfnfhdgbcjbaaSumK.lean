/-
  Digits read, and Ids in order.
-/
import Derived.Test.YtegfnfhdgbcjbaaSumI
import Derived.Test.YtegfnfhdgbcjbaaCmp
namespace Go.Proofs.Ytegfnfhdgbcjbaa.SumK
open Go.Proofs.Ytegfnfhdgbcjbaa.E Go.RowKit Go.Proofs.Ytegfnfhdgbcjbaa.SumA Go.Proofs.Ytegfnfhdgbcjbaa.SumB Go.Proofs.Ytegfnfhdgbcjbaa.SumC Go.Proofs.Ytegfnfhdgbcjbaa.SumD Go.Proofs.Ytegfnfhdgbcjbaa.SumE Go.Proofs.Ytegfnfhdgbcjbaa.SumF Go.Proofs.Ytegfnfhdgbcjbaa.SumG Go.Proofs.Ytegfnfhdgbcjbaa.SumH Go.Proofs.Ytegfnfhdgbcjbaa.SumI
set_option maxRecDepth 20000
set_option linter.unusedVariables false
set_option linter.unusedSimpArgs false
set_option linter.unusedSectionVars false

def digw (b : UInt8) : UInt8 := if 48 ≤ b.toNat ∧ b.toNat ≤ 57 then b - 48 else if 97 ≤ b.toNat ∧ b.toNat ≤ 102 then b - 97 + 10 else 16
theorem all_u8 {p : UInt8 → Prop} (h : ∀ n, n < 256 → p (UInt8.ofNat n)) (b : UInt8) : p b := by have := h b.toNat b.toNat_lt; rwa [UInt8.ofNat_toNat] at this
def hok (s : List UInt8) : Prop := s.length = 64 ∧ ∀ i, i < 64 → (digw (s.getD i 0)).toNat ≤ 15
def pid (s : List UInt8) : List UInt8 := (List.range 32).map (fun i => shlw_u8 (digw (s.getD (2 * i) 0)) 4 ||| digw (s.getD (2 * i + 1) 0))
theorem pid_len (s : List UInt8) : (pid s).length = 32 := by simp [pid]
theorem pid_get (s : List UInt8) (i : Nat) (h : i < 32) : (pid s)[i]? = some (shlw_u8 (digw (s.getD (2 * i) 0)) 4 ||| digw (s.getD (2 * i + 1) 0)) := by simp [pid, h]
def Z32 : List UInt8 := List.replicate 32 0
/-- what is read -/
def PR (s x : List UInt8) (e : Int) : Prop := (hok s ∧ x = pid s ∧ e = 0) ∨ (¬ hok s ∧ x = Z32 ∧ e = 1)
theorem PR.one {s x y : List UInt8} {e f : Int} (h : PR s x e) (k : PR s y f) : x = y ∧ e = f := by
  rcases h with ⟨h1, rfl, rfl⟩ | ⟨h1, rfl, rfl⟩ <;> rcases k with ⟨k1, rfl, rfl⟩ | ⟨k1, rfl, rfl⟩ <;> first | exact ⟨rfl, rfl⟩ | exact absurd h1 k1 | exact absurd k1 h1
theorem PR.len {s x : List UInt8} {e : Int} (h : PR s x e) : x.length = 32 := by
  rcases h with ⟨h1, rfl, rfl⟩ | ⟨h1, rfl, rfl⟩
  · exact pid_len s
  · rfl
open Op (bytesLess)
theorem bl_refl : ∀ a : List UInt8, bytesLess a a = false
  | [] => rfl
  | a :: l => by simp [bytesLess, bl_refl l]
theorem bl_at : ∀ (k : Nat) (a b : List UInt8), a.take k = b.take k → k < a.length → k < b.length → a.getD k 0 ≠ b.getD k 0 → bytesLess a b = decide ((a.getD k 0).toNat < (b.getD k 0).toNat)
  | 0, x :: a, y :: b, _, _, _, h => by
    have h : x ≠ y := by simpa using h
    have h2 : (x == y) = false := by simpa using h
    simp [bytesLess, h2, UInt8.lt_iff_toNat_lt]
  | k + 1, x :: a, y :: b, ht, h1, h2, h => by
    simp only [List.take_succ_cons, List.cons.injEq] at ht
    obtain ⟨rfl, ht⟩ := ht
    have := bl_at k a b ht (by simpa using h1) (by simpa using h2) (by simpa using h)
    simp [bytesLess, this]
  | _, [], _, _, h1, _, _ => by simp at h1
  | _, _, [], _, _, h2, _ => by simp at h2
theorem cmp_less : ∀ a b : List UInt8, (Lib.compareBytes a b < 0) ↔ bytesLess a b = true
  | [], [] => by simp [Lib.compareBytes, bytesLess]
  | [], _ :: _ => by simp [Lib.compareBytes, bytesLess]
  | _ :: _, [] => by simp [Lib.compareBytes, bytesLess]
  | x :: a, y :: b => by
    have ih := cmp_less a b
    simp only [Lib.compareBytes, bytesLess]
    by_cases h1 : x < y
    · simp [h1]
    · by_cases h2 : y < x
      · have : (x == y) = false := by simp; intro e; subst e; exact absurd h2 h1
        simp [h1, h2, this]
      · have : x = y := UInt8.le_antisymm (UInt8.not_lt.1 h2) (UInt8.not_lt.1 h1)
        subst this
        simp [h1, ih]
end Go.Proofs.Ytegfnfhdgbcjbaa.SumK
