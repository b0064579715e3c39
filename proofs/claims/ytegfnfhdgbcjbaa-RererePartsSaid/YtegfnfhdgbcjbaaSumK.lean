/-
  Digits read, and Ids in order.
-/
import Derived.Test.YtegfnfhdgbcjbaaSumI
import Derived.Test.YtegfnfhdgbcjbaaCmp
namespace Go.Proofs.Ytegfnfhdgbcjbaa.SumK
open Go.Proofs.Ytegfnfhdgbcjbaa.E Go.RowKit Go.Proofs.Ytegfnfhdgbcjbaa.SumA Go.Proofs.Ytegfnfhdgbcjbaa.SumB Go.Proofs.Ytegfnfhdgbcjbaa.SumC Go.Proofs.Ytegfnfhdgbcjbaa.SumD Go.Proofs.Ytegfnfhdgbcjbaa.SumE Go.Proofs.Ytegfnfhdgbcjbaa.SumF Go.Proofs.Ytegfnfhdgbcjbaa.SumG Go.Proofs.Ytegfnfhdgbcjbaa.SumH Go.Proofs.Ytegfnfhdgbcjbaa.SumI
set_option maxRecDepth 20000
set_option linter.unusedVariables false
set_option linter.unusedSimpArgs false
set_option linter.unusedSectionVars false

def digw (b : UInt8) : UInt8 := if 48 ≤ b.toNat ∧ b.toNat ≤ 57 then b - 48 else if 97 ≤ b.toNat ∧ b.toNat ≤ 102 then b - 97 + 10 else 16
theorem all_u8 {p : UInt8 → Prop} (h : ∀ n, n < 256 → p (UInt8.ofNat n)) (b : UInt8) : p b := by have := h b.toNat b.toNat_lt; rwa [UInt8.ofNat_toNat] at this
theorem digw_le : ∀ b : UInt8, (digw b).toNat ≤ 16 := all_u8 (by decide +kernel)
theorem digw_a : ∀ b : UInt8, 48 ≤ b.toNat ∧ b.toNat ≤ 57 → (b - UInt8.ofNat 48).toNat ≤ 15 ∧ digw b = b - UInt8.ofNat 48 := all_u8 (by decide +kernel)
theorem digw_b : ∀ b : UInt8, 97 ≤ b.toNat ∧ b.toNat ≤ 102 → (b - UInt8.ofNat 97).toNat + 10 = (digw b).toNat ∧ (digw b).toNat ≤ 15 ∧ digw b = b - UInt8.ofNat 97 + 10 := all_u8 (by decide +kernel)
theorem digw_n (b : UInt8) (h : ¬ (48 ≤ b.toNat ∧ b.toNat ≤ 57)) (h2 : ¬ (97 ≤ b.toNat ∧ b.toNat ≤ 102)) : digw b = 16 := by rw [digw, if_neg h, if_neg h2]
def hok (s : List UInt8) : Prop := s.length = 64 ∧ ∀ i, i < 64 → (digw (s.getD i 0)).toNat ≤ 15
def pid (s : List UInt8) : List UInt8 := (List.range 32).map (fun i => shlw_u8 (digw (s.getD (2 * i) 0)) 4 ||| digw (s.getD (2 * i + 1) 0))
theorem pid_len (s : List UInt8) : (pid s).length = 32 := by simp [pid]
theorem pid_get (s : List UInt8) (i : Nat) (h : i < 32) : (pid s)[i]? = some (shlw_u8 (digw (s.getD (2 * i) 0)) 4 ||| digw (s.getD (2 * i + 1) 0)) := by simp [pid, h]
def Z32 : List UInt8 := List.replicate 32 0
/-- what is read -/
def PR (s x : List UInt8) (e : Int) : Prop := (hok s ∧ x = pid s ∧ e = 0) ∨ (¬ hok s ∧ x = Z32 ∧ e = 1)
theorem PR.one {s x y : List UInt8} {e f : Int} (h : PR s x e) (k : PR s y f) : x = y ∧ e = f := by
  rcases h with ⟨h1, rfl, rfl⟩ | ⟨h1, rfl, rfl⟩ <;> rcases k with ⟨k1, rfl, rfl⟩ | ⟨k1, rfl, rfl⟩ <;> first | exact ⟨rfl, rfl⟩ | exact absurd h1 k1 | exact absurd k1 h1
theorem PR.len {s x : List UInt8} {e : Int} (h : PR s x e) : x.length = 32 := by
  rcases h with ⟨h1, rfl, rfl⟩ | ⟨h1, rfl, rfl⟩
  · exact pid_len s
  · rfl
theorem hd_inv : ∀ n, n < 16 → digw (DG.getD n 0) = UInt8.ofNat n := by decide +kernel
theorem shr4 (b : UInt8) : shrw_u8 b 4 = UInt8.ofNat (b.toNat / 16) := rfl
theorem and15 : ∀ b : UInt8, (b &&& 15).toNat = b.toNat % 16 := all_u8 (by decide +kernel)
theorem nib : ∀ b : UInt8, shlw_u8 (UInt8.ofNat (b.toNat / 16)) 4 ||| UInt8.ofNat (b.toNat % 16) = b := all_u8 (by decide +kernel)
theorem hd_shr (b : UInt8) : hd (shrw_u8 b 4) = DG.getD (b.toNat / 16) 0 := by rw [hd, shrw_u8_toNat]
theorem hd_and (b : UInt8) : hd (b &&& 15) = DG.getD (b.toNat % 16) 0 := by rw [hd, and15]
theorem hexL_get : ∀ (l : List UInt8) (i : Nat), i < l.length → (hexL l).getD (2 * i) 0 = DG.getD ((l.getD i 0).toNat / 16) 0 ∧ (hexL l).getD (2 * i + 1) 0 = DG.getD ((l.getD i 0).toNat % 16) 0
  | [], i, h => by simp at h
  | b :: l, 0, h => by
    have e : hexL (b :: l) = hd (shrw_u8 b 4) :: hd (b &&& 15) :: hexL l := by simp [hexL]
    rw [e, ← hd_shr, ← hd_and]; exact ⟨rfl, rfl⟩
  | b :: l, i + 1, h => by
    have e : hexL (b :: l) = hd (shrw_u8 b 4) :: hd (b &&& 15) :: hexL l := by simp [hexL]
    have := hexL_get l i (by simpa using h)
    rw [e, show 2 * (i + 1) = (2 * i) + 1 + 1 by omega]
    simpa using this
theorem pid_hex (l : List UInt8) (h : l.length = 32) : hok (hexL l) ∧ pid (hexL l) = l := by
  refine ⟨⟨by rw [hexL_len]; omega, fun i hi => ?_⟩, ?_⟩
  · obtain ⟨h1, h2⟩ := hexL_get l (i / 2) (by omega)
    have hb := (l.getD (i / 2) 0).toNat_lt
    rcases Nat.mod_two_eq_zero_or_one i with h3 | h3
    · rw [show i = 2 * (i / 2) by omega, h1, hd_inv _ (by omega), UInt8.toNat_ofNat']; omega
    · rw [show i = 2 * (i / 2) + 1 by omega, h2, hd_inv _ (by omega), UInt8.toNat_ofNat']; omega
  · apply List.ext_getElem?
    intro i
    by_cases hi : i < 32
    · obtain ⟨h1, h2⟩ := hexL_get l i (by omega)
      have hb := (l.getD i 0).toNat_lt
      rw [pid_get _ _ hi, h1, h2, hd_inv _ (by omega), hd_inv _ (by omega), nib]
      simp [show i < l.length by omega]
    · rw [List.getElem?_eq_none (by rw [pid_len]; omega), List.getElem?_eq_none (by omega)]
theorem not_hok (l : List UInt8) (h : l.length = 32) : ¬ hok (((hexL l).take 63) ++ [71]) := by
  intro hk
  have := hk.2 63 (by omega)
  have hl : ((hexL l).take 63).length = 63 := by rw [List.length_take, hexL_len]; omega
  rw [show (((hexL l).take 63) ++ [(71 : UInt8)]).getD 63 0 = 71 by simp only [List.getD]; rw [List.getElem?_append_right (by omega), hl]; rfl] at this
  revert this; decide +kernel
open Op (bytesLess)
theorem bl_refl : ∀ a : List UInt8, bytesLess a a = false
  | [] => rfl
  | a :: l => by simp [bytesLess, bl_refl l]
theorem bl_at : ∀ (k : Nat) (a b : List UInt8), a.take k = b.take k → k < a.length → k < b.length → a.getD k 0 ≠ b.getD k 0 → bytesLess a b = decide ((a.getD k 0).toNat < (b.getD k 0).toNat)
  | 0, x :: a, y :: b, _, _, _, h => by
    have h : x ≠ y := by simpa using h
    have h2 : (x == y) = false := by simpa using h
    simp [bytesLess, h2, UInt8.lt_iff_toNat_lt]
  | k + 1, x :: a, y :: b, ht, h1, h2, h => by
    simp only [List.take_succ_cons, List.cons.injEq] at ht
    obtain ⟨rfl, ht⟩ := ht
    have := bl_at k a b ht (by simpa using h1) (by simpa using h2) (by simpa using h)
    simp [bytesLess, this]
  | _, [], _, _, h1, _, _ => by simp at h1
  | _, _, [], _, _, h2, _ => by simp at h2
theorem cmp_less : ∀ a b : List UInt8, (Lib.compareBytes a b < 0) ↔ bytesLess a b = true
  | [], [] => by simp [Lib.compareBytes, bytesLess]
  | [], _ :: _ => by simp [Lib.compareBytes, bytesLess]
  | _ :: _, [] => by simp [Lib.compareBytes, bytesLess]
  | x :: a, y :: b => by
    have ih := cmp_less a b
    simp only [Lib.compareBytes, bytesLess]
    by_cases h1 : x < y
    · simp [h1]
    · by_cases h2 : y < x
      · have : (x == y) = false := by simp; intro e; subst e; exact absurd h2 h1
        simp [h1, h2, this]
      · have : x = y := UInt8.le_antisymm (UInt8.not_lt.1 h2) (UInt8.not_lt.1 h1)
        subst this
        simp [h1, ih]
theorem hd_mono : ∀ n, n < 16 → ∀ m, m < 16 → ((DG.getD n 0 < DG.getD m 0 ↔ n < m) ∧ (DG.getD n 0 = DG.getD m 0 ↔ n = m)) := by decide +kernel
theorem hexL_less : ∀ (a b : List UInt8), a.length = b.length → bytesLess (hexL a) (hexL b) = bytesLess a b
  | [], [], _ => rfl
  | x :: a, y :: b, h => by
    have e : ∀ (b : UInt8) (l : List UInt8), hexL (b :: l) = hd (shrw_u8 b 4) :: hd (b &&& 15) :: hexL l := fun b l => by simp [hexL]
    have ih := hexL_less a b (by simpa using h)
    have hx := x.toNat_lt
    have hy := y.toNat_lt
    obtain ⟨h1, h2⟩ := hd_mono (x.toNat / 16) (by omega) (y.toNat / 16) (by omega)
    obtain ⟨h3, h4⟩ := hd_mono (x.toNat % 16) (by omega) (y.toNat % 16) (by omega)
    rw [e, e, hd_shr, hd_shr, hd_and, hd_and]
    have hlt : x < y ↔ x.toNat < y.toNat := UInt8.lt_iff_toNat_lt
    have heq : x = y ↔ x.toNat = y.toNat := UInt8.toNat_inj.symm
    rw [Bool.eq_iff_iff]
    simp only [bytesLess, Bool.or_eq_true, Bool.and_eq_true, decide_eq_true_eq, beq_iff_eq, h1, h2, h3, h4, ih, hlt, heq]
    by_cases hb : bytesLess a b = true
    · simp only [hb, and_true]; omega
    · simp only [hb, and_false, or_false]; simp; omega
  | [], _ :: _, h => by simp at h
  | _ :: _, [], h => by simp at h

end Go.Proofs.Ytegfnfhdgbcjbaa.SumK
