/-
  Numbers read and written, rows compared from the front.
-/
import Derived.Test.YtegfnfhdgbcjbaaNum
namespace Go.Proofs.Ytegfnfhdgbcjbaa.DelA
open Go.Proofs.Ytegfnfhdgbcjbaa.E Go.RowKit Go.Proofs.Ytegfnfhdgbcjbaa.Num
set_option maxRecDepth 20000
set_option linter.unusedVariables false
set_option linter.unusedSimpArgs false
set_option linter.unusedSectionVars false

def be32 (n : Nat) : List UInt8 := [UInt8.ofNat (n / 2 ^ 24), UInt8.ofNat (n / 2 ^ 16), UInt8.ofNat (n / 2 ^ 8), UInt8.ofNat n]
def bev (v : Nat) (l : List UInt8) : Nat := l.foldl (fun v x => v * 256 + x.toNat) v
theorem be32_len (n : Nat) : (be32 n).length = 4 := rfl
theorem num_be32 (n : Nat) (h : n < 18446744073709551616) : numL 4 (UInt64.ofNat n) = be32 n := by
  have e : ∀ j, (shrw_u64 (UInt64.ofNat n) j).toNat = n / 2 ^ j := fun j => by rw [shrw_u64_toNat, UInt64.toNat_ofNat', Nat.mod_eq_of_lt h]
  simp only [numL, e, be32]; simp
theorem bev_snoc (v : Nat) (l : List UInt8) (x : UInt8) : bev v (l ++ [x]) = bev v l * 256 + x.toNat := by simp [bev]
theorem bev_lt : ∀ (l : List UInt8) (v : Nat), bev v l < (v + 1) * 256 ^ l.length
  | [], v => by simp [bev]
  | x :: l, v => by
    have hx := x.toNat_lt
    have := bev_lt l (v * 256 + x.toNat)
    have e : bev v (x :: l) = bev (v * 256 + x.toNat) l := rfl
    rw [e, List.length_cons, Nat.pow_succ]
    refine Nat.lt_of_lt_of_le this ?_
    have : v * 256 + x.toNat + 1 ≤ (v + 1) * 256 := by omega
    calc (v * 256 + x.toNat + 1) * 256 ^ l.length ≤ ((v + 1) * 256) * 256 ^ l.length := Nat.mul_le_mul_right _ this
      _ = (v + 1) * (256 ^ l.length * 256) := by rw [Nat.mul_assoc, Nat.mul_comm 256]
theorem bev4 (l : List UInt8) (h : l.length ≤ 4) : bev 0 l < 4294967296 := by
  have := bev_lt l 0
  have h2 : 256 ^ l.length ≤ 256 ^ 4 := Nat.pow_le_pow_right (by decide) h
  omega
theorem or256 (a : Nat) (x : UInt8) : a * 2 ^ 8 ||| x.toNat = a * 256 + x.toNat := by
  rw [Nat.mul_comm, ← Nat.two_pow_add_eq_or_of_lt x.toNat_lt]
theorem td_succ (b : List UInt8) (a i : Nat) (h : a + i < b.length) : (b.drop a).take (i + 1) = (b.drop a).take i ++ [b[a + i]] := by
  rw [List.take_succ_eq_append_getElem (by simp; omega), List.getElem_drop]
theorem flat4_len : ∀ l : List Nat, (l.flatMap be32).length = l.length * 4
  | [] => rfl
  | x :: l => by rw [List.flatMap_cons, List.length_append, flat4_len l, List.length_cons, be32_len]; omega
theorem bev_be32 (n : Nat) (h : n < 4294967296) : bev 0 (be32 n) = n := by
  simp only [bev, be32, List.foldl_cons, List.foldl_nil, UInt8.toNat_ofNat']; omega


/-- the first place at which p fails, n at most -/
def IsP (n : Nat) (p : Nat → Bool) (q : Nat) : Prop := q ≤ n ∧ (∀ i, i < q → p i = true) ∧ (q < n → p q = false)
theorem IsP.one {n q r : Nat} {p : Nat → Bool} (h : IsP n p q) (k : IsP n p r) : q = r := by
  obtain ⟨h1, h2, h3⟩ := h
  obtain ⟨k1, k2, k3⟩ := k
  rcases Nat.lt_trichotomy q r with hl | hl | hl
  · have := h3 (by omega); rw [k2 q hl] at this; cases this
  · exact hl
  · have := k3 (by omega); rw [h2 r hl] at this; cases this

end Go.Proofs.Ytegfnfhdgbcjbaa.DelA
