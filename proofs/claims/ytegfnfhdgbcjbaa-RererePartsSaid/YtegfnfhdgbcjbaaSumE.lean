/-
  The contracts of the document's sum.
-/
import Derived.Test.YtegfnfhdgbcjbaaSumD
import Derived.Test.YtegfnfhdgbcjbaaOw
namespace Go.Proofs.Ytegfnfhdgbcjbaa.SumE
open Go.Proofs.Ytegfnfhdgbcjbaa.E Go.RowKit Go.Proofs.Ytegfnfhdgbcjbaa.SumA Go.Proofs.Ytegfnfhdgbcjbaa.SumB Go.Proofs.Ytegfnfhdgbcjbaa.SumC Go.Proofs.Ytegfnfhdgbcjbaa.SumD
set_option maxRecDepth 20000
set_option linter.unusedVariables false
set_option linter.unusedSimpArgs false
set_option linter.unusedSectionVars false
set_option maxRecDepth 100000 in
theorem inf22 : Inf Try.prog 22 5 1 1 := ⟨Try.underlying22, _, _, rfl, rfl, rfl, rfl, rfl⟩

theorem rturn_nw (x : UInt32) (j : Nat) (w0 : World) (H0 : Heap) (h0 : 0 < j) (h1 : j < 32) : Ct Try.prog w0 49 #[.int .u32 x.toNat, .int .i64 j] H0 (fun r H2 => r = .int .u32 (rotr x j).toNat ∧ Nw H0 H2) :=
  (rturn_ct x j w0 H0 h0 h1).mono fun r H' ⟨h1, h2⟩ => ⟨h1, by rw [h2]; exact Nw.refl _⟩
/-- a number's n bytes, the highest first -/
def numL : Nat → UInt64 → List UInt8
  | 0, _ => []
  | j + 1, x => UInt8.ofNat (shrw_u64 x (8 * j)).toNat :: numL j x
theorem numL_len : ∀ (n : Nat) (x : UInt64), (numL n x).length = n
  | 0, _ => rfl
  | n + 1, x => by rw [numL, List.length_cons, numL_len]

theorem num_ct (k : Nat) (v : Value) (xs : List UInt8) (n : Nat) (x : UInt64) (w0 : World) (H0 : Heap)
    (how : Ow k 5 H0 fB 1 v xs) (hn : n ≤ 8) (hx : xs.length ≤ 1099511627776) :
    Ct Try.prog w0 48 #[v, .int .i64 n, .int .u64 x.toNat] H0 (fun r H2 => ∃ v2 : Value, ∃ k2 : Nat, r = v2 ∧ (Ow k2 5 H2 fB 1 v2 (xs ++ numL n x)) ∧ (k2 = 0 ∨ k2 = k ∨ H0.size < k2) ∧ Mo (fun c => c + 1 = k) H0 H2) := by
  refine Ct.enter (args := [v, .int .i64 n, .int .u64 x.toNat]) Try.func48 rfl rfl rfl ?_
  intro Q0 hret
  have hle_how := how.le
  have hm0 : Mo (fun c => c + 1 = k) H0 H0 := Mo.refl _ _
  refine CW.seq (fun K1 hK1 hE1 => ?_)
  refine CW.region ?_
  refine LR.v (Y.assign rfl rfl) (Wd.u rfl) rfl rfl ?_
  refine LR.nil ?_
  refine hK1 _ _ ?_
  refine CW.seq (fun K2 hK2 hE2 => ?_)
  refine CW.seq (fun K3 hK3 hE3 => ?_)
  refine CW.region ?_
  refine LR.v (Y.move rfl rfl) (Wd.u rfl) rfl rfl ?_
  refine LR.v (Y.subi rfl rfl rfl (by omega)) (Wd.u rfl) rfl rfl ?_
  refine LR.v (Y.assign rfl rfl) (Wd.u rfl) rfl rfl ?_
  refine LR.nil ?_
  refine hK3 _ _ ?_
  refine CW.block (fun K4 hK4 hX4 hE4 => ?_)
  refine CW.loop (fun (s_ : (Nat) × (Value) × (Nat) × (List UInt8)) => match s_ with | (j, v', k', ys) => [(0, v'), (2, .int .u64 x.toNat), (7, .int .i64 ((j : Int) - 1))])
    (fun (s_ : (Nat) × (Value) × (Nat) × (List UInt8)) (H : Heap) => match s_ with | (j, v', k', ys) => (j ≤ n) ∧ (Ow k' 5 H fB 1 v' ys) ∧ (k' = 0 ∨ k' = k ∨ H0.size < k') ∧ (ys ++ numL j x = xs ++ numL n x) ∧ Mo (fun c => c + 1 = k) H0 H)
    (fun (s_ : (Nat) × (Value) × (Nat) × (List UInt8)) => match s_ with | (j, v', k', ys) => j) (n, v, k, xs) ⟨rfl, rfl, rfl, trivial⟩ ?_ ?_
  ·
    exact ⟨(by omega), how, (by omega), rfl, Mo.refl _ _⟩
  rintro ⟨j, v', k', ys⟩ HL1 hI1 K5 hN5 hE5
  obtain ⟨hj, how, hk, hys, hlm1⟩ := hI1
  replace hm0 := hm0.trans hlm1 (fun b hb0 hb1 => hb1) (fun b hb0 hb1 => by omega)
  have hz1 := hlm1.size
  have hle_how := how.le
  have hyl : ys.length + j = xs.length + n := by have := congrArg List.length hys; simpa [numL_len] using this
  refine CW.seq (fun K6 hK6 hE6 => ?_)
  refine CW.seq (fun K7 hK7 hE7 => ?_)
  refine CW.region ?_
  refine LR.v (Y.move rfl rfl) (Wd.u rfl) rfl rfl ?_
  refine LR.v (Y.geq rfl rfl rfl) (Wd.u rfl) rfl rfl ?_
  refine LR.nil ?_
  refine hK7 _ _ ?_
  refine CW.condp rfl (fun c11 => ?_) (fun c11 => ?_)
  ·
    obtain ⟨j, rfl⟩ : ∃ q, j = q + 1 := ⟨j - 1, by omega⟩
    refine CW.skip ?_
    refine hK6 _ _ ?_
    refine CW.seq (fun K8 hK8 hE8 => ?_)
    refine CW.block (fun K9 hK9 hX9 hE9 => ?_)
    refine CW.region ?_
    refine LR.v (Y.move rfl rfl) (Wd.u rfl) rfl rfl ?_
    refine LR.v (Y.move rfl rfl) (Wd.u rfl) rfl rfl ?_
    refine LR.v (Y.move rfl rfl) (Wd.u rfl) rfl rfl ?_
    refine LR.v (Y.muli rfl rfl rfl (by omega)) (Wd.u rfl) rfl rfl ?_
    refine LR.v (Y.shr_u64 (8 * j) rfl rfl rfl (by first | rfl | omega) (by omega)) (Wd.u rfl) rfl rfl ?_
    refine LR.v (Y.conv_u8 rfl Try.runUnderlying84 Try.runUnderlying5 rfl) (Wd.u rfl) rfl rfl ?_
    refine LR.z (Z.litw _ ([UInt8.ofNat (shrw_u64 x (8 * j)).toNat]) rfl inf22 rfl rfl rfl (by decide) (by decide) fB_len fB_one (rfl)) (Wd.u rfl) rfl rfl (fun v20 H20 r20 => ?_)
    obtain ⟨ow20, hs20, ob20, hH20⟩ := r20
    have hzs20 : H20.size = HL1.size + 1 := by rw [hH20]; simp
    replace hm0 := hm0.trans hs20 (fun b hb0 hb1 => hb1) (fun b hb0 hb1 => hb1.elim)
    replace how := how.nw hs20
    try replace hlm1 := hlm1.trans hs20 (fun b hb0 hb1 => hb1) (fun b hb0 hb1 => hb1.elim)
    have hz2 := hs20.size
    have hle_ow20 := ow20.le
    refine LR.z (Z.apnd how ow20.rd rfl inf22 rfl rfl (by first | omega | (simp; omega)) (by first | omega | (simp; omega))) (Wd.u rfl) rfl rfl (fun v21 H21 r21 => ?_)
    obtain ⟨k21, ow21, hk21, hs21⟩ := r21
    replace hm0 := hm0.trans hs21 (fun b hb0 hb1 => hb1) (fun b hb0 hb1 => by omega)
    try replace hlm1 := hlm1.trans hs21 (fun b hb0 hb1 => hb1) (fun b hb0 hb1 => by omega)
    replace ow20 := ow20.up hs21 (fun b hb0 hb1 hb2 => by omega)
    have hz3 := hs21.size
    have hle_ow21 := ow21.le
    refine LR.v (Y.assign rfl rfl) (Wd.u rfl) rfl rfl ?_
    refine LR.nil ?_
    refine hK9 _ _ ?_
    refine hK8 _ _ ?_
    refine CW.region ?_
    refine LR.v (Y.move rfl rfl) (Wd.u rfl) rfl rfl ?_
    refine LR.v (Y.subi rfl rfl rfl (by omega)) (Wd.u rfl) rfl rfl ?_
    refine LR.v (Y.assign rfl rfl) (Wd.u rfl) rfl rfl ?_
    refine LR.nil ?_
    refine QN.sub (hN5 (j, v21, k21, ys ++ [UInt8.ofNat (shrw_u64 x (8 * j)).toNat]) _ ?_ ?_) ⟨rfl, (iv (by omega)), (iv (by omega)), trivial⟩
    · exact ⟨(by omega), ow21, (by omega), by rw [← hys, List.append_assoc]; rfl, hlm1⟩
    · first | omega | (simp only; omega) | (simp; omega)
  ·
    obtain rfl : j = 0 := by omega
    rw [numL, List.append_nil] at hys
    subst hys
    refine CW.exit (hE6 (.exit 0) nofun _ _ (hE5 (.exit 0) nofun _ _ (hX4 _ _ ?_)))
    refine hK2 _ _ ?_
    refine CW.seq (fun K10 hK10 hE10 => ?_)
    refine CW.region ?_
    refine LR.v (Y.move rfl rfl) (Wd.u rfl) rfl rfl ?_
    refine LR.v (Y.assign rfl rfl) (Wd.u rfl) rfl rfl ?_
    refine LR.nil ?_
    refine hK10 _ _ ?_
    refine CW.ret (hret .ret (.inr rfl) _ _ _ (res1 rfl rfl) ?_)
    exact ⟨v', k', rfl, how, (by omega), hm0⟩

end Go.Proofs.Ytegfnfhdgbcjbaa.SumE
