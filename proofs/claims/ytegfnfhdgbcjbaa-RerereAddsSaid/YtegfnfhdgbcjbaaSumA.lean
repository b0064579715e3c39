/-
  The contracts of the small functions of the sum.
-/
import Derived.Test.YtegfnfhdgbcjbaaRows
import Derived.Test.YtegfnfhdgbcjbaaWord
namespace Go.Proofs.Ytegfnfhdgbcjbaa.SumA
open Go.Proofs.Ytegfnfhdgbcjbaa.E Go.RowKit
set_option maxRecDepth 20000
set_option linter.unusedVariables false
set_option linter.unusedSimpArgs false
set_option linter.unusedSectionVars false

/-- a word turned right -/
def rotr (x : UInt32) (j : Nat) : UInt32 := shrw_u32 x j ||| shlw_u32 x (32 - j)
theorem and31 : ∀ j : Nat, j < 32 → 0 < j → (UInt64.ofNat (18446744073709551616 - j) &&& UInt64.ofNat 31) = UInt64.ofNat (32 - j) := by decide +kernel

theorem rotl_ct (x : UInt32) (j : Nat) (w0 : World) (H0 : Heap)
    (h0 : 0 < j) (h1 : j < 32) :
    Ct Try.prog w0 71 #[.int .u32 x.toNat, .int .i64 (-(j : Int))] H0 (fun r H2 => r = .int .u32 (rotr x j).toNat ∧ H2 = H0) := by
  refine Ct.enter (args := [.int .u32 x.toNat, .int .i64 (-(j : Int))]) Try.func71 rfl rfl rfl ?_
  intro Q0 hret
  refine CW.seq (fun K1 hK1 hE1 => ?_)
  refine CW.region ?_
  refine LR.v (Y.assign rfl rfl) (Wd.u rfl) rfl rfl ?_
  refine LR.nil ?_
  refine hK1 _ _ ?_
  refine CW.seq (fun K2 hK2 hE2 => ?_)
  refine CW.region ?_
  refine LR.v (Y.move rfl rfl) (Wd.u rfl) rfl rfl ?_
  refine LR.v (Y.conv rfl Try.runUnderlying3 Try.runUnderlying75 rfl) (Wd.u rfl) rfl rfl ?_
  rw [show IntKind.u64.wrap (-(j : Int)) = ((UInt64.ofNat (18446744073709551616 - j)).toNat : Int) by rw [wrap_u64, UInt64.toNat_ofNat']; omega]
  refine LR.v (Y.and_u64 (b := (UInt64.ofNat 31)) rfl rfl rfl) (Wd.u rfl) rfl rfl ?_
  rw [and31 j h1 h0]
  refine LR.v (Y.assign rfl rfl) (Wd.u rfl) rfl rfl ?_
  refine LR.nil ?_
  refine hK2 _ _ ?_
  refine CW.seq (fun K3 hK3 hE3 => ?_)
  refine CW.region ?_
  refine LR.v (Y.move rfl rfl) (Wd.u rfl) rfl rfl ?_
  refine LR.v (Y.move rfl rfl) (Wd.u rfl) rfl rfl ?_
  refine LR.v (Y.shl_u32 (32 - j) rfl rfl rfl (by rw [UInt64.toNat_ofNat']; omega) (by omega)) (Wd.u rfl) rfl rfl ?_
  refine LR.v (Y.move rfl rfl) (Wd.u rfl) rfl rfl ?_
  refine LR.v (Y.move rfl rfl) (Wd.u rfl) rfl rfl ?_
  refine LR.v (Y.sub_u64 (a := (UInt64.ofNat 32)) rfl rfl rfl) (Wd.u rfl) rfl rfl ?_
  rw [show UInt64.ofNat 32 - UInt64.ofNat (32 - j) = UInt64.ofNat j from UInt64.toNat_inj.1 (by rw [UInt64.toNat_sub, UInt64.toNat_ofNat', UInt64.toNat_ofNat', UInt64.toNat_ofNat']; omega)]
  refine LR.v (Y.shr_u32 (j) rfl rfl rfl (by rw [UInt64.toNat_ofNat']; omega) (by omega)) (Wd.u rfl) rfl rfl ?_
  refine LR.v (Y.or_u32 rfl rfl rfl) (Wd.u rfl) rfl rfl ?_
  refine LR.v (Y.assign rfl rfl) (Wd.u rfl) rfl rfl ?_
  refine LR.nil ?_
  refine hK3 _ _ ?_
  refine CW.ret (hret .ret (.inr rfl) _ _ _ (res1 rfl rfl) ?_)
  exact ⟨by rw [rotr, UInt32.or_comm], rfl⟩

theorem turn_ct (x : UInt32) (j : Nat) (w0 : World) (H0 : Heap)
    (h0 : 0 < j) (h1 : j < 32) :
    Ct Try.prog w0 67 #[.int .u32 x.toNat, .int .i64 j] H0 (fun r H2 => r = .int .u32 (rotr x j).toNat ∧ H2 = H0) := by
  refine Ct.enter (args := [.int .u32 x.toNat, .int .i64 j]) Try.func67 rfl rfl rfl ?_
  intro Q0 hret
  refine CW.seq (fun K1 hK1 hE1 => ?_)
  refine CW.region ?_
  refine LR.v (Y.assign rfl rfl) (Wd.u rfl) rfl rfl ?_
  refine LR.nil ?_
  refine hK1 _ _ ?_
  refine CW.seq (fun K2 hK2 hE2 => ?_)
  refine CW.region ?_
  refine LR.v (Y.move rfl rfl) (Wd.u rfl) rfl rfl ?_
  refine LR.v (Y.move rfl rfl) (Wd.u rfl) rfl rfl ?_
  refine LR.v (Y.neg rfl rfl) (Wd.u rfl) rfl rfl ?_
  rw [IntWalk.i64_in _ (by omega), Int.zero_sub]
  -- call math/bits.RotateLeft32
  refine LR.call rfl Try.call71 rfl (Wd.u rfl) rfl rfl (rotl_ct x j w0 H0 h0 h1) (fun v8 H8 r8 => ?_)
  obtain ⟨rfl, rfl⟩ := r8
  refine LR.v (Y.assign rfl rfl) (Wd.u rfl) rfl rfl ?_
  refine LR.nil ?_
  refine hK2 _ _ ?_
  refine CW.ret (hret .ret (.inr rfl) _ _ _ (res1 rfl rfl) ?_)
  exact ⟨rfl, rfl⟩

/-- four bytes, the highest first -/
def word4 (a b c d : UInt8) : UInt32 := shlw_u32 (UInt32.ofNat a.toNat) 24 ||| shlw_u32 (UInt32.ofNat b.toNat) 16 ||| shlw_u32 (UInt32.ofNat c.toNat) 8 ||| UInt32.ofNat d.toNat

theorem word_ct (v : Value) (l : List UInt8) (w0 : World) (H0 : Heap)
    (hv : RdT H0 fB 1 v l) (hl : 4 ≤ l.length) :
    Ct Try.prog w0 66 #[v] H0 (fun r H2 => r = .int .u32 (word4 l[0] l[1] l[2] l[3]).toNat ∧ H2 = H0) := by
  refine Ct.enter (args := [v]) Try.func66 rfl rfl rfl ?_
  intro Q0 hret
  refine CW.seq (fun K1 hK1 hE1 => ?_)
  refine CW.region ?_
  refine LR.v (Y.assign rfl rfl) (Wd.u rfl) rfl rfl ?_
  refine LR.nil ?_
  refine hK1 _ _ ?_
  refine CW.seq (fun K2 hK2 hE2 => ?_)
  refine CW.region_draw rfl (by kernel_rfl) ?_
  refine LR.v (Y.move rfl rfl) (Wd.u rfl) rfl rfl ?_
  refine LR.e (g := fun ad => .pointer (some ad)) (Y.indexAddr hv (0) rfl Try.runUnderlying22 Try.sizeOf5 rfl rfl (by first | rfl | omega) (by first | omega | (simp; omega) | (simp; done))) (Wd.u rfl) rfl rfl (fun ad4 pt4 => ?_)
  refine LR.v (Y.load1 pt4 rfl Try.isAgg5 rfl) (Wd.u rfl) rfl rfl ?_
  refine LR.v (Y.conv_u32 rfl Try.runUnderlying5 Try.runUnderlying85 rfl) (Wd.u rfl) rfl rfl ?_
  refine LR.v (Y.shl_u32 (24) rfl rfl rfl (by first | rfl | omega) (by omega)) (Wd.u rfl) rfl rfl ?_
  refine LR.v (Y.move rfl rfl) (Wd.u rfl) rfl rfl ?_
  refine LR.e (g := fun ad => .pointer (some ad)) (Y.indexAddr hv (1) rfl Try.runUnderlying22 Try.sizeOf5 rfl rfl (by first | rfl | omega) (by first | omega | (simp; omega) | (simp; done))) (Wd.u rfl) rfl rfl (fun ad9 pt9 => ?_)
  refine LR.v (Y.load1 pt9 rfl Try.isAgg5 rfl) (Wd.u rfl) rfl rfl ?_
  refine LR.v (Y.conv_u32 rfl Try.runUnderlying5 Try.runUnderlying85 rfl) (Wd.u rfl) rfl rfl ?_
  refine LR.v (Y.shl_u32 (16) rfl rfl rfl (by first | rfl | omega) (by omega)) (Wd.u rfl) rfl rfl ?_
  refine LR.v (Y.or_u32 rfl rfl rfl) (Wd.u rfl) rfl rfl ?_
  refine LR.v (Y.move rfl rfl) (Wd.u rfl) rfl rfl ?_
  refine LR.e (g := fun ad => .pointer (some ad)) (Y.indexAddr hv (2) rfl Try.runUnderlying22 Try.sizeOf5 rfl rfl (by first | rfl | omega) (by first | omega | (simp; omega) | (simp; done))) (Wd.u rfl) rfl rfl (fun ad15 pt15 => ?_)
  refine LR.v (Y.load1 pt15 rfl Try.isAgg5 rfl) (Wd.u rfl) rfl rfl ?_
  refine LR.v (Y.conv_u32 rfl Try.runUnderlying5 Try.runUnderlying85 rfl) (Wd.u rfl) rfl rfl ?_
  refine LR.v (Y.shl_u32 (8) rfl rfl rfl (by first | rfl | omega) (by omega)) (Wd.u rfl) rfl rfl ?_
  refine LR.v (Y.or_u32 rfl rfl rfl) (Wd.u rfl) rfl rfl ?_
  refine LR.v (Y.move rfl rfl) (Wd.u rfl) rfl rfl ?_
  refine LR.e (g := fun ad => .pointer (some ad)) (Y.indexAddr hv (3) rfl Try.runUnderlying22 Try.sizeOf5 rfl rfl (by first | rfl | omega) (by first | omega | (simp; omega) | (simp; done))) (Wd.u rfl) rfl rfl (fun ad21 pt21 => ?_)
  refine LR.v (Y.load1 pt21 rfl Try.isAgg5 rfl) (Wd.u rfl) rfl rfl ?_
  refine LR.v (Y.conv_u32 rfl Try.runUnderlying5 Try.runUnderlying85 rfl) (Wd.u rfl) rfl rfl ?_
  refine LR.v (Y.or_u32 rfl rfl rfl) (Wd.u rfl) rfl rfl ?_
  refine LR.v (Y.assign rfl rfl) (Wd.u rfl) rfl rfl ?_
  refine LR.nil ?_
  refine hK2 _ _ ?_
  refine CW.ret (hret .ret (.inr rfl) _ _ _ (res1 rfl rfl) ?_)
  exact ⟨rfl, rfl⟩

end Go.Proofs.Ytegfnfhdgbcjbaa.SumA
