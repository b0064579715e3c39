/-
  Contracts of functions of the program
-/
import Derived.Test.YtegfnfhdgbcjbaaLinB
namespace Go.Proofs.Ytegfnfhdgbcjbaa.LinC
open Go.Proofs.Ytegfnfhdgbcjbaa.E Go.RowKit Go.Proofs.Ytegfnfhdgbcjbaa.LinM Go.Proofs.Ytegfnfhdgbcjbaa.LinB
set_option maxRecDepth 20000
set_option linter.unusedVariables false
set_option linter.unusedSimpArgs false
set_option linter.unusedSectionVars false

def few (l : List (List UInt8)) (k : Nat) : Nat := l.length + ((l.take k).map (fun s => s.length / 20)).sum
/-- not too many lines -/
def Few (l : List (List UInt8)) : Prop := few l (min l.length 200) < 120
instance (l : List (List UInt8)) : Decidable (Few l) := by unfold Few; infer_instance
theorem Few.len {l : List (List UInt8)} (h : Few l) : l.length < 120 := by unfold Few few at h; omega
theorem same_ct (v u : Value) (l m : List (List UInt8)) (w0 : World) (H0 : Heap)
    (hv : RdT H0 fS 1 v l) (hu : RdT H0 fS 1 u m) :
    Ct Try.prog w0 62 #[v, u] H0 (fun r H2 => r = .bool (decide (l = m)) ∧ H2 = H0) := by
  refine Ct.enter (args := [v, u]) Try.func62 rfl rfl rfl ?_
  intro Q0 hret
  refine CW.seq (fun K1 hK1 hE1 => ?_)
  refine CW.region ?_
  refine LR.v (Y.assign rfl rfl) (Wd.u rfl) rfl rfl ?_
  refine LR.nil ?_
  refine hK1 _ _ ?_
  refine CW.seq (fun K2 hK2 hE2 => ?_)
  refine CW.seq (fun K3 hK3 hE3 => ?_)
  refine CW.region ?_
  refine LR.v (Y.move rfl rfl) (Wd.u rfl) rfl rfl ?_
  refine LR.v (Y.len hv rfl Try.runUnderlying32 rfl) (Wd.u rfl) rfl rfl ?_
  refine LR.v (Y.move rfl rfl) (Wd.u rfl) rfl rfl ?_
  refine LR.v (Y.len hu rfl Try.runUnderlying32 rfl) (Wd.u rfl) rfl rfl ?_
  refine LR.v (Y.neq rfl rfl rfl) (Wd.u rfl) rfl rfl ?_
  refine LR.nil ?_
  refine hK3 _ _ ?_
  refine CW.condp rfl (fun c10 => ?_) (fun c10 => ?_)
  ·
    refine CW.seq (fun K4 hK4 hE4 => ?_)
    refine CW.region ?_
    refine LR.v (Y.assign rfl rfl) (Wd.u rfl) rfl rfl ?_
    refine LR.nil ?_
    refine hK4 _ _ ?_
    refine CW.ret (hE2 .ret nofun _ _ (hret .ret (.inr rfl) _ _ _ (res1 rfl rfl) ?_))
    exact ⟨bF (fun e => c10 (by rw [e])), rfl⟩
  ·
    have hlm : l.length = m.length := by omega
    refine CW.skip ?_
    refine hK2 _ _ ?_
    refine CW.seq (fun K5 hK5 hE5 => ?_)
    refine CW.seq (fun K6 hK6 hE6 => ?_)
    refine CW.region ?_
    refine LR.v (Y.assign rfl rfl) (Wd.u rfl) rfl rfl ?_
    refine LR.nil ?_
    refine hK6 _ _ ?_
    refine CW.block (fun K7 hK7 hX7 hE7 => ?_)
    refine CW.loop (fun (k : (Nat)) => [(0, v), (1, u), (5, .int .i64 k)])
      (fun (k : (Nat)) (H : Heap) => H = H0 ∧ k ≤ l.length ∧ l.take k = m.take k)
      (fun (k : (Nat)) => l.length - k) 0 ⟨rfl, rfl, rfl, trivial⟩ ?_ ?_
    ·
      exact ⟨rfl, by omega, by simp⟩
    intro k H1 hI1 K8 hN8 hE8
    obtain ⟨rfl, hk1, hk2⟩ := hI1
    have hlen := hv.len
    refine CW.seq (fun K9 hK9 hE9 => ?_)
    refine CW.seq (fun K10 hK10 hE10 => ?_)
    refine CW.region ?_
    refine LR.v (Y.move rfl rfl) (Wd.u rfl) rfl rfl ?_
    refine LR.v (Y.move rfl rfl) (Wd.u rfl) rfl rfl ?_
    refine LR.v (Y.len hv rfl Try.runUnderlying32 rfl) (Wd.u rfl) rfl rfl ?_
    refine LR.v (Y.lss rfl rfl rfl) (Wd.u rfl) rfl rfl ?_
    refine LR.nil ?_
    refine hK10 _ _ ?_
    refine CW.condp rfl (fun c14 => ?_) (fun c14 => ?_)
    ·
      refine CW.skip ?_
      refine hK9 _ _ ?_
      refine CW.seq (fun K11 hK11 hE11 => ?_)
      refine CW.block (fun K12 hK12 hX12 hE12 => ?_)
      refine CW.seq (fun K13 hK13 hE13 => ?_)
      refine CW.region_draw rfl (by kernel_rfl) ?_
      refine LR.v (Y.move rfl rfl) (Wd.u rfl) rfl rfl ?_
      refine LR.v (Y.move rfl rfl) (Wd.u rfl) rfl rfl ?_
      refine LR.e (g := fun ad => .pointer (some ad)) (Y.indexAddr hv (_) rfl Try.runUnderlying32 Try.sizeOf9 rfl rfl rfl (by first | omega | (simp; omega) | (simp; done))) (Wd.u rfl) rfl rfl (fun ad19 pt19 => ?_)
      refine LR.v (Y.load1 pt19 rfl Try.isAgg9 rfl) (Wd.u rfl) rfl rfl ?_
      refine LR.v (Y.move rfl rfl) (Wd.u rfl) rfl rfl ?_
      refine LR.v (Y.move rfl rfl) (Wd.u rfl) rfl rfl ?_
      refine LR.e (g := fun ad => .pointer (some ad)) (Y.indexAddr hu (_) rfl Try.runUnderlying32 Try.sizeOf9 rfl rfl rfl (by first | omega | (simp; omega) | (simp; done))) (Wd.u rfl) rfl rfl (fun ad23 pt23 => ?_)
      refine LR.v (Y.load1 pt23 rfl Try.isAgg9 rfl) (Wd.u rfl) rfl rfl ?_
      refine LR.v (Y.sneq rfl rfl rfl) (Wd.u rfl) rfl rfl ?_
      refine LR.nil ?_
      refine hK13 _ _ ?_
      refine CW.condp rfl (fun c25 => ?_) (fun c25 => ?_)
      ·
        refine CW.seq (fun K14 hK14 hE14 => ?_)
        refine CW.region ?_
        refine LR.v (Y.assign rfl rfl) (Wd.u rfl) rfl rfl ?_
        refine LR.nil ?_
        refine hK14 _ _ ?_
        refine CW.ret (hE12 .ret nofun (by simp) _ _ (hE11 .ret nofun _ _ (hE8 .ret nofun _ _ (hE7 .ret nofun (by simp) _ _ (hE5 .ret nofun _ _ (hret .ret (.inr rfl) _ _ _ (res1 rfl rfl) ?_))))))
        exact ⟨bF (fun e => c25 (by simp [e])), rfl⟩
      ·
        refine CW.skip ?_
        refine hK12 _ _ ?_
        refine hK11 _ _ ?_
        refine CW.region ?_
        refine LR.v (Y.move rfl rfl) (Wd.u rfl) rfl rfl ?_
        refine LR.v (Y.addi rfl rfl rfl (by omega)) (Wd.u rfl) rfl rfl ?_
        refine LR.v (Y.assign rfl rfl) (Wd.u rfl) rfl rfl ?_
        refine LR.nil ?_
        refine QN.sub (hN8 (k+1) _ ?_ ?_) ⟨rfl, rfl, (iv (by omega)), trivial⟩
        · exact ⟨rfl, by omega, by rw [List.take_succ_eq_append_getElem (show k < l.length by omega), List.take_succ_eq_append_getElem (show k < m.length by omega), hk2, show l[k] = m[k] from Decidable.not_not.1 c25]⟩
        · omega
    ·
      refine CW.exit (hE9 (.exit 0) nofun _ _ (hE8 (.exit 0) nofun _ _ (hX7 _ _ ?_)))
      refine hK5 _ _ ?_
      refine CW.seq (fun K15 hK15 hE15 => ?_)
      refine CW.region ?_
      refine LR.v (Y.assign rfl rfl) (Wd.u rfl) rfl rfl ?_
      refine LR.nil ?_
      refine hK15 _ _ ?_
      refine CW.ret (hret .ret (.inr rfl) _ _ _ (res1 rfl rfl) ?_)
      exact ⟨bT (by rw [List.take_of_length_le (by omega), List.take_of_length_le (by omega)] at hk2; exact hk2), rfl⟩


end Go.Proofs.Ytegfnfhdgbcjbaa.LinC
