/-
  Contracts of functions of the program
-/
import Derived.Test.YtegfnfhdgbcjbaaRows
import Derived.Test.YtegfnfhdgbcjbaaMap
import Derived.Test.YtegfnfhdgbcjbaaLinM
namespace Go.Proofs.Ytegfnfhdgbcjbaa.LinA
open Go.Proofs.Ytegfnfhdgbcjbaa.E Go.RowKit Go.Proofs.Ytegfnfhdgbcjbaa.LinM
set_option linter.unusedVariables false
set_option linter.unusedSimpArgs false
set_option linter.unusedSectionVars false
set_option maxRecDepth 100000 in
theorem inf100 : Inf Try.prog 100 104 2 16 := ⟨Try.underlying100, _, _, rfl, rfl, rfl, rfl, rfl⟩

abbrev fE (e : Int × Int) : List Value := [.int .i64 e.1, .int .i64 e.2]
theorem fE_len (e : Int × Int) : (fE e).length = 2 := rfl
theorem fE_one (e : Int × Int) : ∀ u ∈ fE e, u.oneCell' = true := by intro u hu; simp only [List.mem_cons, List.not_mem_nil, or_false] at hu; rcases hu with rfl | rfl <;> rfl
theorem eqT104 (a b c d : Int) (w : World) : (Op.equalIn 10000 104 (.agg #[.int .i64 a, .int .i64 b]) (.agg #[.int .i64 c, .int .i64 d])).run Try.prog w = .ok (decide ((a, b) = (c, d))) w := by
  by_cases h : a = c <;> by_cases h2 : b = d <;> simp [go_sem, h, h2]

theorem run_ct (v : Value) (es : List (Int × Int)) (op : Int) (G : Nat → Prop) (w0 : World) (H0 : Heap)
    (hv : Own G 104 H0 fE 2 v es) (hp : ∀ e ∈ es, 1 ≤ e.2 ∧ e.2 ≤ 1099511627776) (hl : es.length ≤ 1099511627776) :
    Ct Try.prog w0 69 #[v, .int .i64 op] H0 (fun r H2 => Own (fun b => G b ∨ H0.size ≤ b) 104 H2 fE 2 r (addE es op) ∧ Mo G H0 H2) := by
  refine Ct.enter (args := [v, .int .i64 op]) Try.func69 rfl rfl rfl ?_
  intro Q0 hret
  refine CW.seq (fun K1 hK1 hE1 => ?_)
  refine CW.region ?_
  refine LR.v (Y.assign rfl rfl) (Wd.u rfl) rfl rfl ?_
  refine LR.nil ?_
  refine hK1 _ _ ?_
  refine CW.seq (fun K2 hK2 hE2 => ?_)
  refine CW.region ?_
  refine LR.v (Y.move rfl rfl) (Wd.u rfl) rfl rfl ?_
  refine LR.v (Y.len hv.rd rfl Try.runUnderlying100 rfl) (Wd.u rfl) rfl rfl ?_
  refine LR.v (Y.assign rfl rfl) (Wd.u rfl) rfl rfl ?_
  refine LR.nil ?_
  refine hK2 _ _ ?_
  refine CW.seq (fun K3 hK3 hE3 => ?_)
  refine CW.seq (fun K4 hK4 hE4 => ?_)
  refine CW.region ?_
  refine LR.v (Y.move rfl rfl) (Wd.u rfl) rfl rfl ?_
  refine LR.v (Y.gtr rfl rfl rfl) (Wd.u rfl) rfl rfl ?_
  refine LR.v (Y.move rfl rfl) (Wd.u rfl) rfl rfl ?_
  refine LR.splitp (d := 10) rfl (fun g10 => ?_) (fun g10 => ?_)
  ·
    refine LR.v (Y.move rfl rfl) (Wd.g rfl rfl rfl) rfl rfl ?_
    refine LR.v (Y.move rfl rfl) (Wd.g rfl rfl rfl) rfl rfl ?_
    refine LR.v (Y.subi rfl rfl rfl (by omega)) (Wd.g rfl rfl rfl) rfl rfl ?_
    refine LR.v (Y.ownAddr hv (es.length - 1) rfl Try.runUnderlying100 Try.sizeOf104 rfl rfl (by first | rfl | omega) (by first | omega | (simp; omega) | (simp; done))) (Wd.g rfl rfl rfl) rfl rfl ?_
    refine LR.v (Y.fieldAddr (hv.pt (j := es.length - 1) (by first | omega | (simp; omega) | (simp; done))) rfl Try.runUnderlying104 rfl rfl Try.sizeOf3 (by decide) rfl) (Wd.g rfl rfl rfl) rfl rfl ?_
    refine LR.v (Y.load1 ((hv.pt (j := es.length - 1) (by first | omega | (simp; omega) | (simp; done))).drop 0) rfl Try.isAgg3 rfl) (Wd.g rfl rfl rfl) rfl rfl ?_
    refine LR.v (Y.move rfl rfl) (Wd.g rfl rfl rfl) rfl rfl ?_
    refine LR.v (Y.eql rfl rfl rfl) (Wd.g rfl rfl rfl) rfl rfl ?_
    refine LR.v (Y.pick_t rfl rfl rfl) (Wd.u rfl) rfl rfl ?_
    refine LR.nil ?_
    refine hK4 _ _ ?_
    refine CW.condp rfl (fun c19 => ?_) (fun c19 => ?_)
    ·
      refine CW.seq (fun K5 hK5 hE5 => ?_)
      refine CW.region ?_
      refine LR.v (Y.move rfl rfl) (Wd.u rfl) rfl rfl ?_
      refine LR.v (Y.move rfl rfl) (Wd.u rfl) rfl rfl ?_
      refine LR.v (Y.subi rfl rfl rfl (by omega)) (Wd.u rfl) rfl rfl ?_
      have hlt : es.length - 1 < es.length := by omega
      have hpp := hp es[es.length - 1] (by simp)
      refine LR.v (Y.ownAddr hv (es.length - 1) rfl Try.runUnderlying100 Try.sizeOf104 rfl rfl (by first | rfl | omega) (by first | omega | (simp; omega) | (simp; done))) (Wd.u rfl) rfl rfl ?_
      refine LR.v (Y.fieldAddr (hv.pt (j := es.length - 1) (by first | omega | (simp; omega) | (simp; done))) rfl Try.runUnderlying104 rfl rfl Try.sizeOf3 (by decide) rfl) (Wd.u rfl) rfl rfl ?_
      refine LR.v (Y.load1 ((hv.pt (j := es.length - 1) (by first | omega | (simp; omega) | (simp; done))).drop 1) rfl Try.isAgg3 rfl) (Wd.u rfl) rfl rfl ?_
      refine LR.v (Y.addi rfl rfl rfl (by omega)) (Wd.u rfl) rfl rfl ?_
      refine LR.v (Y.ownAddr hv (es.length - 1) rfl Try.runUnderlying100 Try.sizeOf104 rfl rfl (by first | rfl | omega) (by first | omega | (simp; omega) | (simp; done))) (Wd.u rfl) rfl rfl ?_
      refine LR.v (Y.fieldAddr (hv.pt (j := es.length - 1) (by first | omega | (simp; omega) | (simp; done))) rfl Try.runUnderlying104 rfl rfl Try.sizeOf3 (by decide) rfl) (Wd.u rfl) rfl rfl ?_
      refine LR.s (S.own hv (es.length - 1) 1 (((es[es.length - 1]).1, (es[es.length - 1]).2 + 1)) rfl rfl rfl rfl Try.sizeOf3 (by first | omega | (simp; omega) | (simp; done)) (by decide) (rfl)) (Wd.u rfl) rfl (fun H3_9 r3_9 => ?_)
      obtain ⟨ho, hs⟩ := r3_9
      refine LR.nil ?_
      refine hK5 _ _ ?_
      refine CW.seq (fun K6 hK6 hE6 => ?_)
      refine CW.region ?_
      refine LR.v (Y.move rfl rfl) (Wd.u rfl) rfl rfl ?_
      refine LR.v (Y.assign rfl rfl) (Wd.u rfl) rfl rfl ?_
      refine LR.nil ?_
      refine hK6 _ _ ?_
      refine CW.ret (hE3 .ret nofun _ _ (hret .ret (.inr rfl) _ _ _ (res1 rfl rfl) ?_))
      rw [addE_eq es op hlt c19]
      exact ⟨ho.imp (fun b _ hg => .inl hg), hs.weaken (fun b _ e => by rw [e]; exact (hv.at hlt).1)⟩
    ·
      refine CW.skip ?_
      refine hK3 _ _ ?_
      refine CW.seq (fun K7 hK7 hE7 => ?_)
      refine CW.region ?_
      refine LR.v (Y.move rfl rfl) (Wd.u rfl) rfl rfl ?_
      refine LR.v (Y.move rfl rfl) (Wd.u rfl) rfl rfl ?_
      refine LR.v (Y.build (v := .agg #[.int .i64 op, .int .i64 1]) rfl rfl (by intro w; kernel_rfl)) (Wd.u rfl) rfl rfl ?_
      refine LR.z (Z.lit _ ([(op, 1)]) rfl inf100 rfl rfl rfl (by decide) (by decide) fE_len fE_one (rfl)) (Wd.u rfl) rfl rfl (fun v33 H33 r33 => ?_)
      obtain ⟨ho33, hs33, _⟩ := r33
      replace hv := hv.nw hs33
      refine LR.z (Z.append hv ho33.rd rfl inf100 rfl rfl (by simp; omega) (by simp; omega)) (Wd.u rfl) rfl rfl (fun v34 H34 r34 => ?_)
      obtain ⟨ho, hs⟩ := r34
      refine LR.v (Y.assign rfl rfl) (Wd.u rfl) rfl rfl ?_
      refine LR.nil ?_
      refine hK7 _ _ ?_
      refine CW.ret (hret .ret (.inr rfl) _ _ _ (res1 rfl rfl) ?_)
      rw [addE_ne es op (fun _ => c19)]
      exact ⟨ho.imp (fun b _ hg => hg.imp id (fun h => Nat.le_trans hs33.size h)), hs33.trans hs (fun _ _ e => e.elim) (fun _ _ e => e)⟩
  ·
    refine LR.gs rfl rfl rfl rfl rfl rfl ?_
    refine LR.gs rfl rfl rfl rfl rfl rfl ?_
    refine LR.gs rfl rfl rfl rfl rfl rfl ?_
    refine LR.gs rfl rfl rfl rfl rfl rfl ?_
    refine LR.gs rfl rfl rfl rfl rfl rfl ?_
    refine LR.gs rfl rfl rfl rfl rfl rfl ?_
    refine LR.gs rfl rfl rfl rfl rfl rfl ?_
    refine LR.gs rfl rfl rfl rfl rfl rfl ?_
    refine LR.v (Y.pick_f rfl rfl rfl) (Wd.u rfl) rfl rfl ?_
    refine LR.nil ?_
    refine hK4 _ _ ?_
    refine CW.cond_f rfl ?_
    refine CW.skip ?_
    refine hK3 _ _ ?_
    refine CW.seq (fun K8 hK8 hE8 => ?_)
    refine CW.region ?_
    refine LR.v (Y.move rfl rfl) (Wd.u rfl) rfl rfl ?_
    refine LR.v (Y.move rfl rfl) (Wd.u rfl) rfl rfl ?_
    refine LR.v (Y.build (v := .agg #[.int .i64 op, .int .i64 1]) rfl rfl (by intro w; kernel_rfl)) (Wd.u rfl) rfl rfl ?_
    refine LR.z (Z.lit _ ([(op, 1)]) rfl inf100 rfl rfl rfl (by decide) (by decide) fE_len fE_one (rfl)) (Wd.u rfl) rfl rfl (fun v33 H33 r33 => ?_)
    obtain ⟨ho33, hs33, _⟩ := r33
    replace hv := hv.nw hs33
    refine LR.z (Z.append hv ho33.rd rfl inf100 rfl rfl (by simp; omega) (by simp; omega)) (Wd.u rfl) rfl rfl (fun v34 H34 r34 => ?_)
    obtain ⟨ho, hs⟩ := r34
    refine LR.v (Y.assign rfl rfl) (Wd.u rfl) rfl rfl ?_
    refine LR.nil ?_
    refine hK8 _ _ ?_
    refine CW.ret (hret .ret (.inr rfl) _ _ _ (res1 rfl rfl) ?_)
    rw [addE_ne es op (fun h => by omega)]
    exact ⟨ho.imp (fun b _ hg => hg.imp id (fun h => Nat.le_trans hs33.size h)), hs33.trans hs (fun _ _ e => e.elim) (fun _ _ e => e)⟩

end Go.Proofs.Ytegfnfhdgbcjbaa.LinA
