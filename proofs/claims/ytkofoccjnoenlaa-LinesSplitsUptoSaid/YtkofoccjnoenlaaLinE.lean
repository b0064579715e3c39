/-
  Contracts of functions of the program
-/
import Derived.Test.YtkofoccjnoenlaaLinD
namespace Go.Proofs.Ytkofoccjnoenlaa.LinE
open Go.Proofs.Ytkofoccjnoenlaa.E Go.RowKit Go.Proofs.Ytkofoccjnoenlaa.LinM Go.Proofs.Ytkofoccjnoenlaa.LinA Go.Proofs.Ytkofoccjnoenlaa.LinB Go.Proofs.Ytkofoccjnoenlaa.LinC Go.Proofs.Ytkofoccjnoenlaa.LinD
set_option linter.unusedVariables false
set_option linter.unusedSimpArgs false
set_option linter.unusedSectionVars false
theorem inf22 : Inf Try.prog 22 9 1 16 := ⟨Try.underlying22, _, _, rfl, rfl, rfl, rfl, rfl⟩

abbrev sA : List UInt8 := [97]
abbrev sB : List UInt8 := [98]
abbrev sC : List UInt8 := [99]
abbrev sD : List UInt8 := [100]
theorem script_abc : script [sA, sB, sC] [sB, sC, sD] = [(1, 1), (0, 2), (2, 1)] := by
  unfold script
  simp [W, lcs_cons, lcs_nil, lcs_nil_right, runs, addE]

theorem known_ct  (w0 : World) (H0 : Heap)
     :
    Ct Try.prog w0 10 #[] H0 (fun r H2 => r = .bool true ∧ Nw H0 H2) := by
  refine Ct.enter (args := []) Try.func10 rfl rfl rfl ?_
  intro Q0 hret
  refine CW.seq (fun K1 hK1 hE1 => ?_)
  refine CW.region ?_
  refine LR.v (Y.assign rfl rfl) (Wd.u rfl) rfl rfl ?_
  refine LR.nil ?_
  refine hK1 _ _ ?_
  refine CW.seq (fun K2 hK2 hE2 => ?_)
  refine CW.region ?_
  refine LR.z (Z.lit _ ([sA, sB, sC]) rfl inf22 rfl rfl rfl (by decide) (by decide) fS_len fS_one rfl) (Wd.u rfl) rfl rfl (fun v4 H4 r4 => ?_)
  obtain ⟨ho4, hs4, -⟩ := r4
  refine LR.z (Z.lit _ ([sB, sC, sD]) rfl inf22 rfl rfl rfl (by decide) (by decide) fS_len fS_one rfl) (Wd.u rfl) rfl rfl (fun v5 H5 r5 => ?_)
  obtain ⟨ho5, hs5, -⟩ := r5
  replace ho4 := ho4.nw hs5
  -- call selvage/lines.Diff
  refine LR.call rfl Try.call12 rfl (Wd.u rfl) rfl rfl (diff_ct _ _ [sA, sB, sC] [sB, sC, sD] w0 H5 ho4.rd.any ho5.rd.any) (fun v6 H6 r6 => ?_)
  obtain ⟨v, rfl, ho, hs6⟩ := r6
  rw [if_neg (by decide), script_abc] at ho
  replace ho := ho.rd
  refine LR.v (Y.move rfl rfl) (Wd.u rfl) rfl rfl ?_
  refine LR.v (Y.extract rfl rfl rfl) (Wd.u rfl) rfl rfl ?_
  refine LR.v (Y.extract rfl rfl rfl) (Wd.u rfl) rfl rfl ?_
  refine LR.v (Y.assign rfl rfl) (Wd.u rfl) rfl rfl ?_
  refine LR.v (Y.assign rfl rfl) (Wd.u rfl) rfl rfl ?_
  refine LR.nil ?_
  refine hK2 _ _ ?_
  refine CW.seq (fun K3 hK3 hE3 => ?_)
  refine CW.region ?_
  refine LR.v (Y.move rfl rfl) (Wd.u rfl) rfl rfl ?_
  refine LR.v ((Y.eql rfl rfl rfl).isT (rfl)) (Wd.u rfl) rfl rfl ?_
  refine LR.v (Y.move rfl rfl) (Wd.u rfl) rfl rfl ?_
  refine LR.v (Y.move rfl rfl) (Wd.g rfl rfl rfl) rfl rfl ?_
  refine LR.v (Y.len ho rfl Try.runUnderlying25 rfl) (Wd.g rfl rfl rfl) rfl rfl ?_
  refine LR.v ((Y.eql rfl rfl rfl).isT (rfl)) (Wd.g rfl rfl rfl) rfl rfl ?_
  refine LR.v (Y.pick_t rfl rfl rfl) (Wd.u rfl) rfl rfl ?_
  refine LR.v (Y.move rfl rfl) (Wd.u rfl) rfl rfl ?_
  refine LR.v (Y.move rfl rfl) (Wd.g rfl rfl rfl) rfl rfl ?_
  refine LR.e (g := fun ad => .pointer (some ad)) (Y.indexAddr ho (0) rfl Try.runUnderlying25 Try.sizeOf36 rfl rfl (by first | rfl | omega) (by decide)) (Wd.g rfl rfl rfl) rfl rfl (fun ad18 pt18 => ?_)
  refine LR.v (Y.loadN pt18 rfl Try.isAgg36 Try.sizeOf36 rfl rfl) (Wd.g rfl rfl rfl) rfl rfl ?_
  refine LR.v (Y.build (v := .agg #[.int .i64 1, .int .i64 1]) rfl rfl (by intro w; kernel_rfl)) (Wd.g rfl rfl rfl) rfl rfl ?_
  refine LR.v ((Y.aeql rfl Try.eqGuardType36 (eqT36 _ _ _ _) rfl rfl).isT (rfl)) (Wd.g rfl rfl rfl) rfl rfl ?_
  refine LR.v (Y.pick_t rfl rfl rfl) (Wd.u rfl) rfl rfl ?_
  refine LR.v (Y.move rfl rfl) (Wd.u rfl) rfl rfl ?_
  refine LR.v (Y.move rfl rfl) (Wd.g rfl rfl rfl) rfl rfl ?_
  refine LR.e (g := fun ad => .pointer (some ad)) (Y.indexAddr ho (1) rfl Try.runUnderlying25 Try.sizeOf36 rfl rfl (by first | rfl | omega) (by decide)) (Wd.g rfl rfl rfl) rfl rfl (fun ad25 pt25 => ?_)
  refine LR.v (Y.loadN pt25 rfl Try.isAgg36 Try.sizeOf36 rfl rfl) (Wd.g rfl rfl rfl) rfl rfl ?_
  refine LR.v (Y.build (v := .agg #[.int .i64 0, .int .i64 2]) rfl rfl (by intro w; kernel_rfl)) (Wd.g rfl rfl rfl) rfl rfl ?_
  refine LR.v ((Y.aeql rfl Try.eqGuardType36 (eqT36 _ _ _ _) rfl rfl).isT (rfl)) (Wd.g rfl rfl rfl) rfl rfl ?_
  refine LR.v (Y.pick_t rfl rfl rfl) (Wd.u rfl) rfl rfl ?_
  refine LR.v (Y.move rfl rfl) (Wd.u rfl) rfl rfl ?_
  refine LR.v (Y.move rfl rfl) (Wd.g rfl rfl rfl) rfl rfl ?_
  refine LR.e (g := fun ad => .pointer (some ad)) (Y.indexAddr ho (2) rfl Try.runUnderlying25 Try.sizeOf36 rfl rfl (by first | rfl | omega) (by decide)) (Wd.g rfl rfl rfl) rfl rfl (fun ad32 pt32 => ?_)
  refine LR.v (Y.loadN pt32 rfl Try.isAgg36 Try.sizeOf36 rfl rfl) (Wd.g rfl rfl rfl) rfl rfl ?_
  refine LR.v (Y.build (v := .agg #[.int .i64 2, .int .i64 1]) rfl rfl (by intro w; kernel_rfl)) (Wd.g rfl rfl rfl) rfl rfl ?_
  refine LR.v ((Y.aeql rfl Try.eqGuardType36 (eqT36 _ _ _ _) rfl rfl).isT (rfl)) (Wd.g rfl rfl rfl) rfl rfl ?_
  refine LR.v (Y.pick_t rfl rfl rfl) (Wd.u rfl) rfl rfl ?_
  refine LR.v (Y.assign rfl rfl) (Wd.u rfl) rfl rfl ?_
  refine LR.nil ?_
  refine hK3 _ _ ?_
  refine CW.ret (hret .ret (.inr rfl) _ _ _ (res1 rfl rfl) ?_)
  exact ⟨rfl, (hs4.tr hs5).tr hs6⟩

theorem most_ct (va vb : Value) (a b : List (List UInt8)) (w0 : World) (H0 : Heap)
    (ha : RdT H0 fS 1 va a) (hb : RdT H0 fS 1 vb b) (hla : a.length ≤ 4000) (hlb : b.length ≤ 4000) :
    Ct Try.prog w0 18 #[va, vb] H0 (fun r H2 => r = .int .i64 (keptE (script a b)) ∧ Nw H0 H2) := by
  refine Ct.enter (args := [va, vb]) Try.func18 rfl rfl rfl ?_
  intro Q0 hret
  refine CW.seq (fun K1 hK1 hE1 => ?_)
  refine CW.region ?_
  refine LR.v (Y.assign rfl rfl) (Wd.u rfl) rfl rfl ?_
  refine LR.nil ?_
  refine hK1 _ _ ?_
  refine CW.seq (fun K2 hK2 hE2 => ?_)
  refine CW.region ?_
  refine LR.v (Y.move rfl rfl) (Wd.u rfl) rfl rfl ?_
  refine LR.v (Y.move rfl rfl) (Wd.u rfl) rfl rfl ?_
  -- call selvage/lines.Diff
  refine LR.call rfl Try.call12 rfl (Wd.u rfl) rfl rfl (diff_ct _ _ a b w0 H0 ha hb) (fun v10 H10 r10 => ?_)
  obtain ⟨v, rfl, ho, hs⟩ := r10
  rw [if_neg (by omega)] at ho
  have hW := W_len a b
  have hrt := runs_tot (W a b)
  refine LR.v (Y.move rfl rfl) (Wd.u rfl) rfl rfl ?_
  refine LR.v (Y.extract rfl rfl rfl) (Wd.u rfl) rfl rfl ?_
  refine LR.v (Y.extract rfl rfl rfl) (Wd.u rfl) rfl rfl ?_
  refine LR.v (Y.assign rfl rfl) (Wd.u rfl) rfl rfl ?_
  refine LR.v (Y.assign rfl rfl) (Wd.u rfl) rfl rfl ?_
  refine LR.nil ?_
  refine hK2 _ _ ?_
  refine CW.seq (fun K3 hK3 hE3 => ?_)
  refine CW.region ?_
  refine LR.v (Y.move rfl rfl) (Wd.u rfl) rfl rfl ?_
  -- call selvage/selvagelaw12.kept
  refine LR.call rfl Try.call17 rfl (Wd.u rfl) rfl rfl (kept_ct _ _ w0 H10 ho.rd.any (runs_pos _) (by rw [show script a b = runs (W a b) from rfl, hrt]; omega)) (fun v14 H14 r14 => ?_)
  obtain ⟨rfl, rfl⟩ := r14
  refine LR.v (Y.assign rfl rfl) (Wd.u rfl) rfl rfl ?_
  refine LR.nil ?_
  refine hK3 _ _ ?_
  refine CW.ret (hret .ret (.inr rfl) _ _ _ (res1 rfl rfl) ?_)
  exact ⟨rfl, hs⟩


theorem Few.bd {a : List (List UInt8)} (h : Few a) : a.length < 120 := h.len

theorem linesDiffs_ct (va vb : Value) (a b : List (List UInt8)) (w0 : World) (H0 : Heap)
    (ha : RdT H0 fS 1 va a) (hb : RdT H0 fS 1 vb b) (hla : (∀ s ∈ a, s.length ≤ 1048576) ∧ a.length ≤ 1048576) (hlb : (∀ s ∈ b, s.length ≤ 1048576) ∧ b.length ≤ 1048576) :
    Ct Try.prog w0 3 #[va, vb] H0 (fun r H2 => r = .bool true ∧ Nw H0 H2) := by
  refine Ct.enter (args := [va, vb]) Try.func3 rfl rfl rfl ?_
  intro Q0 hret
  replace ha := ha.lt
  replace hb := hb.lt
  refine CW.seq (fun K1 hK1 hE1 => ?_)
  refine CW.region ?_
  refine LR.v (Y.assign rfl rfl) (Wd.u rfl) rfl rfl ?_
  refine LR.nil ?_
  refine hK1 _ _ ?_
  refine CW.seq (fun K2 hK2 hE2 => ?_)
  refine CW.seq (fun K3 hK3 hE3 => ?_)
  refine CW.region ?_
  -- call selvage/selvagelaw12.known
  refine LR.call rfl Try.call10 rfl (Wd.u rfl) rfl rfl (known_ct w0 H0) (fun v11 H11 r11 => ?_)
  obtain ⟨rfl, hs⟩ := r11
  replace ha := ha.nw hs
  replace hb := hb.nw hs
  have hz11 := hs.size
  refine LR.v (Y.not rfl rfl) (Wd.u rfl) rfl rfl ?_
  refine LR.nil ?_
  refine hK3 _ _ ?_
  refine CW.cond_f rfl ?_
  refine CW.skip ?_
  refine hK2 _ _ ?_
  refine CW.seq (fun K4 hK4 hE4 => ?_)
  refine CW.seq (fun K5 hK5 hE5 => ?_)
  refine CW.region ?_
  refine LR.v (Y.move rfl rfl) (Wd.u rfl) rfl rfl ?_
  -- call selvage/selvagelaw12.Few
  refine LR.call rfl Try.call11 rfl (Wd.u rfl) rfl rfl (few_ct _ _ w0 H11 ha.any hla.1 hla.2) (fun v14 H14 r14 => ?_)
  obtain ⟨rfl, rfl⟩ := r14
  refine LR.v (Y.notp rfl rfl) (Wd.u rfl) rfl rfl ?_
  refine LR.v (Y.move rfl rfl) (Wd.u rfl) rfl rfl ?_
  refine LR.splitp (d := 16) rfl (fun g16 => ?_) (fun g16 => ?_)
  ·
    refine LR.gs rfl rfl rfl rfl rfl rfl ?_
    refine LR.gs rfl rfl rfl rfl rfl rfl ?_
    refine LR.gs rfl rfl rfl rfl rfl rfl ?_
    refine LR.v (Y.pick_t rfl rfl rfl) (Wd.u rfl) rfl rfl ?_
    refine LR.nil ?_
    refine hK5 _ _ ?_
    refine CW.cond_t rfl ?_
    refine CW.seq (fun K6 hK6 hE6 => ?_)
    refine CW.region ?_
    refine LR.v (Y.assign rfl rfl) (Wd.u rfl) rfl rfl ?_
    refine LR.nil ?_
    refine hK6 _ _ ?_
    refine CW.ret (hE4 .ret nofun _ _ (hret .ret (.inr rfl) _ _ _ (res1 rfl rfl) ?_))
    exact ⟨rfl, hs⟩
  ·
    refine LR.v (Y.move rfl rfl) (Wd.g rfl rfl rfl) rfl rfl ?_
    -- call selvage/selvagelaw12.Few
    refine LR.call rfl Try.call11 rfl (Wd.g rfl rfl rfl) rfl rfl (few_ct _ _ w0 H14 hb.any hlb.1 hlb.2) (fun v18 H18 r18 => ?_)
    obtain ⟨rfl, rfl⟩ := r18
    refine LR.v (Y.notp rfl rfl) (Wd.g rfl rfl rfl) rfl rfl ?_
    refine LR.v (Y.pick_f rfl rfl rfl) (Wd.u rfl) rfl rfl ?_
    refine LR.nil ?_
    refine hK5 _ _ ?_
    refine CW.condp rfl (fun c20 => ?_) (fun c20 => ?_)
    ·
      refine CW.seq (fun K7 hK7 hE7 => ?_)
      refine CW.region ?_
      refine LR.v (Y.assign rfl rfl) (Wd.u rfl) rfl rfl ?_
      refine LR.nil ?_
      refine hK7 _ _ ?_
      refine CW.ret (hE4 .ret nofun _ _ (hret .ret (.inr rfl) _ _ _ (res1 rfl rfl) ?_))
      exact ⟨rfl, hs⟩
    ·
      have hfa := (Decidable.not_not.1 g16).len
      have hfb := (Decidable.not_not.1 c20).len
      refine CW.skip ?_
      refine hK4 _ _ ?_
      refine CW.seq (fun K8 hK8 hE8 => ?_)
      refine CW.region ?_
      refine LR.z (Z.lit _ (([] : List (List UInt8))) rfl inf22 rfl rfl rfl (by decide) (by decide) fS_len fS_one rfl) (Wd.u rfl) rfl rfl (fun v21 H21 r21 => ?_)
      obtain ⟨ho, hs21, ob21, hH21⟩ := r21
      replace ha := ha.nw hs21
      replace hb := hb.nw hs21
      replace hs := hs.tr hs21
      have hz21 : H21.size = H18.size + 1 := by rw [hH21]; simp
      refine LR.v (Y.move rfl rfl) (Wd.u rfl) rfl rfl ?_
      refine LR.z (Z.append ho ha rfl inf22 rfl rfl (by simp; omega) (by simp; omega)) (Wd.u rfl) rfl rfl (fun v23 H23 r23 => ?_)
      obtain ⟨ho, hs23⟩ := r23
      replace ha := ha.up hs23 (fun b _ h1 h2 => by omega)
      replace hb := hb.up hs23 (fun b _ h1 h2 => by omega)
      replace hs := hs.trans hs23 (fun _ _ e => e) (fun b hb e => (by omega : False))
      have hz23 := hs23.size
      replace ho := ho.lt
      refine LR.v (Y.assign rfl rfl) (Wd.u rfl) rfl rfl ?_
      refine LR.nil ?_
      refine hK8 _ _ ?_
      refine CW.seq (fun K9 hK9 hE9 => ?_)
      refine CW.region ?_
      refine LR.z (Z.lit _ (([] : List (List UInt8))) rfl inf22 rfl rfl rfl (by decide) (by decide) fS_len fS_one rfl) (Wd.u rfl) rfl rfl (fun v24 H24 r24 => ?_)
      obtain ⟨ho2, hs24, ob24, hH24⟩ := r24
      replace ha := ha.nw hs24
      replace hb := hb.nw hs24
      replace hs := hs.tr hs24
      replace ho := ho.nw hs24
      have hz24 : H24.size = H23.size + 1 := by rw [hH24]; simp
      refine LR.v (Y.move rfl rfl) (Wd.u rfl) rfl rfl ?_
      refine LR.z (Z.append ho2 hb rfl inf22 rfl rfl (by simp; omega) (by simp; omega)) (Wd.u rfl) rfl rfl (fun v26 H26 r26 => ?_)
      obtain ⟨ho2, hs26⟩ := r26
      replace ha := ha.up hs26 (fun b _ h1 h2 => by omega)
      replace hb := hb.up hs26 (fun b _ h1 h2 => by omega)
      replace ho := ho.up hs26 (fun b _ h1 h2 => by omega)
      replace hs := hs.trans hs26 (fun _ _ e => e) (fun b hb e => (by omega : False))
      have hz26 := hs26.size
      replace ho2 := ho2.rd
      refine LR.v (Y.assign rfl rfl) (Wd.u rfl) rfl rfl ?_
      refine LR.nil ?_
      refine hK9 _ _ ?_
      refine CW.seq (fun K10 hK10 hE10 => ?_)
      refine CW.region ?_
      refine LR.v (Y.move rfl rfl) (Wd.u rfl) rfl rfl ?_
      refine LR.v (Y.move rfl rfl) (Wd.u rfl) rfl rfl ?_
      -- call selvage/lines.Diff
      refine LR.call rfl Try.call12 rfl (Wd.u rfl) rfl rfl (diff_ct _ _ a b w0 H26 ho.any ho2.any) (fun v30 H30 r30 => ?_)
      obtain ⟨ve, rfl, hoe, hs30⟩ := r30
      rw [if_neg (by omega)] at hoe
      replace ha := ha.nw hs30
      replace hb := hb.nw hs30
      replace hs := hs.tr hs30
      replace ho := ho.nw hs30
      replace ho2 := ho2.nw hs30
      refine LR.v (Y.move rfl rfl) (Wd.u rfl) rfl rfl ?_
      refine LR.v (Y.extract rfl rfl rfl) (Wd.u rfl) rfl rfl ?_
      refine LR.v (Y.extract rfl rfl rfl) (Wd.u rfl) rfl rfl ?_
      refine LR.v (Y.assign rfl rfl) (Wd.u rfl) rfl rfl ?_
      refine LR.v (Y.assign rfl rfl) (Wd.u rfl) rfl rfl ?_
      refine LR.nil ?_
      refine hK10 _ _ ?_
      refine CW.seq (fun K11 hK11 hE11 => ?_)
      refine CW.region ?_
      refine LR.v (Y.move rfl rfl) (Wd.u rfl) rfl rfl ?_
      refine LR.v (Y.move rfl rfl) (Wd.u rfl) rfl rfl ?_
      -- call selvage/selvageref12.Diff
      refine LR.call rfl Try.call13 rfl (Wd.u rfl) rfl rfl (rdiff_ct _ _ a b w0 H30 ha.any hb.any) (fun v36 H36 r36 => ?_)
      obtain ⟨vg, rfl, hog, hs36⟩ := r36
      rw [if_neg (by omega)] at hog
      replace ha := ha.nw hs36
      replace hb := hb.nw hs36
      replace hs := hs.tr hs36
      replace ho := ho.nw hs36
      replace ho2 := ho2.nw hs36
      replace hoe := hoe.nw hs36
      refine LR.v (Y.move rfl rfl) (Wd.u rfl) rfl rfl ?_
      refine LR.v (Y.extract rfl rfl rfl) (Wd.u rfl) rfl rfl ?_
      refine LR.v (Y.extract rfl rfl rfl) (Wd.u rfl) rfl rfl ?_
      refine LR.v (Y.assign rfl rfl) (Wd.u rfl) rfl rfl ?_
      refine LR.v (Y.assign rfl rfl) (Wd.u rfl) rfl rfl ?_
      refine LR.nil ?_
      refine hK11 _ _ ?_
      refine CW.seq (fun K12 hK12 hE12 => ?_)
      refine CW.region ?_
      refine LR.v (Y.move rfl rfl) (Wd.u rfl) rfl rfl ?_
      refine LR.v (Y.move rfl rfl) (Wd.u rfl) rfl rfl ?_
      -- call selvage/selvagelaw12.SameEdits
      refine LR.call rfl Try.call14 rfl (Wd.u rfl) rfl rfl (sameE_ct _ _ _ _ w0 H36 hoe.rd.any hog.rd.any) (fun v41 H41 r41 => ?_)
      obtain ⟨hv41, rfl⟩ := r41
      rw [decide_eq_true rfl] at hv41
      subst hv41
      refine LR.v (Y.move rfl rfl) (Wd.u rfl) rfl rfl ?_
      refine LR.v (Y.move rfl rfl) (Wd.g rfl rfl rfl) rfl rfl ?_
      refine LR.v (Y.move rfl rfl) (Wd.g rfl rfl rfl) rfl rfl ?_
      refine LR.v ((Y.eql rfl rfl rfl).isT (rfl)) (Wd.g rfl rfl rfl) rfl rfl ?_
      refine LR.v (Y.pick_t rfl rfl rfl) (Wd.u rfl) rfl rfl ?_
      refine LR.v (Y.move rfl rfl) (Wd.u rfl) rfl rfl ?_
      refine LR.v (Y.move rfl rfl) (Wd.g rfl rfl rfl) rfl rfl ?_
      refine LR.v (Y.move rfl rfl) (Wd.g rfl rfl rfl) rfl rfl ?_
      -- call selvage/selvageref12.Same
      refine LR.call rfl Try.call15 rfl (Wd.g rfl rfl rfl) rfl rfl (same_ct _ _ _ _ w0 H41 ho.any ha.any) (fun v50 H50 r50 => ?_)
      obtain ⟨hv50, rfl⟩ := r50
      rw [List.nil_append, decide_eq_true rfl] at hv50
      subst hv50
      refine LR.v (Y.pick_t rfl rfl rfl) (Wd.u rfl) rfl rfl ?_
      refine LR.v (Y.move rfl rfl) (Wd.u rfl) rfl rfl ?_
      refine LR.v (Y.move rfl rfl) (Wd.g rfl rfl rfl) rfl rfl ?_
      refine LR.v (Y.move rfl rfl) (Wd.g rfl rfl rfl) rfl rfl ?_
      -- call selvage/selvageref12.Same
      refine LR.call rfl Try.call15 rfl (Wd.g rfl rfl rfl) rfl rfl (same_ct _ _ _ _ w0 H50 ho2.any hb.any) (fun v55 H55 r55 => ?_)
      obtain ⟨hv55, rfl⟩ := r55
      rw [List.nil_append, decide_eq_true rfl] at hv55
      subst hv55
      refine LR.v (Y.pick_t rfl rfl rfl) (Wd.u rfl) rfl rfl ?_
      refine LR.v (Y.assign rfl rfl) (Wd.u rfl) rfl rfl ?_
      refine LR.nil ?_
      refine hK12 _ _ ?_
      refine CW.ret (hret .ret (.inr rfl) _ _ _ (res1 rfl rfl) ?_)
      exact ⟨rfl, hs⟩

end Go.Proofs.Ytkofoccjnoenlaa.LinE
