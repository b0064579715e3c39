/-
  The chapter's example; any two rows of bytes are as alike as the document says.
-/
import Derived.Test.YtclhnkmkejijjaaRenF
namespace Go.Proofs.Ytclhnkmkejijjaa.RenG
open Go.Proofs.Ytclhnkmkejijjaa.E Go.RowKit Go.Proofs.Ytclhnkmkejijjaa.RenA Go.Proofs.Ytclhnkmkejijjaa.RenB Go.Proofs.Ytclhnkmkejijjaa.RenC Go.Proofs.Ytclhnkmkejijjaa.RenD Go.Proofs.Ytclhnkmkejijjaa.RenE Go.Proofs.Ytclhnkmkejijjaa.RenF
set_option maxRecDepth 20000
set_option linter.unusedVariables false
set_option linter.unusedSimpArgs false
set_option linter.unusedSectionVars false
set_option maxRecDepth 100000 in
theorem inf22 : Inf Try.prog 22 5 1 1 := ⟨Try.underlying22, _, _, rfl, rfl, rfl, rfl, rfl⟩
set_option maxRecDepth 100000 in
theorem inf28 : Inf Try.prog 28 49 6 96 := ⟨Try.underlying28, _, _, rfl, rfl, rfl, rfl, rfl⟩

theorem scoreB_self (a : List UInt8) : scoreB a a = 100 := if_pos rfl
def zSV : SV := ⟨none, 0, 0⟩
def zFl : Fl := ⟨[], 0, [], zSV⟩
theorem zFl_R (H : Heap) : FlR (fun _ => True) H zFl := ⟨Rd.nil _ _ _ _, by decide⟩
abbrev kA (s : SV) : Fl := ⟨[97], 1, [120, 10, 121, 10], s⟩
abbrev kB (s : SV) : Fl := ⟨[98], 1, [120, 10, 122, 10], s⟩
theorem known_sc : scoreB [120, 10, 121, 10] [120, 10, 122, 10] = 50 := by decide +kernel
theorem known_ex (s t : SV) : exL (goneL [⟨kA s, zFl⟩, ⟨zFl, kB t⟩]) (comeL [⟨kA s, zFl⟩, ⟨zFl, kB t⟩]) = ([], [kA s], [kB t]) := by kernel_rfl
theorem known_cand (s t : SV) : candG [kA s] [kB t] = [⟨⟨[97], [98], 50⟩, 1⟩] := by kernel_rfl
theorem known_det {s t : SV} {out : List Pr} (h : DetP [⟨kA s, zFl⟩, ⟨zFl, kB t⟩] out) : out = [⟨[97], [98], 50⟩] := by
  obtain ⟨L, h1, _, h2, _⟩ := h
  rw [known_ex] at h1 h2
  simp only [known_cand] at h1 h2
  have := List.perm_singleton.1 h1
  subst this
  exact List.perm_singleton.1 h2

set_option maxHeartbeats 4000000 in
theorem known_ct  (w0 : World) (H0 : Heap)
     :
    Ct Try.prog w0 10 #[] H0 (fun r H2 => r = .bool true ∧ Nw H0 H2) := by
  refine Ct.enter (args := []) Try.func10 rfl rfl rfl ?_
  intro Q0 hret
  have hm0 : Nw H0 H0 := Mo.refl _ _
  refine CW.seq (fun K1 hK1 hE1 => ?_)
  refine CW.region ?_
  refine LR.v (Y.assign rfl rfl) (Wd.u rfl) rfl rfl ?_
  refine LR.nil ?_
  refine hK1 _ _ ?_
  refine CW.seq (fun K2 hK2 hE2 => ?_)
  refine CW.region ?_
  refine LR.z (Z.litw _ ([(120 : UInt8), 10, 121, 10]) rfl inf22 rfl rfl rfl (by decide) (by decide) fB_len fB_one (rfl)) (Wd.u rfl) rfl rfl (fun v4 H4 r4 => ?_)
  obtain ⟨oa, hs4, ob4, hH4⟩ := r4
  have hzs4 : H4.size = H0.size + 1 := by rw [hH4]; simp
  have nx1 : Nx 0 H0.size (H0.size + 1) := Nx.new hm0.size
  replace hm0 := hm0.tr hs4
  have hz1 := hs4.size
  refine LR.z (Z.bconst oa (by decide) rfl Try.underlying22 Try.underlying5 rfl) (Wd.u rfl) rfl rfl (fun v5 H5 r5 => ?_)
  obtain ⟨rfl, oa, hs5⟩ := r5
  replace hs5 := hs5.md
  replace hm0 := (Mo.trL (ks := []) (hm0.mdn []) hs5 (MIL.cons (MI.app MI.z (nx1) (Nat.le_refl _)) MIL.nil)).nil
  have hz2 := hs5.size
  obtain ⟨sa, rfl⟩ : ∃ s : SV, v5 = s.v := ⟨toSV v5, oa.sv.symm⟩
  refine LR.v (Y.build (v := .agg (fFl (kA sa)).toArray) rfl rfl (by intro w; kernel_rfl)) (Wd.u rfl) rfl rfl ?_
  refine LR.z (Z.allocv rfl Try.zeroValue35) (Wd.u rfl) rfl rfl (fun v1 H1 r1 => ?_)
  obtain ⟨rfl, va, hs1, ob1, hH1⟩ := r1
  have hzs1 : H1.size = H5.size + 1 := by rw [hH1]; simp
  have dj2 : Dj (H0.size + 1) (H5.size + 1) := Dj.new oa.le
  have nx3 : Nx 0 H0.size (H5.size + 1) := Nx.new hm0.size
  replace oa := oa.nw hs1
  replace hm0 := hm0.tr hs1
  have hz3 := hs1.size
  refine LR.s (S.var va (_) (fFl (kA sa)) rfl rfl rfl rfl (fFl_one (kA sa)) Try.sizeOf35 (rfl) (Nat.le_of_ble_eq_true rfl) (rfl)) (Wd.u rfl) rfl (fun H1_4 r1_4 => ?_)
  obtain ⟨va, hs1_4⟩ := r1_4
  replace hs1_4 := hs1_4.md1
  replace oa := oa.upL hs1_4 (DL.cons dj2 DL.nil)
  replace hm0 := (Mo.trL (ks := []) (hm0.mdn []) hs1_4 (MIL.cons (MI.app MI.z (nx3) (Nat.le_refl _)) MIL.nil)).nil
  have hz4 := hs1_4.size
  refine LR.nil ?_
  refine hK2 _ _ ?_
  refine CW.seq (fun K3 hK3 hE3 => ?_)
  refine CW.region ?_
  refine LR.z (Z.litw _ ([(120 : UInt8), 10, 122, 10]) rfl inf22 rfl rfl rfl (by decide) (by decide) fB_len fB_one (rfl)) (Wd.u rfl) rfl rfl (fun v7 H7 r7 => ?_)
  obtain ⟨ob, hs7, ob7, hH7⟩ := r7
  have hzs7 : H7.size = H1_4.size + 1 := by rw [hH7]; simp
  have dj4 : Dj (H0.size + 1) (H1_4.size + 1) := Dj.new oa.le
  have dj5 : Dj (H5.size + 1) (H1_4.size + 1) := Dj.new va.lt
  have nx6 : Nx 0 H0.size (H1_4.size + 1) := Nx.new hm0.size
  replace oa := oa.nw hs7
  replace va := va.nw hs7
  replace hm0 := hm0.tr hs7
  have hz5 := hs7.size
  refine LR.z (Z.bconst ob (by decide) rfl Try.underlying22 Try.underlying5 rfl) (Wd.u rfl) rfl rfl (fun v8 H8 r8 => ?_)
  obtain ⟨rfl, ob, hs8⟩ := r8
  replace hs8 := hs8.md
  replace oa := oa.upL hs8 (DL.cons dj4 DL.nil)
  replace va := va.upL hs8 (DL.cons dj5 DL.nil)
  replace hm0 := (Mo.trL (ks := []) (hm0.mdn []) hs8 (MIL.cons (MI.app MI.z (nx6) (Nat.le_refl _)) MIL.nil)).nil
  have hz6 := hs8.size
  obtain ⟨sb, rfl⟩ : ∃ s : SV, v8 = s.v := ⟨toSV v8, ob.sv.symm⟩
  refine LR.v (Y.build (v := .agg (fFl (kB sb)).toArray) rfl rfl (by intro w; kernel_rfl)) (Wd.u rfl) rfl rfl ?_
  refine LR.z (Z.allocv rfl Try.zeroValue35) (Wd.u rfl) rfl rfl (fun v2 H2 r2 => ?_)
  obtain ⟨rfl, vb, hs2, ob2, hH2⟩ := r2
  have hzs2 : H2.size = H8.size + 1 := by rw [hH2]; simp
  have dj7 : Dj (H0.size + 1) (H8.size + 1) := Dj.new oa.le
  have dj8 : Dj (H5.size + 1) (H8.size + 1) := Dj.new va.lt
  have dj9 : Dj (H1_4.size + 1) (H8.size + 1) := Dj.new ob.le
  have nx10 : Nx 0 H0.size (H8.size + 1) := Nx.new hm0.size
  replace oa := oa.nw hs2
  replace va := va.nw hs2
  replace ob := ob.nw hs2
  replace hm0 := hm0.tr hs2
  have hz7 := hs2.size
  refine LR.s (S.var vb (_) (fFl (kB sb)) rfl rfl rfl rfl (fFl_one (kB sb)) Try.sizeOf35 (rfl) (Nat.le_of_ble_eq_true rfl) (rfl)) (Wd.u rfl) rfl (fun H2_4 r2_4 => ?_)
  obtain ⟨vb, hs2_4⟩ := r2_4
  replace hs2_4 := hs2_4.md1
  replace oa := oa.upL hs2_4 (DL.cons dj7 DL.nil)
  replace va := va.upL hs2_4 (DL.cons dj8 DL.nil)
  replace ob := ob.upL hs2_4 (DL.cons dj9 DL.nil)
  replace hm0 := (Mo.trL (ks := []) (hm0.mdn []) hs2_4 (MIL.cons (MI.app MI.z (nx10) (Nat.le_refl _)) MIL.nil)).nil
  have hz8 := hs2_4.size
  refine LR.nil ?_
  refine hK3 _ _ ?_
  refine CW.seq (fun K4 hK4 hE4 => ?_)
  refine CW.region ?_
  refine LR.v (Y.loadN va.pt rfl Try.isAgg35 Try.sizeOf35 (rfl) rfl) (Wd.u rfl) rfl rfl ?_
  refine LR.v (Y.build (v := .agg (fCh ⟨kA sa, zFl⟩).toArray) rfl rfl (by intro w; kernel_rfl)) (Wd.u rfl) rfl rfl ?_
  refine LR.v (Y.loadN vb.pt rfl Try.isAgg35 Try.sizeOf35 (rfl) rfl) (Wd.u rfl) rfl rfl ?_
  refine LR.v (Y.build (v := .agg (fCh ⟨zFl, kB sb⟩).toArray) rfl rfl (by intro w; kernel_rfl)) (Wd.u rfl) rfl rfl ?_
  refine LR.z (Z.litw _ ([(⟨kA sa, zFl⟩ : Ch), ⟨zFl, kB sb⟩]) rfl inf28 rfl rfl rfl (by decide) (by decide) fCh_len fCh_one (rfl)) (Wd.u rfl) rfl rfl (fun v14 H14 r14 => ?_)
  obtain ⟨oc, hs14, ob14, hH14⟩ := r14
  have hzs14 : H14.size = H2_4.size + 1 := by rw [hH14]; simp
  have dj11 : Dj (H0.size + 1) (H2_4.size + 1) := Dj.new oa.le
  have dj12 : Dj (H5.size + 1) (H2_4.size + 1) := Dj.new va.lt
  have dj13 : Dj (H1_4.size + 1) (H2_4.size + 1) := Dj.new ob.le
  have dj14 : Dj (H8.size + 1) (H2_4.size + 1) := Dj.new vb.lt
  have nx15 : Nx 0 H0.size (H2_4.size + 1) := Nx.new hm0.size
  replace oa := oa.nw hs14
  replace va := va.nw hs14
  replace ob := ob.nw hs14
  replace vb := vb.nw hs14
  replace hm0 := hm0.tr hs14
  have hz9 := hs14.size
  -- call selvage/rename.Detect
  refine LR.call rfl Try.call17 rfl (Wd.u rfl) rfl rfl (detect_ct _ [⟨kA sa, zFl⟩, ⟨zFl, kB sb⟩] w0 _ oc.rd.any (by intro c hc; simp only [List.mem_cons, List.not_mem_nil, or_false] at hc; rcases hc with rfl | rfl; exact ⟨oa.rd.any, by show (-9223372036854775808 : Int) ≤ 1 ∧ (1 : Int) ≤ 9223372036854775807; decide⟩; exact zFl_R _) (by intro c hc; simp only [List.mem_cons, List.not_mem_nil, or_false] at hc; rcases hc with rfl | rfl; exact zFl_R _; exact ⟨ob.rd.any, by show (-9223372036854775808 : Int) ≤ 1 ∧ (1 : Int) ≤ 9223372036854775807; decide⟩) (by simp) (by intro c hc; simp only [List.mem_cons, List.not_mem_nil, or_false] at hc; rcases hc with rfl | rfl <;> simp [zFl])) (fun v15 H15 r15 => ?_)
  obtain ⟨vd, kd, out, rfl, od, hkr15, hdet, hs15⟩ := r15
  have dj16 : Dj (H0.size + 1) kd := Dj.app (Dj.z) oa.le hkr15
  have dj17 : Dj (H5.size + 1) kd := Dj.app (Dj.z) va.lt hkr15
  have dj18 : Dj (H1_4.size + 1) kd := Dj.app (Dj.z) ob.le hkr15
  have dj19 : Dj (H8.size + 1) kd := Dj.app (Dj.z) vb.lt hkr15
  have dj20 : Dj (H2_4.size + 1) kd := Dj.app (Dj.z) oc.le hkr15
  have nx21 : Nx 0 H0.size kd := Nx.tr (Nx.refl 0 _) hkr15 hm0.size
  replace oa := oa.nw hs15
  replace va := va.nw hs15
  replace ob := ob.nw hs15
  replace vb := vb.nw hs15
  replace oc := oc.nw hs15
  replace hm0 := hm0.tr hs15
  have hz10 := hs15.size
  have hle_od := od.le
  have hout := known_det hdet
  subst hout
  refine LR.v (Y.assign rfl rfl) (Wd.u rfl) rfl rfl ?_
  refine LR.nil ?_
  refine hK4 _ _ ?_
  refine CW.seq (fun K5 hK5 hE5 => ?_)
  refine CW.region ?_
  refine LR.v (Y.fieldAddr va.pt rfl Try.runUnderlying35 rfl rfl Try.sizeOf22 (by decide) rfl) (Wd.u rfl) rfl rfl ?_
  refine LR.v (Y.load1 (va.pt.drop 2) rfl Try.isAgg22 rfl) (Wd.u rfl) rfl rfl ?_
  refine LR.v (Y.fieldAddr vb.pt rfl Try.runUnderlying35 rfl rfl Try.sizeOf22 (by decide) rfl) (Wd.u rfl) rfl rfl ?_
  refine LR.v (Y.load1 (vb.pt.drop 2) rfl Try.isAgg22 rfl) (Wd.u rfl) rfl rfl ?_
  -- call selvage/rename.Score
  refine LR.call rfl Try.call11 rfl (Wd.u rfl) rfl rfl (pscore_ct _ _ [120, 10, 121, 10] [120, 10, 122, 10] w0 _ oa.rd.any ob.rd.any (by decide) (by decide)) (fun v20 H20 r20 => ?_)
  obtain ⟨rfl, hs20⟩ := r20
  replace oa := oa.nw hs20
  replace va := va.nw hs20
  replace ob := ob.nw hs20
  replace vb := vb.nw hs20
  replace od := od.nw hs20
  replace hm0 := hm0.tr hs20
  have hz11 := hs20.size
  refine LR.v ((Y.eql rfl rfl rfl).isT (by rw [known_sc]; rfl)) (Wd.u rfl) rfl rfl ?_
  refine LR.v (Y.move rfl rfl) (Wd.u rfl) rfl rfl ?_
  refine LR.v (Y.move rfl rfl) (Wd.g rfl rfl rfl) rfl rfl ?_
  refine LR.v (Y.len od.rd rfl Try.runUnderlying31 rfl) (Wd.g rfl rfl rfl) rfl rfl ?_
  refine LR.v ((Y.eql rfl rfl rfl).isT (rfl)) (Wd.g rfl rfl rfl) rfl rfl ?_
  refine LR.v (Y.pick_t rfl rfl rfl) (Wd.u rfl) rfl rfl ?_
  refine LR.v (Y.move rfl rfl) (Wd.u rfl) rfl rfl ?_
  refine LR.v (Y.move rfl rfl) (Wd.g rfl rfl rfl) rfl rfl ?_
  refine LR.v (Y.owAddr od (0) rfl Try.runUnderlying31 Try.sizeOf38 rfl rfl (by first | rfl | omega) (by decide)) (Wd.g rfl rfl rfl) rfl rfl ?_
  refine LR.v (Y.loadN (od.pt (j := 0) (by decide)) rfl Try.isAgg38 Try.sizeOf38 (rfl) rfl) (Wd.g rfl rfl rfl) rfl rfl ?_
  refine LR.v (Y.build (v := .agg (fPr ⟨[97], [98], 50⟩).toArray) rfl rfl (by intro w; kernel_rfl)) (Wd.g rfl rfl rfl) rfl rfl ?_
  refine LR.v ((Y.aeql rfl Try.eqGuardType38 (fun w => eqPr _ _ 9998 w) rfl rfl).isT (rfl)) (Wd.g rfl rfl rfl) rfl rfl ?_
  refine LR.v (Y.pick_t rfl rfl rfl) (Wd.u rfl) rfl rfl ?_
  refine LR.v (Y.assign rfl rfl) (Wd.u rfl) rfl rfl ?_
  refine LR.nil ?_
  refine hK5 _ _ ?_
  refine CW.ret (hret .ret (.inr rfl) _ _ _ (res1 rfl rfl) ?_)
  exact ⟨rfl, hm0⟩

end Go.Proofs.Ytclhnkmkejijjaa.RenG
