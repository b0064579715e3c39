/-
  The contracts of MergeChunks, MergeSides, MergeOne.
-/
import Derived.Test.YtadgeooceeilpaaMerI
namespace Go.Proofs.Ytadgeooceeilpaa.MerJ
open Go.Proofs.Ytadgeooceeilpaa.E Go.RowKit Go.Proofs.Ytadgeooceeilpaa.LinM Go.Proofs.Ytadgeooceeilpaa.LinA Go.Proofs.Ytadgeooceeilpaa.LinC Go.Proofs.Ytadgeooceeilpaa.LinF Go.Proofs.Ytadgeooceeilpaa.LinL Go.Proofs.Ytadgeooceeilpaa.LinN Go.Proofs.Ytadgeooceeilpaa.MerA Go.Proofs.Ytadgeooceeilpaa.MerB Go.Proofs.Ytadgeooceeilpaa.MerC Go.Proofs.Ytadgeooceeilpaa.MerD Go.Proofs.Ytadgeooceeilpaa.MerE Go.Proofs.Ytadgeooceeilpaa.MerF Go.Proofs.Ytadgeooceeilpaa.MerG Go.Proofs.Ytadgeooceeilpaa.MerH Go.Proofs.Ytadgeooceeilpaa.MerI
set_option linter.unusedVariables false
set_option linter.unusedSimpArgs false
set_option linter.unusedSectionVars false
theorem inf22 : Inf Try.prog 22 9 1 16 := ⟨Try.underlying22, _, _, rfl, rfl, rfl, rfl, rfl⟩
theorem inf25 : Inf Try.prog 25 42 4 80 := ⟨Try.underlying25, _, _, rfl, rfl, rfl, rfl, rfl⟩
theorem inf32 : Inf Try.prog 32 5 1 1 := ⟨Try.underlying32, _, _, rfl, rfl, rfl, rfl, rfl⟩

abbrev kA : List UInt8 := [97, 10, 98, 10, 99, 10]
abbrev kO : List UInt8 := [97, 10, 120, 10, 99, 10]
abbrev kT : List UInt8 := [97, 10, 98, 10, 99, 10, 100, 10]
theorem known1 : cleanL (mchL kA kO kT) = true ∧ rendL (mchL kA kO kT) = [97, 10, 120, 10, 99, 10, 100, 10] := by decide +kernel
theorem known2 : cleanL (mchL [97, 10] [98, 10] [99, 10]) = false ∧ rendL (mchL [97, 10] [98, 10] [99, 10]) = mk 0 ++ [98, 10] ++ mk 1 ++ [97, 10] ++ mk 2 ++ [99, 10] ++ mk 3 := by decide +kernel
theorem sameT (v1 v2 : Value) (l1 l2 : List Ck) (w0 : World) (H0 : Heap) (h1 : RdT H0 fK 4 v1 l1) (h2 : RdT H0 fK 4 v2 l2) (hx1 : ∀ x ∈ l1, CkR (fun _ => True) H0 x) (hx2 : ∀ x ∈ l2, CkR (fun _ => True) H0 x) (e : l1.map Ck.c = l2.map Ck.c) :
    Ct Try.prog w0 14 #[v1, v2] H0 (fun r H2 => r = .bool true ∧ Nw H0 H2) := (sameC_ct v1 v2 l1 l2 w0 H0 h1 h2 hx1 hx2).mono (fun r H2 ⟨q1, q2⟩ => ⟨by rw [q1, decide_eq_true e], q2⟩)
theorem mergeT (v1 v2 v3 : Value) (a o t : List UInt8) (x : List UInt8) (cl : Bool) (w0 : World) (H0 : Heap) (ha : RdT H0 fB 1 v1 a) (ho : RdT H0 fB 1 v2 o) (ht : RdT H0 fB 1 v3 t) (hal : a.length ≤ 1048576) (hol : o.length ≤ 1048576) (htl : t.length ≤ 1048576) (ha2 : (splitL [] a).length ≤ 4000) (ho2 : (splitL [] o).length ≤ 4000) (ht2 : (splitL [] t).length ≤ 4000)
    (hc : cleanL (mchL a o t) = cl) (hx : rendL (mchL a o t) = x) : Ct Try.prog w0 17 #[v1, v2, v3] H0 (fun r H2 => ∃ v k, r = .tuple #[v, .bool cl, .int .i64 0] ∧ Ow k 5 H2 fB 1 v x ∧ Nx 0 H0.size k ∧ Nw H0 H2) := by
  subst hc; subst hx; exact merge_ct v1 v2 v3 a o t w0 H0 ha ho ht hal hol htl ha2 ho2 ht2
theorem short_bd {b : List UInt8} (h : Short b) : b.length ≤ 1048576 ∧ (splitL [] b).length ≤ 4000 := ⟨by have := h.1; omega, by have := h.2.len; omega⟩

set_option maxHeartbeats 4000000 in
theorem known_ct  (w0 : World) (H0 : Heap)
     :
    Ct Try.prog w0 10 #[] H0 (fun r H2 => r = .bool true ∧ Nw H0 H2) := by
  refine Ct.enter (args := []) Try.func10 rfl rfl rfl ?_
  intro Q0 hret
  have hm0 : Nw H0 H0 := Mo.refl _ _
  refine CW.seq (fun K1 hK1 hE1 => ?_)
  refine CW.region ?_
  refine LR.v (Y.assign rfl rfl) (Wd.u rfl) rfl rfl ?_
  refine LR.nil ?_
  refine hK1 _ _ ?_
  refine CW.seq (fun K2 hK2 hE2 => ?_)
  refine CW.region ?_
  refine LR.z (Z.litw _ (kA) rfl inf32 rfl rfl rfl (by decide) (by decide) fB_len fB_one (rfl)) (Wd.u rfl) rfl rfl (fun v8 H8 r8 => ?_)
  obtain ⟨ow8, hs8, ob8, hH8⟩ := r8
  have hzs8 : H8.size = H0.size + 1 := by rw [hH8]; simp
  have nx1 : Nx 0 H0.size (H0.size + 1) := Nx.new hm0.size
  replace hm0 := hm0.tr hs8
  have hz1 := hs8.size
  refine LR.z (Z.bconst ow8 (by decide) rfl Try.underlying32 Try.underlying5 rfl) (Wd.u rfl) rfl rfl (fun v9 H9 r9 => ?_)
  obtain ⟨rfl, ow8, hs9⟩ := r9
  replace hs9 := hs9.md
  replace hm0 := (Mo.trL (ks := []) (hm0.mdn []) hs9 (MIL.cons (MI.app MI.z (nx1) (Nat.le_refl _)) MIL.nil)).nil
  have hz2 := hs9.size
  refine LR.z (Z.litw _ (kO) rfl inf32 rfl rfl rfl (by decide) (by decide) fB_len fB_one (rfl)) (Wd.u rfl) rfl rfl (fun v10 H10 r10 => ?_)
  obtain ⟨ow10, hs10, ob10, hH10⟩ := r10
  have hzs10 : H10.size = H9.size + 1 := by rw [hH10]; simp
  have dj2 : Dj (H0.size + 1) (H9.size + 1) := Dj.new ow8.le
  have nx3 : Nx 0 H0.size (H9.size + 1) := Nx.new hm0.size
  replace ow8 := ow8.nw hs10
  replace hm0 := hm0.tr hs10
  have hz3 := hs10.size
  refine LR.z (Z.bconst ow10 (by decide) rfl Try.underlying32 Try.underlying5 rfl) (Wd.u rfl) rfl rfl (fun v11 H11 r11 => ?_)
  obtain ⟨rfl, ow10, hs11⟩ := r11
  replace hs11 := hs11.md
  replace ow8 := ow8.upL hs11 (DL.cons dj2 DL.nil)
  replace hm0 := (Mo.trL (ks := []) (hm0.mdn []) hs11 (MIL.cons (MI.app MI.z (nx3) (Nat.le_refl _)) MIL.nil)).nil
  have hz4 := hs11.size
  refine LR.z (Z.litw _ (kT) rfl inf32 rfl rfl rfl (by decide) (by decide) fB_len fB_one (rfl)) (Wd.u rfl) rfl rfl (fun v12 H12 r12 => ?_)
  obtain ⟨ow12, hs12, ob12, hH12⟩ := r12
  have hzs12 : H12.size = H11.size + 1 := by rw [hH12]; simp
  have dj4 : Dj (H0.size + 1) (H11.size + 1) := Dj.new ow8.le
  have dj5 : Dj (H9.size + 1) (H11.size + 1) := Dj.new ow10.le
  have nx6 : Nx 0 H0.size (H11.size + 1) := Nx.new hm0.size
  replace ow8 := ow8.nw hs12
  replace ow10 := ow10.nw hs12
  replace hm0 := hm0.tr hs12
  have hz5 := hs12.size
  refine LR.z (Z.bconst ow12 (by decide) rfl Try.underlying32 Try.underlying5 rfl) (Wd.u rfl) rfl rfl (fun v13 H13 r13 => ?_)
  obtain ⟨rfl, ow12, hs13⟩ := r13
  replace hs13 := hs13.md
  replace ow8 := ow8.upL hs13 (DL.cons dj4 DL.nil)
  replace ow10 := ow10.upL hs13 (DL.cons dj5 DL.nil)
  replace hm0 := (Mo.trL (ks := []) (hm0.mdn []) hs13 (MIL.cons (MI.app MI.z (nx6) (Nat.le_refl _)) MIL.nil)).nil
  have hz6 := hs13.size
  -- call selvage/merge3.Merge
  refine LR.call rfl Try.call17 rfl (Wd.u rfl) rfl rfl (mergeT _ _ _ kA kO kT _ _ w0 _ ow8.rd.any ow10.rd.any ow12.rd.any (by decide) (by decide) (by decide) (by decide +kernel) (by decide +kernel) (by decide +kernel) known1.1 known1.2) (fun v14 H14 r14 => ?_)
  obtain ⟨vm, km, rfl, om, hk14, hs14⟩ := r14
  have dj7 : Dj (H0.size + 1) km := Dj.app (Dj.z) ow8.le hk14
  have dj8 : Dj (H9.size + 1) km := Dj.app (Dj.z) ow10.le hk14
  have dj9 : Dj (H11.size + 1) km := Dj.app (Dj.z) ow12.le hk14
  have nx10 : Nx 0 H0.size km := Nx.tr (Nx.refl 0 _) hk14 hm0.size
  replace ow8 := ow8.nw hs14
  replace ow10 := ow10.nw hs14
  replace ow12 := ow12.nw hs14
  replace hm0 := hm0.tr hs14
  have hz7 := hs14.size
  have hle_om := om.le
  refine LR.v (Y.move rfl rfl) (Wd.u rfl) rfl rfl ?_
  refine LR.v (Y.extract rfl rfl rfl) (Wd.u rfl) rfl rfl ?_
  refine LR.v (Y.extract rfl rfl rfl) (Wd.u rfl) rfl rfl ?_
  refine LR.v (Y.extract rfl rfl rfl) (Wd.u rfl) rfl rfl ?_
  refine LR.v (Y.assign rfl rfl) (Wd.u rfl) rfl rfl ?_
  refine LR.v (Y.assign rfl rfl) (Wd.u rfl) rfl rfl ?_
  refine LR.v (Y.assign rfl rfl) (Wd.u rfl) rfl rfl ?_
  refine LR.nil ?_
  refine hK2 _ _ ?_
  refine CW.seq (fun K3 hK3 hE3 => ?_)
  refine CW.region ?_
  refine LR.z (Z.litw _ ([(97 : UInt8), 10]) rfl inf32 rfl rfl rfl (by decide) (by decide) fB_len fB_one (rfl)) (Wd.u rfl) rfl rfl (fun v19 H19 r19 => ?_)
  obtain ⟨ow19, hs19, ob19, hH19⟩ := r19
  have hzs19 : H19.size = H14.size + 1 := by rw [hH19]; simp
  have dj11 : Dj km (H14.size + 1) := Dj.new om.le
  have nx12 : Nx 0 H0.size (H14.size + 1) := Nx.new hm0.size
  replace om := om.nw hs19
  replace hm0 := hm0.tr hs19
  have hz8 := hs19.size
  refine LR.z (Z.bconst ow19 (by decide) rfl Try.underlying32 Try.underlying5 rfl) (Wd.u rfl) rfl rfl (fun v20 H20 r20 => ?_)
  obtain ⟨rfl, ow19, hs20⟩ := r20
  replace hs20 := hs20.md
  replace om := om.upL hs20 (DL.cons dj11 DL.nil)
  replace hm0 := (Mo.trL (ks := []) (hm0.mdn []) hs20 (MIL.cons (MI.app MI.z (nx12) (Nat.le_refl _)) MIL.nil)).nil
  have hz9 := hs20.size
  refine LR.z (Z.litw _ ([(98 : UInt8), 10]) rfl inf32 rfl rfl rfl (by decide) (by decide) fB_len fB_one (rfl)) (Wd.u rfl) rfl rfl (fun v21 H21 r21 => ?_)
  obtain ⟨ow21, hs21, ob21, hH21⟩ := r21
  have hzs21 : H21.size = H20.size + 1 := by rw [hH21]; simp
  have dj13 : Dj km (H20.size + 1) := Dj.new om.le
  have dj14 : Dj (H14.size + 1) (H20.size + 1) := Dj.new ow19.le
  have nx15 : Nx 0 H0.size (H20.size + 1) := Nx.new hm0.size
  replace om := om.nw hs21
  replace ow19 := ow19.nw hs21
  replace hm0 := hm0.tr hs21
  have hz10 := hs21.size
  refine LR.z (Z.bconst ow21 (by decide) rfl Try.underlying32 Try.underlying5 rfl) (Wd.u rfl) rfl rfl (fun v22 H22 r22 => ?_)
  obtain ⟨rfl, ow21, hs22⟩ := r22
  replace hs22 := hs22.md
  replace om := om.upL hs22 (DL.cons dj13 DL.nil)
  replace ow19 := ow19.upL hs22 (DL.cons dj14 DL.nil)
  replace hm0 := (Mo.trL (ks := []) (hm0.mdn []) hs22 (MIL.cons (MI.app MI.z (nx15) (Nat.le_refl _)) MIL.nil)).nil
  have hz11 := hs22.size
  refine LR.z (Z.litw _ ([(99 : UInt8), 10]) rfl inf32 rfl rfl rfl (by decide) (by decide) fB_len fB_one (rfl)) (Wd.u rfl) rfl rfl (fun v23 H23 r23 => ?_)
  obtain ⟨ow23, hs23, ob23, hH23⟩ := r23
  have hzs23 : H23.size = H22.size + 1 := by rw [hH23]; simp
  have dj16 : Dj km (H22.size + 1) := Dj.new om.le
  have dj17 : Dj (H14.size + 1) (H22.size + 1) := Dj.new ow19.le
  have dj18 : Dj (H20.size + 1) (H22.size + 1) := Dj.new ow21.le
  have nx19 : Nx 0 H0.size (H22.size + 1) := Nx.new hm0.size
  replace om := om.nw hs23
  replace ow19 := ow19.nw hs23
  replace ow21 := ow21.nw hs23
  replace hm0 := hm0.tr hs23
  have hz12 := hs23.size
  refine LR.z (Z.bconst ow23 (by decide) rfl Try.underlying32 Try.underlying5 rfl) (Wd.u rfl) rfl rfl (fun v24 H24 r24 => ?_)
  obtain ⟨rfl, ow23, hs24⟩ := r24
  replace hs24 := hs24.md
  replace om := om.upL hs24 (DL.cons dj16 DL.nil)
  replace ow19 := ow19.upL hs24 (DL.cons dj17 DL.nil)
  replace ow21 := ow21.upL hs24 (DL.cons dj18 DL.nil)
  replace hm0 := (Mo.trL (ks := []) (hm0.mdn []) hs24 (MIL.cons (MI.app MI.z (nx19) (Nat.le_refl _)) MIL.nil)).nil
  have hz13 := hs24.size
  -- call selvage/merge3.Merge
  refine LR.call rfl Try.call17 rfl (Wd.u rfl) rfl rfl (mergeT _ _ _ [97, 10] [98, 10] [99, 10] _ _ w0 _ ow19.rd.any ow21.rd.any ow23.rd.any (by decide) (by decide) (by decide) (by decide +kernel) (by decide +kernel) (by decide +kernel) known2.1 known2.2) (fun v25 H25 r25 => ?_)
  obtain ⟨vn, kn, rfl, on, hk25, hs25⟩ := r25
  have dj20 : Dj km kn := Dj.app (Dj.z) om.le hk25
  have dj21 : Dj (H14.size + 1) kn := Dj.app (Dj.z) ow19.le hk25
  have dj22 : Dj (H20.size + 1) kn := Dj.app (Dj.z) ow21.le hk25
  have dj23 : Dj (H22.size + 1) kn := Dj.app (Dj.z) ow23.le hk25
  have nx24 : Nx 0 H0.size kn := Nx.tr (Nx.refl 0 _) hk25 hm0.size
  replace om := om.nw hs25
  replace ow19 := ow19.nw hs25
  replace ow21 := ow21.nw hs25
  replace ow23 := ow23.nw hs25
  replace hm0 := hm0.tr hs25
  have hz14 := hs25.size
  have hle_on := on.le
  refine LR.v (Y.move rfl rfl) (Wd.u rfl) rfl rfl ?_
  refine LR.v (Y.extract rfl rfl rfl) (Wd.u rfl) rfl rfl ?_
  refine LR.v (Y.extract rfl rfl rfl) (Wd.u rfl) rfl rfl ?_
  refine LR.v (Y.extract rfl rfl rfl) (Wd.u rfl) rfl rfl ?_
  refine LR.v (Y.assign rfl rfl) (Wd.u rfl) rfl rfl ?_
  refine LR.v (Y.assign rfl rfl) (Wd.u rfl) rfl rfl ?_
  refine LR.v (Y.assign rfl rfl) (Wd.u rfl) rfl rfl ?_
  refine LR.nil ?_
  refine hK3 _ _ ?_
  refine CW.seq (fun K4 hK4 hE4 => ?_)
  refine CW.region ?_
  refine LR.v (Y.move rfl rfl) (Wd.u rfl) rfl rfl ?_
  refine LR.v ((Y.eql rfl rfl rfl).isT (rfl)) (Wd.u rfl) rfl rfl ?_
  refine LR.v (Y.move rfl rfl) (Wd.u rfl) rfl rfl ?_
  refine LR.v (Y.move rfl rfl) (Wd.g rfl rfl rfl) rfl rfl ?_
  refine LR.v (Y.pick_t rfl rfl rfl) (Wd.u rfl) rfl rfl ?_
  refine LR.v (Y.move rfl rfl) (Wd.u rfl) rfl rfl ?_
  refine LR.v (Y.move rfl rfl) (Wd.g rfl rfl rfl) rfl rfl ?_
  refine LR.v (Y.bstr om.rd rfl Try.underlying32 Try.underlying9 Try.underlying5 rfl) (Wd.g rfl rfl rfl) rfl rfl ?_
  refine LR.v ((Y.seql rfl rfl rfl).isT (rfl)) (Wd.g rfl rfl rfl) rfl rfl ?_
  refine LR.v (Y.pick_t rfl rfl rfl) (Wd.u rfl) rfl rfl ?_
  refine LR.v (Y.move rfl rfl) (Wd.u rfl) rfl rfl ?_
  refine LR.v (Y.move rfl rfl) (Wd.g rfl rfl rfl) rfl rfl ?_
  refine LR.v ((Y.eql rfl rfl rfl).isT (rfl)) (Wd.g rfl rfl rfl) rfl rfl ?_
  refine LR.v (Y.pick_t rfl rfl rfl) (Wd.u rfl) rfl rfl ?_
  refine LR.v (Y.move rfl rfl) (Wd.u rfl) rfl rfl ?_
  refine LR.v (Y.move rfl rfl) (Wd.g rfl rfl rfl) rfl rfl ?_
  refine LR.v (Y.not rfl rfl) (Wd.g rfl rfl rfl) rfl rfl ?_
  refine LR.v (Y.pick_t rfl rfl rfl) (Wd.u rfl) rfl rfl ?_
  refine LR.v (Y.move rfl rfl) (Wd.u rfl) rfl rfl ?_
  refine LR.v (Y.move rfl rfl) (Wd.g rfl rfl rfl) rfl rfl ?_
  refine LR.v (Y.bstr on.rd rfl Try.underlying32 Try.underlying9 Try.underlying5 rfl) (Wd.g rfl rfl rfl) rfl rfl ?_
  refine LR.v ((Y.seql rfl rfl rfl).isT (rfl)) (Wd.g rfl rfl rfl) rfl rfl ?_
  refine LR.v (Y.pick_t rfl rfl rfl) (Wd.u rfl) rfl rfl ?_
  refine LR.v (Y.assign rfl rfl) (Wd.u rfl) rfl rfl ?_
  refine LR.nil ?_
  refine hK4 _ _ ?_
  refine CW.ret (hret .ret (.inr rfl) _ _ _ (res1 rfl rfl) ?_)
  exact ⟨rfl, hm0⟩

set_option maxHeartbeats 8000000 in
theorem mergeChunks_ct (v1 v2 v3 : Value) (a o t : List (List UInt8)) (w0 : World) (H0 : Heap)
    (ha : RdT H0 fS 1 v1 a) (ho : RdT H0 fS 1 v2 o) (ht : RdT H0 fS 1 v3 t) (hal : (∀ s ∈ a, s.length ≤ 1048576) ∧ a.length ≤ 1048576) (hol : (∀ s ∈ o, s.length ≤ 1048576) ∧ o.length ≤ 1048576) (htl : (∀ s ∈ t, s.length ≤ 1048576) ∧ t.length ≤ 1048576) :
    Ct Try.prog w0 3 #[v1, v2, v3] H0 (fun r H2 => r = .bool true ∧ Nw H0 H2) := by
  refine Ct.enter (args := [v1, v2, v3]) Try.func3 rfl rfl rfl ?_
  intro Q0 hret
  have hm0 : Nw H0 H0 := Mo.refl _ _
  replace ha := ha.bnd
  have bf_ha := Rd.bf ha
  replace ho := ho.bnd
  have bf_ho := Rd.bf ho
  replace ht := ht.bnd
  have bf_ht := Rd.bf ht
  refine CW.seq (fun K1 hK1 hE1 => ?_)
  refine CW.region ?_
  refine LR.v (Y.assign rfl rfl) (Wd.u rfl) rfl rfl ?_
  refine LR.nil ?_
  refine hK1 _ _ ?_
  refine CW.seq (fun K2 hK2 hE2 => ?_)
  refine CW.seq (fun K3 hK3 hE3 => ?_)
  refine CW.region ?_
  -- call selvage/selvagelaw14.known
  refine LR.call rfl Try.call10 rfl (Wd.u rfl) rfl rfl (known_ct w0 _) (fun v11 H11 r11 => ?_)
  obtain ⟨rfl, hs11⟩ := r11
  replace ha := ha.nw hs11
  replace ho := ho.nw hs11
  replace ht := ht.nw hs11
  replace hm0 := hm0.tr hs11
  have hz1 := hs11.size
  refine LR.v (Y.not rfl rfl) (Wd.u rfl) rfl rfl ?_
  refine LR.nil ?_
  refine hK3 _ _ ?_
  refine CW.cond_f rfl ?_
  refine CW.skip ?_
  refine hK2 _ _ ?_
  refine CW.seq (fun K4 hK4 hE4 => ?_)
  refine CW.seq (fun K5 hK5 hE5 => ?_)
  refine CW.region ?_
  refine LR.v (Y.move rfl rfl) (Wd.u rfl) rfl rfl ?_
  refine LR.v (Y.move rfl rfl) (Wd.u rfl) rfl rfl ?_
  refine LR.v (Y.move rfl rfl) (Wd.u rfl) rfl rfl ?_
  -- call selvage/selvagelaw14.few
  refine LR.call rfl Try.call11 rfl (Wd.u rfl) rfl rfl (few_ct3 _ _ _ a o t w0 _ ha.any ho.any ht.any hal hol htl) (fun v16 H16 r16 => ?_)
  obtain ⟨rfl, hs16⟩ := r16
  replace ha := ha.nw hs16
  replace ho := ho.nw hs16
  replace ht := ht.nw hs16
  replace hm0 := hm0.tr hs16
  have hz2 := hs16.size
  refine LR.v (Y.notp rfl rfl) (Wd.u rfl) rfl rfl ?_
  refine LR.nil ?_
  refine hK5 _ _ ?_
  refine CW.condp rfl (fun c17 => ?_) (fun c17 => ?_)
  ·
    refine CW.seq (fun K6 hK6 hE6 => ?_)
    refine CW.region ?_
    refine LR.v (Y.assign rfl rfl) (Wd.u rfl) rfl rfl ?_
    refine LR.nil ?_
    refine hK6 _ _ ?_
    refine CW.ret (hE4 .ret nofun _ _ (hret .ret (.inr rfl) _ _ _ (res1 rfl rfl) ?_))
    exact ⟨rfl, hm0⟩
  ·
    obtain ⟨fa, fo, ft⟩ := Decidable.not_not.1 c17
    obtain ⟨fa1, fa2⟩ := Few.flat fa
    obtain ⟨fo1, fo2⟩ := Few.flat fo
    obtain ⟨ft1, ft2⟩ := Few.flat ft
    refine CW.skip ?_
    refine hK4 _ _ ?_
    refine CW.seq (fun K7 hK7 hE7 => ?_)
    refine CW.region ?_
    refine LR.z (Z.litw _ (([] : List (List UInt8))) rfl inf22 rfl rfl rfl (by decide) (by decide) fS_len fS_one (rfl)) (Wd.u rfl) rfl rfl (fun v19 H19 r19 => ?_)
    obtain ⟨owa, hs19, ob19, hH19⟩ := r19
    have hzs19 : H19.size = H16.size + 1 := by rw [hH19]; simp
    have df1 := (DF.new (bf_ha.mono hm0.size) : DF _ (H16.size + 1))
    have df2 := (DF.new (bf_ho.mono hm0.size) : DF _ (H16.size + 1))
    have df3 := (DF.new (bf_ht.mono hm0.size) : DF _ (H16.size + 1))
    have nx4 : Nx 0 H0.size (H16.size + 1) := Nx.new hm0.size
    replace ha := ha.nw hs19
    replace ho := ho.nw hs19
    replace ht := ht.nw hs19
    replace hm0 := hm0.tr hs19
    have hz3 := hs19.size
    refine LR.v (Y.move rfl rfl) (Wd.u rfl) rfl rfl ?_
    refine LR.z (Z.apnd owa ha rfl inf22 rfl rfl (by simp; omega) (by simp; omega)) (Wd.u rfl) rfl rfl (fun v21 H21 r21 => ?_)
    obtain ⟨k21, owa, hk21, hs21⟩ := r21
    replace hk21 : Nx (H16.size + 1) H19.size k21 := hk21
    replace hs21 := hs21.md
    have df5 := DF.app (df1) (bf_ha.mono hm0.size) hk21
    have df6 := DF.app (df2) (bf_ho.mono hm0.size) hk21
    have df7 := DF.app (df3) (bf_ht.mono hm0.size) hk21
    have nx8 : Nx 0 H0.size k21 := Nx.tr (nx4) hk21 hm0.size
    replace ha := ha.upL hs21 (DFL.cons df1 DFL.nil)
    replace ho := ho.upL hs21 (DFL.cons df2 DFL.nil)
    replace ht := ht.upL hs21 (DFL.cons df3 DFL.nil)
    replace hm0 := (Mo.trL (ks := []) (hm0.mdn []) hs21 (MIL.cons (MI.app MI.z (nx4) (Nat.le_refl _)) MIL.nil)).nil
    have hz4 := hs21.size
    have hle_owa := owa.le
    rw [List.nil_append] at owa
    refine LR.v (Y.move rfl rfl) (Wd.u rfl) rfl rfl ?_
    refine LR.v (Y.move rfl rfl) (Wd.u rfl) rfl rfl ?_
    -- call selvage/merge3.Chunks
    refine LR.call rfl Try.call12 rfl (Wd.u rfl) rfl rfl (chunks_ct _ _ _ a o t w0 _ owa.rd.any ho.any ht.any (by omega) (by omega) (by omega)) (fun v24 H24 r24 => ?_)
    obtain ⟨vl, l, rfl, hll, hrl, hxl, hs24⟩ := r24
    replace ha := ha.nw hs24
    replace ho := ho.nw hs24
    replace ht := ht.nw hs24
    replace owa := owa.nw hs24
    replace hm0 := hm0.tr hs24
    have hz5 := hs24.size
    replace hrl := hrl.bnd
    have bf_hrl := Rd.bf hrl
    have df9 : DF (fun b => H21.size ≤ b ∧ b < H24.size) k21 := DF.above (fun b h => h.1) (by first | exact hle_owa | exact hlt_owa | omega)
    replace hxl := fun x hx_ => (hxl x hx_).bnd
    have bf_hxl : BF (fun b => H21.size ≤ b ∧ b < H24.size) H24.size := fun b h => h.2
    have df10 : DF (fun b => H21.size ≤ b ∧ b < H24.size) k21 := DF.above (fun b h => h.1) (by first | exact hle_owa | exact hlt_owa | omega)
    refine LR.v (Y.move rfl rfl) (Wd.u rfl) rfl rfl ?_
    refine LR.v (Y.extract rfl rfl rfl) (Wd.u rfl) rfl rfl ?_
    refine LR.v (Y.extract rfl rfl rfl) (Wd.u rfl) rfl rfl ?_
    refine LR.v (Y.assign rfl rfl) (Wd.u rfl) rfl rfl ?_
    refine LR.v (Y.assign rfl rfl) (Wd.u rfl) rfl rfl ?_
    refine LR.nil ?_
    refine hK7 _ _ ?_
    refine CW.seq (fun K8 hK8 hE8 => ?_)
    refine CW.region ?_
    refine LR.v (Y.move rfl rfl) (Wd.u rfl) rfl rfl ?_
    refine LR.v (Y.move rfl rfl) (Wd.u rfl) rfl rfl ?_
    refine LR.v (Y.move rfl rfl) (Wd.u rfl) rfl rfl ?_
    -- call selvage/selvageref14.Chunks
    refine LR.call rfl Try.call13 rfl (Wd.u rfl) rfl rfl (rchunks_ct _ _ _ a o t w0 _ ha.any ho.any ht.any (by omega) (by omega) (by omega)) (fun v31 H31 r31 => ?_)
    obtain ⟨vm, m, rfl, hlm, hrm, hxm, hs31⟩ := r31
    replace ha := ha.nw hs31
    replace ho := ho.nw hs31
    replace ht := ht.nw hs31
    replace hrl := hrl.nw hs31
    replace hxl := fun x hx_ => (hxl x hx_).nw hs31
    replace hm0 := hm0.tr hs31
    have hz6 := hs31.size
    replace hrm := hrm.bnd
    have bf_hrm := Rd.bf hrm
    replace hxm := fun x hx_ => (hxm x hx_).bnd
    have bf_hxm : BF (fun b => H24.size ≤ b ∧ b < H31.size) H31.size := fun b h => h.2
    refine LR.v (Y.move rfl rfl) (Wd.u rfl) rfl rfl ?_
    refine LR.v (Y.extract rfl rfl rfl) (Wd.u rfl) rfl rfl ?_
    refine LR.v (Y.extract rfl rfl rfl) (Wd.u rfl) rfl rfl ?_
    refine LR.v (Y.assign rfl rfl) (Wd.u rfl) rfl rfl ?_
    refine LR.v (Y.assign rfl rfl) (Wd.u rfl) rfl rfl ?_
    refine LR.nil ?_
    refine hK8 _ _ ?_
    refine CW.seq (fun K9 hK9 hE9 => ?_)
    refine CW.region_any (fun Hq => Nw H31 Hq) [] rfl ?_
    have hqs := Nw.refl H31
    refine LH.take 0 (by kernel_rfl) rfl (by kernel_rfl) (by kernel_rfl) (by kernel_rfl) (fun Hq hq => Y.move rfl rfl) (Wd.u rfl) rfl rfl hqs ?_
    refine LH.take 1 (by kernel_rfl) rfl (by kernel_rfl) (by kernel_rfl) (by kernel_rfl) (fun Hq hq => Y.move rfl rfl) (Wd.u rfl) rfl rfl hqs ?_
    refine LH.one (i := 2) (by kernel_rfl) ?_
    -- call selvage/selvagelaw14.SameChunks
    refine LO.call rfl rfl Try.call14 rfl (Wd.u rfl) rfl rfl (sameT _ _ l m w0 _ hrl.any hrm.any (fun x e => (hxl x e).any) (fun x e => (hxm x e).any) (hll.trans hlm.symm)) (fun v36 H36 r36 => ?_)
    obtain ⟨rfl, hs36⟩ := r36
    replace ha := ha.nw hs36
    replace ho := ho.nw hs36
    replace ht := ht.nw hs36
    replace hrl := hrl.nw hs36
    replace hxl := fun x hx_ => (hxl x hx_).nw hs36
    replace hrm := hrm.nw hs36
    replace hxm := fun x hx_ => (hxm x hx_).nw hs36
    replace hm0 := hm0.tr hs36
    have hz7 := hs36.size
    have hq36 := hqs.tr hs36
    refine ⟨.inr hq36, LH.narrow (SH2 := fun Hq => Nw H36 Hq) (fun Hq hq => hq36.tr hq) ?_⟩
    have hqn36 := Nw.refl H36
    refine LH.take 3 (by kernel_rfl) rfl (by kernel_rfl) (by kernel_rfl) (by kernel_rfl) (fun Hq hq => Y.move rfl rfl) (Wd.u rfl) rfl rfl hqn36 ?_
    refine LH.take 4 (by kernel_rfl) rfl (by kernel_rfl) (by kernel_rfl) (by kernel_rfl) (fun Hq hq => Y.move rfl rfl) (Wd.g rfl rfl rfl) rfl rfl hqn36 ?_
    refine LH.take 5 (by kernel_rfl) rfl (by kernel_rfl) (by kernel_rfl) (by kernel_rfl) (fun Hq hq => Y.move rfl rfl) (Wd.g rfl rfl rfl) rfl rfl hqn36 ?_
    refine LH.take 6 (by kernel_rfl) rfl (by kernel_rfl) (by kernel_rfl) (by kernel_rfl) (fun Hq hq => (Y.eql rfl rfl rfl).isT (rfl)) (Wd.g rfl rfl rfl) rfl rfl hqn36 ?_
    refine LH.take 7 (by kernel_rfl) rfl (by kernel_rfl) (by kernel_rfl) (by kernel_rfl) (fun Hq hq => Y.pick_t rfl rfl rfl) (Wd.u rfl) rfl rfl hqn36 ?_
    refine LH.take 8 (by kernel_rfl) rfl (by kernel_rfl) (by kernel_rfl) (by kernel_rfl) (fun Hq hq => Y.move rfl rfl) (Wd.u rfl) rfl rfl hqn36 ?_
    refine LH.take 9 (by kernel_rfl) rfl (by kernel_rfl) (by kernel_rfl) (by kernel_rfl) (fun Hq hq => Y.move rfl rfl) (Wd.g rfl rfl rfl) rfl rfl hqn36 ?_
    refine LH.take 12 (by kernel_rfl) rfl (by kernel_rfl) (by kernel_rfl) (by kernel_rfl) (fun Hq hq => Y.move rfl rfl) (Wd.g rfl rfl rfl) rfl rfl hqn36 ?_
    refine LH.one (i := 10) (by kernel_rfl) ?_
    -- call selvage/merge3.Render
    refine LO.call rfl rfl Try.call15 rfl (Wd.g rfl rfl rfl) rfl rfl (render_ct _ l w0 _ hrl.any (fun x e => (hxl x e).any) (bd_of hll (chunks_bd (by omega) (by omega) (by omega))) (len_of hll (by omega))) (fun v44 H44 r44 => ?_)
    obtain ⟨v244, kwl, rfl, owl, hk44, hs44⟩ := r44
    have df11 := DF.app (DF.z) (bf_ha.mono hm0.size) hk44
    have df12 := DF.app (DF.z) (bf_ho.mono hm0.size) hk44
    have df13 := DF.app (DF.z) (bf_ht.mono hm0.size) hk44
    have df14 := DF.app (DF.z) (bf_hrl.mono (by omega)) hk44
    have df15 := DF.app (DF.z) (bf_hxl.mono (by omega)) hk44
    have df16 := DF.app (DF.z) (bf_hrm.mono (by omega)) hk44
    have df17 := DF.app (DF.z) (bf_hxm.mono (by omega)) hk44
    have nx18 : Nx 0 H0.size kwl := Nx.tr (Nx.refl 0 _) hk44 hm0.size
    replace ha := ha.nw hs44
    replace ho := ho.nw hs44
    replace ht := ht.nw hs44
    replace hrl := hrl.nw hs44
    replace hxl := fun x hx_ => (hxl x hx_).nw hs44
    replace hrm := hrm.nw hs44
    replace hxm := fun x hx_ => (hxm x hx_).nw hs44
    replace hm0 := hm0.tr hs44
    have hz8 := hs44.size
    have hle_owl := owl.le
    have hq44 := hqn36.tr hs44
    refine ⟨.inr hq44, LH.narrow (SH2 := fun Hq => Nw H44 Hq) (fun Hq hq => hq44.tr hq) ?_⟩
    have hqn44 := Nw.refl H44
    refine LH.take 11 (by kernel_rfl) rfl (by kernel_rfl) (by kernel_rfl) (by kernel_rfl) (fun Hq hq => Y.bstr (owl.rd.nw hq) rfl Try.underlying32 Try.underlying9 Try.underlying5 rfl) (Wd.g rfl rfl rfl) rfl rfl hqn44 ?_
    refine LH.one (i := 13) (by kernel_rfl) ?_
    -- call selvage/selvageref14.Render
    refine LO.call rfl rfl Try.call16 rfl (Wd.g rfl rfl rfl) rfl rfl (rrender_ct _ m w0 _ hrm.any (fun x e => (hxm x e).any) (bd_of hlm (chunks_bd (by omega) (by omega) (by omega))) (len_of hlm (by omega))) (fun v47 H47 r47 => ?_)
    obtain ⟨v247, kwm, rfl, owm, hk47, hs47⟩ := r47
    have df19 := DF.app (DF.z) (bf_ha.mono hm0.size) hk47
    have df20 := DF.app (DF.z) (bf_ho.mono hm0.size) hk47
    have df21 := DF.app (DF.z) (bf_ht.mono hm0.size) hk47
    have df22 := DF.app (DF.z) (bf_hrl.mono (by omega)) hk47
    have df23 := DF.app (DF.z) (bf_hxl.mono (by omega)) hk47
    have df24 := DF.app (DF.z) (bf_hrm.mono (by omega)) hk47
    have df25 := DF.app (DF.z) (bf_hxm.mono (by omega)) hk47
    have dj26 : Dj kwl kwm := Dj.app (Dj.z) owl.le hk47
    have nx27 : Nx 0 H0.size kwm := Nx.tr (Nx.refl 0 _) hk47 hm0.size
    replace ha := ha.nw hs47
    replace ho := ho.nw hs47
    replace ht := ht.nw hs47
    replace hrl := hrl.nw hs47
    replace hxl := fun x hx_ => (hxl x hx_).nw hs47
    replace hrm := hrm.nw hs47
    replace hxm := fun x hx_ => (hxm x hx_).nw hs47
    replace owl := owl.nw hs47
    replace hm0 := hm0.tr hs47
    have hz9 := hs47.size
    have hle_owm := owm.le
    have hq47 := hqn44.tr hs47
    refine ⟨.inr hq47, LH.narrow (SH2 := fun Hq => Nw H47 Hq) (fun Hq hq => hq47.tr hq) ?_⟩
    have hqn47 := Nw.refl H47
    refine LH.take 14 (by kernel_rfl) rfl (by kernel_rfl) (by kernel_rfl) (by kernel_rfl) (fun Hq hq => Y.bstr (owm.rd.nw hq) rfl Try.underlying32 Try.underlying9 Try.underlying5 rfl) (Wd.g rfl rfl rfl) rfl rfl hqn47 ?_
    refine LH.take 15 (by kernel_rfl) rfl (by kernel_rfl) (by kernel_rfl) (by kernel_rfl) (fun Hq hq => (Y.seql rfl rfl rfl).isT (by rw [hll, hlm])) (Wd.g rfl rfl rfl) rfl rfl hqn47 ?_
    refine LH.take 16 (by kernel_rfl) rfl (by kernel_rfl) (by kernel_rfl) (by kernel_rfl) (fun Hq hq => Y.pick_t rfl rfl rfl) (Wd.u rfl) rfl rfl hqn47 ?_
    refine LH.take 17 (by kernel_rfl) rfl (by kernel_rfl) (by kernel_rfl) (by kernel_rfl) (fun Hq hq => Y.assign rfl rfl) (Wd.u rfl) rfl rfl hqn47 ?_
    refine LH.done (by kernel_rfl) ?_
    have hqe := hqn47
    refine hK9 _ _ ?_
    refine CW.ret (hret .ret (.inr rfl) _ _ _ (res1 rfl rfl) ?_)
    exact ⟨rfl, hm0⟩


abbrev turnK (x : Ck) : Ck := ⟨swk x.k, x.b, x.t, x.o, x.vb, x.vt, x.vo⟩
theorem turn_c (l : List Ck) : (l.map turnK).map Ck.c = (l.map Ck.c).map swC := by simp [swC, Function.comp_def]
theorem turn_x {F : Nat → Prop} {H : Heap} {l : List Ck} (h : ∀ x ∈ l, CkR F H x) : ∀ x ∈ l.map turnK, CkR F H x := by
  intro y hy
  obtain ⟨x, hx, rfl⟩ := List.mem_map.1 hy
  have := h x hx
  exact ⟨this.b, this.t, this.o⟩
theorem turn_snoc {l : List Ck} {i : Nat} (h : i < l.length) : (l.take (i + 1)).map turnK = (l.take i).map turnK ++ [turnK l[i]] := by
  rw [List.take_succ_eq_append_getElem h, List.map_append]; rfl

set_option maxHeartbeats 4000000 in
theorem turned_ct (v : Value) (l : List Ck) (w0 : World) (H0 : Heap)
    (hl : RdT H0 fK 4 v l) (hll : l.length ≤ 1048576) :
    Ct Try.prog w0 19 #[v] H0 (fun r H2 => ∃ v2 : Value, r = v2 ∧ (Rd (fun b => H0.size ≤ b) H2 fK 4 v2 (l.map turnK)) ∧ Nw H0 H2) := by
  refine Ct.enter (args := [v]) Try.func19 rfl rfl rfl ?_
  intro Q0 hret
  have hm0 : Nw H0 H0 := Mo.refl _ _
  replace hl := hl.bnd
  have bf_hl := Rd.bf hl
  refine CW.seq (fun K1 hK1 hE1 => ?_)
  refine CW.region ?_
  refine LR.v (Y.assign rfl rfl) (Wd.u rfl) rfl rfl ?_
  refine LR.nil ?_
  refine hK1 _ _ ?_
  refine CW.seq (fun K2 hK2 hE2 => ?_)
  refine CW.region ?_
  refine LR.v (Y.assign rfl rfl) (Wd.u rfl) rfl rfl ?_
  refine LR.nil ?_
  refine hK2 _ _ ?_
  refine CW.seq (fun K3 hK3 hE3 => ?_)
  refine CW.seq (fun K4 hK4 hE4 => ?_)
  refine CW.region ?_
  refine LR.v (Y.assign rfl rfl) (Wd.u rfl) rfl rfl ?_
  refine LR.nil ?_
  refine hK4 _ _ ?_
  refine CW.block (fun K5 hK5 hX5 hE5 => ?_)
  refine CW.loop (fun (s_ : (Nat) × (Value) × (Nat)) => match s_ with | (i, vo, ko) => [(0, v), (3, vo), (4, .int .i64 i)])
    (fun (s_ : (Nat) × (Value) × (Nat)) (H : Heap) => match s_ with | (i, vo, ko) => (i ≤ l.length) ∧ (Ow ko 42 H fK 4 vo ((l.take i).map turnK)) ∧ (Nx 0 H0.size ko) ∧ Nw H0 H)
    (fun (s_ : (Nat) × (Value) × (Nat)) => match s_ with | (i, vo, ko) => l.length - i) (0, .slice none 0 0, 0) ⟨rfl, rfl, rfl, trivial⟩ ?_ ?_
  ·
    exact ⟨(by omega), Ow.nil fK_len fK_one, Nx.refl _ _, Mo.refl _ _⟩
  rintro ⟨i, vo, ko⟩ HL1 hI1 K6 hN6 hE6
  obtain ⟨hi, ow, nxl_ow, hlm1⟩ := hI1
  have df1 := DF.app (DF.z) (bf_hl.mono hm0.size) nxl_ow
  have nx2 : Nx 0 H0.size ko := Nx.tr (Nx.refl 0 _) nxl_ow hm0.size
  replace hl := hl.nw hlm1
  replace hm0 := hm0.tr hlm1
  have hz1 := hlm1.size
  have hle_ow := ow.le
  have nx3 := nxl_ow
  refine CW.seq (fun K7 hK7 hE7 => ?_)
  refine CW.seq (fun K8 hK8 hE8 => ?_)
  refine CW.region ?_
  refine LR.v (Y.move rfl rfl) (Wd.u rfl) rfl rfl ?_
  refine LR.v (Y.move rfl rfl) (Wd.u rfl) rfl rfl ?_
  refine LR.v (Y.len hl rfl Try.runUnderlying25 rfl) (Wd.u rfl) rfl rfl ?_
  refine LR.v (Y.lss rfl rfl rfl) (Wd.u rfl) rfl rfl ?_
  refine LR.nil ?_
  refine hK8 _ _ ?_
  refine CW.condp rfl (fun c9 => ?_) (fun c9 => ?_)
  ·
    refine CW.skip ?_
    refine hK7 _ _ ?_
    refine CW.seq (fun K9 hK9 hE9 => ?_)
    refine CW.block (fun K10 hK10 hX10 hE10 => ?_)
    refine CW.seq (fun K11 hK11 hE11 => ?_)
    refine CW.region_any (fun Hq => Nw HL1 Hq) [22] rfl ?_
    have hqs := Nw.refl HL1
    refine LH.take 0 (by kernel_rfl) rfl (by kernel_rfl) (by kernel_rfl) (by kernel_rfl) (fun Hq hq => Y.move rfl rfl) (Wd.u rfl) rfl rfl hqs ?_
    refine LH.take 1 (by kernel_rfl) rfl (by kernel_rfl) (by kernel_rfl) (by kernel_rfl) (fun Hq hq => Y.move rfl rfl) (Wd.u rfl) rfl rfl hqs ?_
    refine LH.e (g := fun ad => .pointer (some ad)) 2 (by kernel_rfl) rfl (by kernel_rfl) (by kernel_rfl) (by kernel_rfl) (Y.indexAddrF hl (i) rfl Try.runUnderlying25 Try.sizeOf42 rfl rfl (by first | rfl | omega) (by first | omega | (simp; omega) | (simp; done))) (Wd.u rfl) rfl rfl hqs (fun ad14 pt14 => ?_)
    have bf_pt14 := bf_hl
    refine LH.take 3 (by kernel_rfl) rfl (by kernel_rfl) (by kernel_rfl) (by kernel_rfl) (fun Hq hq => Y.fieldAddr (pt14.pt.nw hq) rfl Try.runUnderlying42 rfl rfl Try.sizeOf3 (by decide) rfl) (Wd.u rfl) rfl rfl hqs ?_
    refine LH.take 4 (by kernel_rfl) rfl (by kernel_rfl) (by kernel_rfl) (by kernel_rfl) (fun Hq hq => Y.load1 ((pt14.pt.drop 0).nw hq) rfl Try.isAgg3 rfl) (Wd.u rfl) rfl rfl hqs ?_
    refine LH.take 5 (by kernel_rfl) rfl (by kernel_rfl) (by kernel_rfl) (by kernel_rfl) (fun Hq hq => Y.move rfl rfl) (Wd.u rfl) rfl rfl hqs ?_
    refine LH.take 6 (by kernel_rfl) rfl (by kernel_rfl) (by kernel_rfl) (by kernel_rfl) (fun Hq hq => Y.move rfl rfl) (Wd.u rfl) rfl rfl hqs ?_
    refine LH.e (g := fun ad => .pointer (some ad)) 7 (by kernel_rfl) rfl (by kernel_rfl) (by kernel_rfl) (by kernel_rfl) (Y.indexAddrF hl (i) rfl Try.runUnderlying25 Try.sizeOf42 rfl rfl (by first | rfl | omega) (by first | omega | (simp; omega) | (simp; done))) (Wd.u rfl) rfl rfl hqs (fun ad19 pt19 => ?_)
    have bf_pt19 := bf_hl
    refine LH.take 8 (by kernel_rfl) rfl (by kernel_rfl) (by kernel_rfl) (by kernel_rfl) (fun Hq hq => Y.fieldAddr (pt19.pt.nw hq) rfl Try.runUnderlying42 rfl rfl Try.sizeOf22 (by decide) rfl) (Wd.u rfl) rfl rfl hqs ?_
    refine LH.take 9 (by kernel_rfl) rfl (by kernel_rfl) (by kernel_rfl) (by kernel_rfl) (fun Hq hq => Y.load1 ((pt19.pt.drop 1).nw hq) rfl Try.isAgg22 rfl) (Wd.u rfl) rfl rfl hqs ?_
    refine LH.take 10 (by kernel_rfl) rfl (by kernel_rfl) (by kernel_rfl) (by kernel_rfl) (fun Hq hq => Y.move rfl rfl) (Wd.u rfl) rfl rfl hqs ?_
    refine LH.take 11 (by kernel_rfl) rfl (by kernel_rfl) (by kernel_rfl) (by kernel_rfl) (fun Hq hq => Y.move rfl rfl) (Wd.u rfl) rfl rfl hqs ?_
    refine LH.e (g := fun ad => .pointer (some ad)) 12 (by kernel_rfl) rfl (by kernel_rfl) (by kernel_rfl) (by kernel_rfl) (Y.indexAddrF hl (i) rfl Try.runUnderlying25 Try.sizeOf42 rfl rfl (by first | rfl | omega) (by first | omega | (simp; omega) | (simp; done))) (Wd.u rfl) rfl rfl hqs (fun ad24 pt24 => ?_)
    have bf_pt24 := bf_hl
    refine LH.take 13 (by kernel_rfl) rfl (by kernel_rfl) (by kernel_rfl) (by kernel_rfl) (fun Hq hq => Y.fieldAddr (pt24.pt.nw hq) rfl Try.runUnderlying42 rfl rfl Try.sizeOf22 (by decide) rfl) (Wd.u rfl) rfl rfl hqs ?_
    refine LH.take 14 (by kernel_rfl) rfl (by kernel_rfl) (by kernel_rfl) (by kernel_rfl) (fun Hq hq => Y.load1 ((pt24.pt.drop 3).nw hq) rfl Try.isAgg22 rfl) (Wd.u rfl) rfl rfl hqs ?_
    refine LH.take 15 (by kernel_rfl) rfl (by kernel_rfl) (by kernel_rfl) (by kernel_rfl) (fun Hq hq => Y.move rfl rfl) (Wd.u rfl) rfl rfl hqs ?_
    refine LH.take 16 (by kernel_rfl) rfl (by kernel_rfl) (by kernel_rfl) (by kernel_rfl) (fun Hq hq => Y.move rfl rfl) (Wd.u rfl) rfl rfl hqs ?_
    refine LH.e (g := fun ad => .pointer (some ad)) 17 (by kernel_rfl) rfl (by kernel_rfl) (by kernel_rfl) (by kernel_rfl) (Y.indexAddrF hl (i) rfl Try.runUnderlying25 Try.sizeOf42 rfl rfl (by first | rfl | omega) (by first | omega | (simp; omega) | (simp; done))) (Wd.u rfl) rfl rfl hqs (fun ad29 pt29 => ?_)
    have bf_pt29 := bf_hl
    refine LH.take 18 (by kernel_rfl) rfl (by kernel_rfl) (by kernel_rfl) (by kernel_rfl) (fun Hq hq => Y.fieldAddr (pt29.pt.nw hq) rfl Try.runUnderlying42 rfl rfl Try.sizeOf22 (by decide) rfl) (Wd.u rfl) rfl rfl hqs ?_
    refine LH.take 19 (by kernel_rfl) rfl (by kernel_rfl) (by kernel_rfl) (by kernel_rfl) (fun Hq hq => Y.load1 ((pt29.pt.drop 2).nw hq) rfl Try.isAgg22 rfl) (Wd.u rfl) rfl rfl hqs ?_
    refine LH.take 20 (by kernel_rfl) rfl (by kernel_rfl) (by kernel_rfl) (by kernel_rfl) (fun Hq hq => Y.build (v := .agg #[.int .i64 l[i].k, l[i].vb.v, l[i].vt.v, l[i].vo.v]) rfl rfl (by intro w; kernel_rfl)) (Wd.u rfl) rfl rfl hqs ?_
    refine LH.one (i := 21) (by kernel_rfl) ?_
    refine LO.z rfl (Z.allocv rfl Try.zeroValue42) (Wd.u rfl) rfl rfl (fun v5 H5 r5 => ?_)
    obtain ⟨rfl, hc, hs5, ob5, hH5⟩ := r5
    have hzs5 : H5.size = HL1.size + 1 := by rw [hH5]; simp
    have df4 := (DF.new (bf_hl.mono hm0.size) : DF _ (HL1.size + 1))
    have dj5 : Dj ko (HL1.size + 1) := Dj.new ow.le
    have df6 := (DF.new (bf_pt14.mono hm0.size) : DF _ (HL1.size + 1))
    have df7 := (DF.new (bf_pt19.mono hm0.size) : DF _ (HL1.size + 1))
    have df8 := (DF.new (bf_pt24.mono hm0.size) : DF _ (HL1.size + 1))
    have df9 := (DF.new (bf_pt29.mono hm0.size) : DF _ (HL1.size + 1))
    have nx10 : Nx 0 H0.size (HL1.size + 1) := Nx.new hm0.size
    have nx11 : Nx 0 H0.size (HL1.size + 1) := Nx.new hlm1.size
    replace hl := hl.nw hs5
    replace ow := ow.nw hs5
    replace pt14 := pt14.nw hs5
    replace pt19 := pt19.nw hs5
    replace pt24 := pt24.nw hs5
    replace pt29 := pt29.nw hs5
    replace hm0 := hm0.tr hs5
    replace hlm1 := hlm1.tr hs5
    have hz2 := hs5.size
    have hq5 := hqs.tr hs5
    refine ⟨.inr hq5, LH.narrow (SH2 := fun Hq => Nw H5 Hq) (fun Hq hq => hq5.tr hq) ?_⟩
    have hqn5 := Nw.refl H5
    refine LH.one (i := 22) (by kernel_rfl) ?_
    refine LO.s rfl (S.var hc (_) ([.int .i64 (l[i].k), l[i].vb.v, l[i].vt.v, l[i].vo.v]) rfl rfl rfl rfl (fK_one ⟨l[i].k, l[i].b, l[i].t, l[i].o, l[i].vb, l[i].vt, l[i].vo⟩) Try.sizeOf42 (rfl) (Nat.le_of_ble_eq_true rfl) (rfl)) (Wd.u rfl) rfl (fun H5_22 r5_22 => ?_)
    obtain ⟨hc, hs5_22⟩ := r5_22
    replace hs5_22 := hs5_22.md1
    replace hl := hl.upL hs5_22 (DFL.cons df4 DFL.nil)
    replace ow := ow.upL hs5_22 (DL.cons dj5 DL.nil)
    replace pt14 := pt14.upL hs5_22 (DFL.cons df6 DFL.nil)
    replace pt19 := pt19.upL hs5_22 (DFL.cons df7 DFL.nil)
    replace pt24 := pt24.upL hs5_22 (DFL.cons df8 DFL.nil)
    replace pt29 := pt29.upL hs5_22 (DFL.cons df9 DFL.nil)
    replace hm0 := (Mo.trL (ks := []) (hm0.mdn []) hs5_22 (MIL.cons (MI.app MI.z (nx10) (Nat.le_refl _)) MIL.nil)).nil
    replace hlm1 := (Mo.trL (ks := []) (hlm1.mdn []) hs5_22 (MIL.cons (MI.app MI.z (nx11) (Nat.le_refl _)) MIL.nil)).nil
    have hz3 := hs5_22.size
    refine ⟨.inl rfl, ?_⟩
    refine LH.done (by kernel_rfl) ?_
    have hqe := hqn5
    refine hK11 _ _ ?_
    refine CW.seq (fun K12 hK12 hE12 => ?_)
    refine CW.seq (fun K13 hK13 hE13 => ?_)
    refine CW.region ?_
    refine LR.v (Y.fieldAddr hc.pt rfl Try.runUnderlying42 rfl rfl Try.sizeOf3 (by decide) rfl) (Wd.u rfl) rfl rfl ?_
    refine LR.v (Y.load1 hc.pt rfl Try.isAgg3 rfl) (Wd.u rfl) rfl rfl ?_
    refine LR.v (Y.eql rfl rfl rfl) (Wd.u rfl) rfl rfl ?_
    refine LR.nil ?_
    refine hK13 _ _ ?_
    refine CW.condp rfl (fun c35 => ?_) (fun c35 => ?_)
    ·
      refine CW.region ?_
      refine LR.v (Y.fieldAddr hc.pt rfl Try.runUnderlying42 rfl rfl Try.sizeOf3 (by decide) rfl) (Wd.u rfl) rfl rfl ?_
      have hsw : swk l[i].k = 2 := by unfold swk; rw [if_pos c35]
      refine LR.s (S.var1 hc 0 ([.int .i64 (swk l[i].k), l[i].vb.v, l[i].vt.v, l[i].vo.v]) rfl rfl rfl (rfl) Try.sizeOf3 (by simp) (by rw [hsw]; rfl)) (Wd.u rfl) rfl (fun H7_1 r7_1 => ?_)
      obtain ⟨hc, hs7_1⟩ := r7_1
      replace hs7_1 := hs7_1.md1
      replace hl := hl.upL hs7_1 (DFL.cons df4 DFL.nil)
      replace ow := ow.upL hs7_1 (DL.cons dj5 DL.nil)
      replace hm0 := (Mo.trL (ks := []) (hm0.mdn []) hs7_1 (MIL.cons (MI.app MI.z (nx10) (Nat.le_refl _)) MIL.nil)).nil
      replace hlm1 := (Mo.trL (ks := []) (hlm1.mdn []) hs7_1 (MIL.cons (MI.app MI.z (nx11) (Nat.le_refl _)) MIL.nil)).nil
      have hz4 := hs7_1.size
      refine LR.nil ?_
      refine hK12 _ _ ?_
      refine CW.region ?_
      refine LR.v (Y.move rfl rfl) (Wd.u rfl) rfl rfl ?_
      refine LR.v (Y.loadN hc.pt rfl Try.isAgg42 Try.sizeOf42 (rfl) rfl) (Wd.u rfl) rfl rfl ?_
      refine LR.z (Z.litw _ ([turnK l[i]]) rfl inf25 rfl rfl rfl (by decide) (by decide) fK_len fK_one (rfl)) (Wd.u rfl) rfl rfl (fun v43 H43 r43 => ?_)
      obtain ⟨nw43, hs43, ob43, hH43⟩ := r43
      have hzs43 : H43.size = H7_1.size + 1 := by rw [hH43]; simp
      have df12 := (DF.new (bf_hl.mono hm0.size) : DF _ (H7_1.size + 1))
      have dj13 : Dj ko (H7_1.size + 1) := Dj.new ow.le
      have dj14 : Dj (HL1.size + 1) (H7_1.size + 1) := Dj.new hc.lt
      have nx15 : Nx 0 H0.size (H7_1.size + 1) := Nx.new hm0.size
      have nx16 : Nx 0 H0.size (H7_1.size + 1) := Nx.new hlm1.size
      replace hl := hl.nw hs43
      replace ow := ow.nw hs43
      replace hc := hc.nw hs43
      replace hm0 := hm0.tr hs43
      replace hlm1 := hlm1.tr hs43
      have hz5 := hs43.size
      refine LR.z (Z.apnd ow nw43.rd rfl inf25 rfl rfl (by simp; omega) (by simp; omega)) (Wd.u rfl) rfl rfl (fun v44 H44 r44 => ?_)
      obtain ⟨k44, ow, hk44, hs44⟩ := r44
      replace hk44 : Nx ko H43.size k44 := hk44
      replace hs44 := hs44.md
      have df17 := DF.app (df1) (bf_hl.mono hm0.size) hk44
      have dj18 : Dj (HL1.size + 1) k44 := Dj.app (dj5.symm) hc.lt hk44
      have dj19 : Dj (H7_1.size + 1) k44 := Dj.app (dj13.symm) nw43.le hk44
      have nx20 : Nx 0 H0.size k44 := Nx.tr (nx2) hk44 hm0.size
      have nx21 : Nx 0 H0.size k44 := Nx.tr (nx3) hk44 hlm1.size
      replace hl := hl.upL hs44 (DFL.cons df1 DFL.nil)
      replace hc := hc.upL hs44 (DL.cons dj5.symm DL.nil)
      replace nw43 := nw43.upL hs44 (DL.cons dj13.symm DL.nil)
      replace hm0 := (Mo.trL (ks := []) (hm0.mdn []) hs44 (MIL.cons (MI.app MI.z (nx2) (Nat.le_refl _)) MIL.nil)).nil
      replace hlm1 := (Mo.trL (ks := []) (hlm1.mdn []) hs44 (MIL.cons (MI.app MI.z (nx3) (Nat.le_refl _)) MIL.nil)).nil
      have hz6 := hs44.size
      have hle_ow := ow.le
      refine LR.v (Y.assign rfl rfl) (Wd.u rfl) rfl rfl ?_
      refine LR.nil ?_
      refine hK10 _ _ ?_
      refine hK9 _ _ ?_
      refine CW.region ?_
      refine LR.v (Y.move rfl rfl) (Wd.u rfl) rfl rfl ?_
      refine LR.v (Y.addi rfl rfl rfl (by omega)) (Wd.u rfl) rfl rfl ?_
      refine LR.v (Y.assign rfl rfl) (Wd.u rfl) rfl rfl ?_
      refine LR.nil ?_
      refine QN.sub (hN6 (i + 1, v44, k44) _ ?_ ?_) ⟨rfl, rfl, (iv (by omega)), trivial⟩
      · exact ⟨(by omega), by rw [turn_snoc (by omega)]; exact ow, nx21, hlm1⟩
      · first | omega | (simp only; omega) | (simp; omega)
    ·
      refine CW.seq (fun K14 hK14 hE14 => ?_)
      refine CW.region ?_
      refine LR.v (Y.fieldAddr hc.pt rfl Try.runUnderlying42 rfl rfl Try.sizeOf3 (by decide) rfl) (Wd.u rfl) rfl rfl ?_
      refine LR.v (Y.load1 hc.pt rfl Try.isAgg3 rfl) (Wd.u rfl) rfl rfl ?_
      refine LR.v (Y.eql rfl rfl rfl) (Wd.u rfl) rfl rfl ?_
      refine LR.nil ?_
      refine hK14 _ _ ?_
      refine CW.condp rfl (fun c39 => ?_) (fun c39 => ?_)
      ·
        refine CW.region ?_
        refine LR.v (Y.fieldAddr hc.pt rfl Try.runUnderlying42 rfl rfl Try.sizeOf3 (by decide) rfl) (Wd.u rfl) rfl rfl ?_
        have hsw : swk l[i].k = 1 := by unfold swk; rw [if_neg c35, if_pos c39]
        refine LR.s (S.var1 hc 0 ([.int .i64 (swk l[i].k), l[i].vb.v, l[i].vt.v, l[i].vo.v]) rfl rfl rfl (rfl) Try.sizeOf3 (by simp) (by rw [hsw]; rfl)) (Wd.u rfl) rfl (fun H9_1 r9_1 => ?_)
        obtain ⟨hc, hs9_1⟩ := r9_1
        replace hs9_1 := hs9_1.md1
        replace hl := hl.upL hs9_1 (DFL.cons df4 DFL.nil)
        replace ow := ow.upL hs9_1 (DL.cons dj5 DL.nil)
        replace hm0 := (Mo.trL (ks := []) (hm0.mdn []) hs9_1 (MIL.cons (MI.app MI.z (nx10) (Nat.le_refl _)) MIL.nil)).nil
        replace hlm1 := (Mo.trL (ks := []) (hlm1.mdn []) hs9_1 (MIL.cons (MI.app MI.z (nx11) (Nat.le_refl _)) MIL.nil)).nil
        have hz7 := hs9_1.size
        refine LR.nil ?_
        refine hK12 _ _ ?_
        refine CW.region ?_
        refine LR.v (Y.move rfl rfl) (Wd.u rfl) rfl rfl ?_
        refine LR.v (Y.loadN hc.pt rfl Try.isAgg42 Try.sizeOf42 (rfl) rfl) (Wd.u rfl) rfl rfl ?_
        refine LR.z (Z.litw _ ([turnK l[i]]) rfl inf25 rfl rfl rfl (by decide) (by decide) fK_len fK_one (rfl)) (Wd.u rfl) rfl rfl (fun v43 H43 r43 => ?_)
        obtain ⟨nw43, hs43, ob43, hH43⟩ := r43
        have hzs43 : H43.size = H9_1.size + 1 := by rw [hH43]; simp
        have df22 := (DF.new (bf_hl.mono hm0.size) : DF _ (H9_1.size + 1))
        have dj23 : Dj ko (H9_1.size + 1) := Dj.new ow.le
        have dj24 : Dj (HL1.size + 1) (H9_1.size + 1) := Dj.new hc.lt
        have nx25 : Nx 0 H0.size (H9_1.size + 1) := Nx.new hm0.size
        have nx26 : Nx 0 H0.size (H9_1.size + 1) := Nx.new hlm1.size
        replace hl := hl.nw hs43
        replace ow := ow.nw hs43
        replace hc := hc.nw hs43
        replace hm0 := hm0.tr hs43
        replace hlm1 := hlm1.tr hs43
        have hz8 := hs43.size
        refine LR.z (Z.apnd ow nw43.rd rfl inf25 rfl rfl (by simp; omega) (by simp; omega)) (Wd.u rfl) rfl rfl (fun v44 H44 r44 => ?_)
        obtain ⟨k44, ow, hk44, hs44⟩ := r44
        replace hk44 : Nx ko H43.size k44 := hk44
        replace hs44 := hs44.md
        have df27 := DF.app (df1) (bf_hl.mono hm0.size) hk44
        have dj28 : Dj (HL1.size + 1) k44 := Dj.app (dj5.symm) hc.lt hk44
        have dj29 : Dj (H9_1.size + 1) k44 := Dj.app (dj23.symm) nw43.le hk44
        have nx30 : Nx 0 H0.size k44 := Nx.tr (nx2) hk44 hm0.size
        have nx31 : Nx 0 H0.size k44 := Nx.tr (nx3) hk44 hlm1.size
        replace hl := hl.upL hs44 (DFL.cons df1 DFL.nil)
        replace hc := hc.upL hs44 (DL.cons dj5.symm DL.nil)
        replace nw43 := nw43.upL hs44 (DL.cons dj23.symm DL.nil)
        replace hm0 := (Mo.trL (ks := []) (hm0.mdn []) hs44 (MIL.cons (MI.app MI.z (nx2) (Nat.le_refl _)) MIL.nil)).nil
        replace hlm1 := (Mo.trL (ks := []) (hlm1.mdn []) hs44 (MIL.cons (MI.app MI.z (nx3) (Nat.le_refl _)) MIL.nil)).nil
        have hz9 := hs44.size
        have hle_ow := ow.le
        refine LR.v (Y.assign rfl rfl) (Wd.u rfl) rfl rfl ?_
        refine LR.nil ?_
        refine hK10 _ _ ?_
        refine hK9 _ _ ?_
        refine CW.region ?_
        refine LR.v (Y.move rfl rfl) (Wd.u rfl) rfl rfl ?_
        refine LR.v (Y.addi rfl rfl rfl (by omega)) (Wd.u rfl) rfl rfl ?_
        refine LR.v (Y.assign rfl rfl) (Wd.u rfl) rfl rfl ?_
        refine LR.nil ?_
        refine QN.sub (hN6 (i + 1, v44, k44) _ ?_ ?_) ⟨rfl, rfl, (iv (by omega)), trivial⟩
        · exact ⟨(by omega), by rw [turn_snoc (by omega)]; exact ow, nx31, hlm1⟩
        · first | omega | (simp only; omega) | (simp; omega)
      ·
        have hsw : swk l[i].k = l[i].k := by unfold swk; rw [if_neg c35, if_neg c39]
        rw [← hsw] at hc
        refine CW.skip ?_
        refine hK12 _ _ ?_
        refine CW.region ?_
        refine LR.v (Y.move rfl rfl) (Wd.u rfl) rfl rfl ?_
        refine LR.v (Y.loadN hc.pt rfl Try.isAgg42 Try.sizeOf42 (rfl) rfl) (Wd.u rfl) rfl rfl ?_
        refine LR.z (Z.litw _ ([turnK l[i]]) rfl inf25 rfl rfl rfl (by decide) (by decide) fK_len fK_one (rfl)) (Wd.u rfl) rfl rfl (fun v43 H43 r43 => ?_)
        obtain ⟨nw43, hs43, ob43, hH43⟩ := r43
        have hzs43 : H43.size = H5_22.size + 1 := by rw [hH43]; simp
        have df32 := (DF.new (bf_hl.mono hm0.size) : DF _ (H5_22.size + 1))
        have dj33 : Dj ko (H5_22.size + 1) := Dj.new ow.le
        have dj34 : Dj (HL1.size + 1) (H5_22.size + 1) := Dj.new hc.lt
        have nx35 : Nx 0 H0.size (H5_22.size + 1) := Nx.new hm0.size
        have nx36 : Nx 0 H0.size (H5_22.size + 1) := Nx.new hlm1.size
        replace hl := hl.nw hs43
        replace ow := ow.nw hs43
        replace hc := hc.nw hs43
        replace hm0 := hm0.tr hs43
        replace hlm1 := hlm1.tr hs43
        have hz10 := hs43.size
        refine LR.z (Z.apnd ow nw43.rd rfl inf25 rfl rfl (by simp; omega) (by simp; omega)) (Wd.u rfl) rfl rfl (fun v44 H44 r44 => ?_)
        obtain ⟨k44, ow, hk44, hs44⟩ := r44
        replace hk44 : Nx ko H43.size k44 := hk44
        replace hs44 := hs44.md
        have df37 := DF.app (df1) (bf_hl.mono hm0.size) hk44
        have dj38 : Dj (HL1.size + 1) k44 := Dj.app (dj5.symm) hc.lt hk44
        have dj39 : Dj (H5_22.size + 1) k44 := Dj.app (dj33.symm) nw43.le hk44
        have nx40 : Nx 0 H0.size k44 := Nx.tr (nx2) hk44 hm0.size
        have nx41 : Nx 0 H0.size k44 := Nx.tr (nx3) hk44 hlm1.size
        replace hl := hl.upL hs44 (DFL.cons df1 DFL.nil)
        replace hc := hc.upL hs44 (DL.cons dj5.symm DL.nil)
        replace nw43 := nw43.upL hs44 (DL.cons dj33.symm DL.nil)
        replace hm0 := (Mo.trL (ks := []) (hm0.mdn []) hs44 (MIL.cons (MI.app MI.z (nx2) (Nat.le_refl _)) MIL.nil)).nil
        replace hlm1 := (Mo.trL (ks := []) (hlm1.mdn []) hs44 (MIL.cons (MI.app MI.z (nx3) (Nat.le_refl _)) MIL.nil)).nil
        have hz11 := hs44.size
        have hle_ow := ow.le
        refine LR.v (Y.assign rfl rfl) (Wd.u rfl) rfl rfl ?_
        refine LR.nil ?_
        refine hK10 _ _ ?_
        refine hK9 _ _ ?_
        refine CW.region ?_
        refine LR.v (Y.move rfl rfl) (Wd.u rfl) rfl rfl ?_
        refine LR.v (Y.addi rfl rfl rfl (by omega)) (Wd.u rfl) rfl rfl ?_
        refine LR.v (Y.assign rfl rfl) (Wd.u rfl) rfl rfl ?_
        refine LR.nil ?_
        refine QN.sub (hN6 (i + 1, v44, k44) _ ?_ ?_) ⟨rfl, rfl, (iv (by omega)), trivial⟩
        · exact ⟨(by omega), by rw [turn_snoc (by omega)]; exact ow, nx41, hlm1⟩
        · first | omega | (simp only; omega) | (simp; omega)
  ·
    refine CW.exit (hE7 (.exit 0) nofun _ _ (hE6 (.exit 0) nofun _ _ (hX5 _ _ ?_)))
    refine hK3 _ _ ?_
    refine CW.seq (fun K15 hK15 hE15 => ?_)
    refine CW.region ?_
    refine LR.v (Y.move rfl rfl) (Wd.u rfl) rfl rfl ?_
    refine LR.v (Y.assign rfl rfl) (Wd.u rfl) rfl rfl ?_
    refine LR.nil ?_
    refine hK15 _ _ ?_
    refine CW.ret (hret .ret (.inr rfl) _ _ _ (res1 rfl rfl) ?_)
    obtain rfl : i = l.length := by omega
    rw [List.take_length] at ow
    exact ⟨vo, rfl, ow.rd.imp (fun b _ e => by have := (nx2); unfold Nx at this; omega), hm0⟩


theorem flat_few {l : List (List UInt8)} (h : l.flatten.length ≤ 2400) : (splitL [] l.flatten).length ≤ 4000 := by
  have := splitL_len l.flatten []
  simp only [List.length_nil] at this
  omega
theorem mch_sw (a o t : List UInt8) : mchL a t o = (mchL a o t).map swC := chunks_sw _ _ _
theorem mch_good (a o t : List UInt8) : ∀ c ∈ mchL a o t, GoodC c := chunks_good _ _ _

set_option maxHeartbeats 8000000 in
theorem mergeSides_ct (v1 v2 v3 : Value) (a o t : List (List UInt8)) (w0 : World) (H0 : Heap)
    (ha : RdT H0 fS 1 v1 a) (ho : RdT H0 fS 1 v2 o) (ht : RdT H0 fS 1 v3 t) (hal : (∀ s ∈ a, s.length ≤ 1048576) ∧ a.length ≤ 1048576) (hol : (∀ s ∈ o, s.length ≤ 1048576) ∧ o.length ≤ 1048576) (htl : (∀ s ∈ t, s.length ≤ 1048576) ∧ t.length ≤ 1048576) :
    Ct Try.prog w0 4 #[v1, v2, v3] H0 (fun r H2 => r = .bool true ∧ Nw H0 H2) := by
  refine Ct.enter (args := [v1, v2, v3]) Try.func4 rfl rfl rfl ?_
  intro Q0 hret
  have hm0 : Nw H0 H0 := Mo.refl _ _
  replace ha := ha.bnd
  have bf_ha := Rd.bf ha
  replace ho := ho.bnd
  have bf_ho := Rd.bf ho
  replace ht := ht.bnd
  have bf_ht := Rd.bf ht
  refine CW.seq (fun K1 hK1 hE1 => ?_)
  refine CW.region ?_
  refine LR.v (Y.assign rfl rfl) (Wd.u rfl) rfl rfl ?_
  refine LR.nil ?_
  refine hK1 _ _ ?_
  refine CW.seq (fun K2 hK2 hE2 => ?_)
  refine CW.seq (fun K3 hK3 hE3 => ?_)
  refine CW.region ?_
  -- call selvage/selvagelaw14.known
  refine LR.call rfl Try.call10 rfl (Wd.u rfl) rfl rfl (known_ct w0 _) (fun v17 H17 r17 => ?_)
  obtain ⟨rfl, hs17⟩ := r17
  replace ha := ha.nw hs17
  replace ho := ho.nw hs17
  replace ht := ht.nw hs17
  replace hm0 := hm0.tr hs17
  have hz1 := hs17.size
  refine LR.v (Y.not rfl rfl) (Wd.u rfl) rfl rfl ?_
  refine LR.nil ?_
  refine hK3 _ _ ?_
  refine CW.cond_f rfl ?_
  refine CW.skip ?_
  refine hK2 _ _ ?_
  refine CW.seq (fun K4 hK4 hE4 => ?_)
  refine CW.seq (fun K5 hK5 hE5 => ?_)
  refine CW.region ?_
  refine LR.v (Y.move rfl rfl) (Wd.u rfl) rfl rfl ?_
  refine LR.v (Y.move rfl rfl) (Wd.u rfl) rfl rfl ?_
  refine LR.v (Y.move rfl rfl) (Wd.u rfl) rfl rfl ?_
  -- call selvage/selvagelaw14.few
  refine LR.call rfl Try.call11 rfl (Wd.u rfl) rfl rfl (few_ct3 _ _ _ a o t w0 _ ha.any ho.any ht.any hal hol htl) (fun v22 H22 r22 => ?_)
  obtain ⟨rfl, hs22⟩ := r22
  replace ha := ha.nw hs22
  replace ho := ho.nw hs22
  replace ht := ht.nw hs22
  replace hm0 := hm0.tr hs22
  have hz2 := hs22.size
  refine LR.v (Y.notp rfl rfl) (Wd.u rfl) rfl rfl ?_
  refine LR.nil ?_
  refine hK5 _ _ ?_
  refine CW.condp rfl (fun c23 => ?_) (fun c23 => ?_)
  ·
    refine CW.seq (fun K6 hK6 hE6 => ?_)
    refine CW.region ?_
    refine LR.v (Y.assign rfl rfl) (Wd.u rfl) rfl rfl ?_
    refine LR.nil ?_
    refine hK6 _ _ ?_
    refine CW.ret (hE4 .ret nofun _ _ (hret .ret (.inr rfl) _ _ _ (res1 rfl rfl) ?_))
    exact ⟨rfl, hm0⟩
  ·
    obtain ⟨fa, fo, ft⟩ := Decidable.not_not.1 c23
    obtain ⟨fa1, fa2⟩ := Few.flat fa
    obtain ⟨fo1, fo2⟩ := Few.flat fo
    obtain ⟨ft1, ft2⟩ := Few.flat ft
    refine CW.skip ?_
    refine hK4 _ _ ?_
    refine CW.seq (fun K7 hK7 hE7 => ?_)
    refine CW.region ?_
    refine LR.v (Y.move rfl rfl) (Wd.u rfl) rfl rfl ?_
    refine LR.v (Y.move rfl rfl) (Wd.u rfl) rfl rfl ?_
    refine LR.v (Y.move rfl rfl) (Wd.u rfl) rfl rfl ?_
    -- call selvage/merge3.Chunks
    refine LR.call rfl Try.call12 rfl (Wd.u rfl) rfl rfl (chunks_ct _ _ _ a o t w0 _ ha.any ho.any ht.any (by omega) (by omega) (by omega)) (fun v28 H28 r28 => ?_)
    obtain ⟨vl, l, rfl, hll, hrl, hxl, hs28⟩ := r28
    replace ha := ha.nw hs28
    replace ho := ho.nw hs28
    replace ht := ht.nw hs28
    replace hm0 := hm0.tr hs28
    have hz3 := hs28.size
    replace hrl := hrl.bnd
    have bf_hrl := Rd.bf hrl
    replace hxl := fun x hx_ => (hxl x hx_).bnd
    have bf_hxl : BF (fun b => H22.size ≤ b ∧ b < H28.size) H28.size := fun b h => h.2
    refine LR.v (Y.move rfl rfl) (Wd.u rfl) rfl rfl ?_
    refine LR.v (Y.extract rfl rfl rfl) (Wd.u rfl) rfl rfl ?_
    refine LR.v (Y.extract rfl rfl rfl) (Wd.u rfl) rfl rfl ?_
    refine LR.v (Y.assign rfl rfl) (Wd.u rfl) rfl rfl ?_
    refine LR.v (Y.assign rfl rfl) (Wd.u rfl) rfl rfl ?_
    refine LR.nil ?_
    refine hK7 _ _ ?_
    refine CW.seq (fun K8 hK8 hE8 => ?_)
    refine CW.region ?_
    refine LR.v (Y.move rfl rfl) (Wd.u rfl) rfl rfl ?_
    refine LR.v (Y.move rfl rfl) (Wd.u rfl) rfl rfl ?_
    refine LR.v (Y.move rfl rfl) (Wd.u rfl) rfl rfl ?_
    -- call selvage/merge3.Chunks
    refine LR.call rfl Try.call12 rfl (Wd.u rfl) rfl rfl (chunks_ct _ _ _ a t o w0 _ ha.any ht.any ho.any (by omega) (by omega) (by omega)) (fun v35 H35 r35 => ?_)
    obtain ⟨vm, m, rfl, hlm, hrm, hxm, hs35⟩ := r35
    replace ha := ha.nw hs35
    replace ho := ho.nw hs35
    replace ht := ht.nw hs35
    replace hrl := hrl.nw hs35
    replace hxl := fun x hx_ => (hxl x hx_).nw hs35
    replace hm0 := hm0.tr hs35
    have hz4 := hs35.size
    replace hrm := hrm.bnd
    have bf_hrm := Rd.bf hrm
    replace hxm := fun x hx_ => (hxm x hx_).bnd
    have bf_hxm : BF (fun b => H28.size ≤ b ∧ b < H35.size) H35.size := fun b h => h.2
    refine LR.v (Y.move rfl rfl) (Wd.u rfl) rfl rfl ?_
    refine LR.v (Y.extract rfl rfl rfl) (Wd.u rfl) rfl rfl ?_
    refine LR.v (Y.extract rfl rfl rfl) (Wd.u rfl) rfl rfl ?_
    refine LR.v (Y.assign rfl rfl) (Wd.u rfl) rfl rfl ?_
    refine LR.v (Y.assign rfl rfl) (Wd.u rfl) rfl rfl ?_
    refine LR.nil ?_
    refine hK8 _ _ ?_
    refine CW.seq (fun K9 hK9 hE9 => ?_)
    refine CW.region ?_
    refine LR.v (Y.move rfl rfl) (Wd.u rfl) rfl rfl ?_
    -- call selvage/selvageref12.Join
    refine LR.call rfl Try.call18 rfl (Wd.u rfl) rfl rfl (rjoin3 _ a w0 _ ha.any (by omega)) (fun v40 H40 r40 => ?_)
    obtain ⟨v40, kj40, rfl, oj40, hk40, hs40⟩ := r40
    have df1 := DF.app (DF.z) (bf_ha.mono hm0.size) hk40
    have df2 := DF.app (DF.z) (bf_ho.mono hm0.size) hk40
    have df3 := DF.app (DF.z) (bf_ht.mono hm0.size) hk40
    have df4 := DF.app (DF.z) (bf_hrl.mono (by omega)) hk40
    have df5 := DF.app (DF.z) (bf_hxl.mono (by omega)) hk40
    have df6 := DF.app (DF.z) (bf_hrm.mono (by omega)) hk40
    have df7 := DF.app (DF.z) (bf_hxm.mono (by omega)) hk40
    have nx8 : Nx 0 H0.size kj40 := Nx.tr (Nx.refl 0 _) hk40 hm0.size
    replace ha := ha.nw hs40
    replace ho := ho.nw hs40
    replace ht := ht.nw hs40
    replace hrl := hrl.nw hs40
    replace hxl := fun x hx_ => (hxl x hx_).nw hs40
    replace hrm := hrm.nw hs40
    replace hxm := fun x hx_ => (hxm x hx_).nw hs40
    replace hm0 := hm0.tr hs40
    have hz5 := hs40.size
    have hle_oj40 := oj40.le
    refine LR.v (Y.move rfl rfl) (Wd.u rfl) rfl rfl ?_
    -- call selvage/selvageref12.Join
    refine LR.call rfl Try.call18 rfl (Wd.u rfl) rfl rfl (rjoin3 _ o w0 _ ho.any (by omega)) (fun v42 H42 r42 => ?_)
    obtain ⟨v42, kj42, rfl, oj42, hk42, hs42⟩ := r42
    have df9 := DF.app (DF.z) (bf_ha.mono hm0.size) hk42
    have df10 := DF.app (DF.z) (bf_ho.mono hm0.size) hk42
    have df11 := DF.app (DF.z) (bf_ht.mono hm0.size) hk42
    have df12 := DF.app (DF.z) (bf_hrl.mono (by omega)) hk42
    have df13 := DF.app (DF.z) (bf_hxl.mono (by omega)) hk42
    have df14 := DF.app (DF.z) (bf_hrm.mono (by omega)) hk42
    have df15 := DF.app (DF.z) (bf_hxm.mono (by omega)) hk42
    have dj16 : Dj kj40 kj42 := Dj.app (Dj.z) oj40.le hk42
    have nx17 : Nx 0 H0.size kj42 := Nx.tr (Nx.refl 0 _) hk42 hm0.size
    replace ha := ha.nw hs42
    replace ho := ho.nw hs42
    replace ht := ht.nw hs42
    replace hrl := hrl.nw hs42
    replace hxl := fun x hx_ => (hxl x hx_).nw hs42
    replace hrm := hrm.nw hs42
    replace hxm := fun x hx_ => (hxm x hx_).nw hs42
    replace oj40 := oj40.nw hs42
    replace hm0 := hm0.tr hs42
    have hz6 := hs42.size
    have hle_oj42 := oj42.le
    refine LR.v (Y.move rfl rfl) (Wd.u rfl) rfl rfl ?_
    -- call selvage/selvageref12.Join
    refine LR.call rfl Try.call18 rfl (Wd.u rfl) rfl rfl (rjoin3 _ t w0 _ ht.any (by omega)) (fun v44 H44 r44 => ?_)
    obtain ⟨v44, kj44, rfl, oj44, hk44, hs44⟩ := r44
    have df18 := DF.app (DF.z) (bf_ha.mono hm0.size) hk44
    have df19 := DF.app (DF.z) (bf_ho.mono hm0.size) hk44
    have df20 := DF.app (DF.z) (bf_ht.mono hm0.size) hk44
    have df21 := DF.app (DF.z) (bf_hrl.mono (by omega)) hk44
    have df22 := DF.app (DF.z) (bf_hxl.mono (by omega)) hk44
    have df23 := DF.app (DF.z) (bf_hrm.mono (by omega)) hk44
    have df24 := DF.app (DF.z) (bf_hxm.mono (by omega)) hk44
    have dj25 : Dj kj40 kj44 := Dj.app (Dj.z) oj40.le hk44
    have dj26 : Dj kj42 kj44 := Dj.app (Dj.z) oj42.le hk44
    have nx27 : Nx 0 H0.size kj44 := Nx.tr (Nx.refl 0 _) hk44 hm0.size
    replace ha := ha.nw hs44
    replace ho := ho.nw hs44
    replace ht := ht.nw hs44
    replace hrl := hrl.nw hs44
    replace hxl := fun x hx_ => (hxl x hx_).nw hs44
    replace hrm := hrm.nw hs44
    replace hxm := fun x hx_ => (hxm x hx_).nw hs44
    replace oj40 := oj40.nw hs44
    replace oj42 := oj42.nw hs44
    replace hm0 := hm0.tr hs44
    have hz7 := hs44.size
    have hle_oj44 := oj44.le
    -- call selvage/merge3.Merge
    refine LR.call rfl Try.call17 rfl (Wd.u rfl) rfl rfl (merge_ct _ _ _ a.flatten o.flatten t.flatten w0 _ oj40.rd.any oj42.rd.any oj44.rd.any (by omega) (by omega) (by omega) (flat_few (by omega)) (flat_few (by omega)) (flat_few (by omega))) (fun v45 H45 r45 => ?_)
    obtain ⟨vom, kom, rfl, om, hk45, hs45⟩ := r45
    have df28 := DF.app (DF.z) (bf_ha.mono hm0.size) hk45
    have df29 := DF.app (DF.z) (bf_ho.mono hm0.size) hk45
    have df30 := DF.app (DF.z) (bf_ht.mono hm0.size) hk45
    have df31 := DF.app (DF.z) (bf_hrl.mono (by omega)) hk45
    have df32 := DF.app (DF.z) (bf_hxl.mono (by omega)) hk45
    have df33 := DF.app (DF.z) (bf_hrm.mono (by omega)) hk45
    have df34 := DF.app (DF.z) (bf_hxm.mono (by omega)) hk45
    have dj35 : Dj kj40 kom := Dj.app (Dj.z) oj40.le hk45
    have dj36 : Dj kj42 kom := Dj.app (Dj.z) oj42.le hk45
    have dj37 : Dj kj44 kom := Dj.app (Dj.z) oj44.le hk45
    have nx38 : Nx 0 H0.size kom := Nx.tr (Nx.refl 0 _) hk45 hm0.size
    replace ha := ha.nw hs45
    replace ho := ho.nw hs45
    replace ht := ht.nw hs45
    replace hrl := hrl.nw hs45
    replace hxl := fun x hx_ => (hxl x hx_).nw hs45
    replace hrm := hrm.nw hs45
    replace hxm := fun x hx_ => (hxm x hx_).nw hs45
    replace oj40 := oj40.nw hs45
    replace oj42 := oj42.nw hs45
    replace oj44 := oj44.nw hs45
    replace hm0 := hm0.tr hs45
    have hz8 := hs45.size
    have hle_om := om.le
    refine LR.v (Y.move rfl rfl) (Wd.u rfl) rfl rfl ?_
    refine LR.v (Y.extract rfl rfl rfl) (Wd.u rfl) rfl rfl ?_
    refine LR.v (Y.extract rfl rfl rfl) (Wd.u rfl) rfl rfl ?_
    refine LR.v (Y.extract rfl rfl rfl) (Wd.u rfl) rfl rfl ?_
    refine LR.v (Y.assign rfl rfl) (Wd.u rfl) rfl rfl ?_
    refine LR.v (Y.assign rfl rfl) (Wd.u rfl) rfl rfl ?_
    refine LR.v (Y.assign rfl rfl) (Wd.u rfl) rfl rfl ?_
    refine LR.nil ?_
    refine hK9 _ _ ?_
    refine CW.seq (fun K10 hK10 hE10 => ?_)
    refine CW.region ?_
    refine LR.v (Y.move rfl rfl) (Wd.u rfl) rfl rfl ?_
    -- call selvage/selvageref12.Join
    refine LR.call rfl Try.call18 rfl (Wd.u rfl) rfl rfl (rjoin3 _ a w0 _ ha.any (by omega)) (fun v51 H51 r51 => ?_)
    obtain ⟨v51, kj51, rfl, oj51, hk51, hs51⟩ := r51
    have df39 := DF.app (DF.z) (bf_ha.mono hm0.size) hk51
    have df40 := DF.app (DF.z) (bf_ho.mono hm0.size) hk51
    have df41 := DF.app (DF.z) (bf_ht.mono hm0.size) hk51
    have df42 := DF.app (DF.z) (bf_hrl.mono (by omega)) hk51
    have df43 := DF.app (DF.z) (bf_hxl.mono (by omega)) hk51
    have df44 := DF.app (DF.z) (bf_hrm.mono (by omega)) hk51
    have df45 := DF.app (DF.z) (bf_hxm.mono (by omega)) hk51
    have dj46 : Dj kj40 kj51 := Dj.app (Dj.z) oj40.le hk51
    have dj47 : Dj kj42 kj51 := Dj.app (Dj.z) oj42.le hk51
    have dj48 : Dj kj44 kj51 := Dj.app (Dj.z) oj44.le hk51
    have dj49 : Dj kom kj51 := Dj.app (Dj.z) om.le hk51
    have nx50 : Nx 0 H0.size kj51 := Nx.tr (Nx.refl 0 _) hk51 hm0.size
    replace ha := ha.nw hs51
    replace ho := ho.nw hs51
    replace ht := ht.nw hs51
    replace hrl := hrl.nw hs51
    replace hxl := fun x hx_ => (hxl x hx_).nw hs51
    replace hrm := hrm.nw hs51
    replace hxm := fun x hx_ => (hxm x hx_).nw hs51
    replace oj40 := oj40.nw hs51
    replace oj42 := oj42.nw hs51
    replace oj44 := oj44.nw hs51
    replace om := om.nw hs51
    replace hm0 := hm0.tr hs51
    have hz9 := hs51.size
    have hle_oj51 := oj51.le
    refine LR.v (Y.move rfl rfl) (Wd.u rfl) rfl rfl ?_
    -- call selvage/selvageref12.Join
    refine LR.call rfl Try.call18 rfl (Wd.u rfl) rfl rfl (rjoin3 _ t w0 _ ht.any (by omega)) (fun v53 H53 r53 => ?_)
    obtain ⟨v53, kj53, rfl, oj53, hk53, hs53⟩ := r53
    have df51 := DF.app (DF.z) (bf_ha.mono hm0.size) hk53
    have df52 := DF.app (DF.z) (bf_ho.mono hm0.size) hk53
    have df53 := DF.app (DF.z) (bf_ht.mono hm0.size) hk53
    have df54 := DF.app (DF.z) (bf_hrl.mono (by omega)) hk53
    have df55 := DF.app (DF.z) (bf_hxl.mono (by omega)) hk53
    have df56 := DF.app (DF.z) (bf_hrm.mono (by omega)) hk53
    have df57 := DF.app (DF.z) (bf_hxm.mono (by omega)) hk53
    have dj58 : Dj kj40 kj53 := Dj.app (Dj.z) oj40.le hk53
    have dj59 : Dj kj42 kj53 := Dj.app (Dj.z) oj42.le hk53
    have dj60 : Dj kj44 kj53 := Dj.app (Dj.z) oj44.le hk53
    have dj61 : Dj kom kj53 := Dj.app (Dj.z) om.le hk53
    have dj62 : Dj kj51 kj53 := Dj.app (Dj.z) oj51.le hk53
    have nx63 : Nx 0 H0.size kj53 := Nx.tr (Nx.refl 0 _) hk53 hm0.size
    replace ha := ha.nw hs53
    replace ho := ho.nw hs53
    replace ht := ht.nw hs53
    replace hrl := hrl.nw hs53
    replace hxl := fun x hx_ => (hxl x hx_).nw hs53
    replace hrm := hrm.nw hs53
    replace hxm := fun x hx_ => (hxm x hx_).nw hs53
    replace oj40 := oj40.nw hs53
    replace oj42 := oj42.nw hs53
    replace oj44 := oj44.nw hs53
    replace om := om.nw hs53
    replace oj51 := oj51.nw hs53
    replace hm0 := hm0.tr hs53
    have hz10 := hs53.size
    have hle_oj53 := oj53.le
    refine LR.v (Y.move rfl rfl) (Wd.u rfl) rfl rfl ?_
    -- call selvage/selvageref12.Join
    refine LR.call rfl Try.call18 rfl (Wd.u rfl) rfl rfl (rjoin3 _ o w0 _ ho.any (by omega)) (fun v55 H55 r55 => ?_)
    obtain ⟨v55, kj55, rfl, oj55, hk55, hs55⟩ := r55
    have df64 := DF.app (DF.z) (bf_ha.mono hm0.size) hk55
    have df65 := DF.app (DF.z) (bf_ho.mono hm0.size) hk55
    have df66 := DF.app (DF.z) (bf_ht.mono hm0.size) hk55
    have df67 := DF.app (DF.z) (bf_hrl.mono (by omega)) hk55
    have df68 := DF.app (DF.z) (bf_hxl.mono (by omega)) hk55
    have df69 := DF.app (DF.z) (bf_hrm.mono (by omega)) hk55
    have df70 := DF.app (DF.z) (bf_hxm.mono (by omega)) hk55
    have dj71 : Dj kj40 kj55 := Dj.app (Dj.z) oj40.le hk55
    have dj72 : Dj kj42 kj55 := Dj.app (Dj.z) oj42.le hk55
    have dj73 : Dj kj44 kj55 := Dj.app (Dj.z) oj44.le hk55
    have dj74 : Dj kom kj55 := Dj.app (Dj.z) om.le hk55
    have dj75 : Dj kj51 kj55 := Dj.app (Dj.z) oj51.le hk55
    have dj76 : Dj kj53 kj55 := Dj.app (Dj.z) oj53.le hk55
    have nx77 : Nx 0 H0.size kj55 := Nx.tr (Nx.refl 0 _) hk55 hm0.size
    replace ha := ha.nw hs55
    replace ho := ho.nw hs55
    replace ht := ht.nw hs55
    replace hrl := hrl.nw hs55
    replace hxl := fun x hx_ => (hxl x hx_).nw hs55
    replace hrm := hrm.nw hs55
    replace hxm := fun x hx_ => (hxm x hx_).nw hs55
    replace oj40 := oj40.nw hs55
    replace oj42 := oj42.nw hs55
    replace oj44 := oj44.nw hs55
    replace om := om.nw hs55
    replace oj51 := oj51.nw hs55
    replace oj53 := oj53.nw hs55
    replace hm0 := hm0.tr hs55
    have hz11 := hs55.size
    have hle_oj55 := oj55.le
    -- call selvage/merge3.Merge
    refine LR.call rfl Try.call17 rfl (Wd.u rfl) rfl rfl (merge_ct _ _ _ a.flatten t.flatten o.flatten w0 _ oj51.rd.any oj53.rd.any oj55.rd.any (by omega) (by omega) (by omega) (flat_few (by omega)) (flat_few (by omega)) (flat_few (by omega))) (fun v56 H56 r56 => ?_)
    obtain ⟨von, kon, rfl, on, hk56, hs56⟩ := r56
    have df78 := DF.app (DF.z) (bf_ha.mono hm0.size) hk56
    have df79 := DF.app (DF.z) (bf_ho.mono hm0.size) hk56
    have df80 := DF.app (DF.z) (bf_ht.mono hm0.size) hk56
    have df81 := DF.app (DF.z) (bf_hrl.mono (by omega)) hk56
    have df82 := DF.app (DF.z) (bf_hxl.mono (by omega)) hk56
    have df83 := DF.app (DF.z) (bf_hrm.mono (by omega)) hk56
    have df84 := DF.app (DF.z) (bf_hxm.mono (by omega)) hk56
    have dj85 : Dj kj40 kon := Dj.app (Dj.z) oj40.le hk56
    have dj86 : Dj kj42 kon := Dj.app (Dj.z) oj42.le hk56
    have dj87 : Dj kj44 kon := Dj.app (Dj.z) oj44.le hk56
    have dj88 : Dj kom kon := Dj.app (Dj.z) om.le hk56
    have dj89 : Dj kj51 kon := Dj.app (Dj.z) oj51.le hk56
    have dj90 : Dj kj53 kon := Dj.app (Dj.z) oj53.le hk56
    have dj91 : Dj kj55 kon := Dj.app (Dj.z) oj55.le hk56
    have nx92 : Nx 0 H0.size kon := Nx.tr (Nx.refl 0 _) hk56 hm0.size
    replace ha := ha.nw hs56
    replace ho := ho.nw hs56
    replace ht := ht.nw hs56
    replace hrl := hrl.nw hs56
    replace hxl := fun x hx_ => (hxl x hx_).nw hs56
    replace hrm := hrm.nw hs56
    replace hxm := fun x hx_ => (hxm x hx_).nw hs56
    replace oj40 := oj40.nw hs56
    replace oj42 := oj42.nw hs56
    replace oj44 := oj44.nw hs56
    replace om := om.nw hs56
    replace oj51 := oj51.nw hs56
    replace oj53 := oj53.nw hs56
    replace oj55 := oj55.nw hs56
    replace hm0 := hm0.tr hs56
    have hz12 := hs56.size
    have hle_on := on.le
    refine LR.v (Y.move rfl rfl) (Wd.u rfl) rfl rfl ?_
    refine LR.v (Y.extract rfl rfl rfl) (Wd.u rfl) rfl rfl ?_
    refine LR.v (Y.extract rfl rfl rfl) (Wd.u rfl) rfl rfl ?_
    have hsw := mch_sw a.flatten o.flatten t.flatten
    refine LR.v (Y.extract rfl rfl rfl) (Wd.u rfl) rfl rfl ?_
    refine LR.v (Y.assign rfl rfl) (Wd.u rfl) rfl rfl ?_
    refine LR.v (Y.assign rfl rfl) (Wd.u rfl) rfl rfl ?_
    refine LR.v (Y.assign rfl rfl) (Wd.u rfl) rfl rfl ?_
    refine LR.nil ?_
    refine hK10 _ _ ?_
    refine CW.seq (fun K11 hK11 hE11 => ?_)
    refine CW.region ?_
    refine LR.v (Y.move rfl rfl) (Wd.u rfl) rfl rfl ?_
    refine LR.v ((Y.eql rfl rfl rfl).isT (rfl)) (Wd.u rfl) rfl rfl ?_
    refine LR.v (Y.move rfl rfl) (Wd.u rfl) rfl rfl ?_
    refine LR.v (Y.move rfl rfl) (Wd.g rfl rfl rfl) rfl rfl ?_
    refine LR.v ((Y.eql rfl rfl rfl).isT (rfl)) (Wd.g rfl rfl rfl) rfl rfl ?_
    refine LR.v (Y.pick_t rfl rfl rfl) (Wd.u rfl) rfl rfl ?_
    refine LR.v (Y.move rfl rfl) (Wd.u rfl) rfl rfl ?_
    refine LR.v (Y.move rfl rfl) (Wd.g rfl rfl rfl) rfl rfl ?_
    refine LR.v (Y.move rfl rfl) (Wd.g rfl rfl rfl) rfl rfl ?_
    -- call selvage/selvagelaw14.turned
    refine LR.call rfl Try.call19 rfl (Wd.g rfl rfl rfl) rfl rfl (turned_ct _ m w0 _ hrm.any (len_of hlm (by omega))) (fun v69 H69 r69 => ?_)
    obtain ⟨v269, rfl, hrt, hs69⟩ := r69
    replace ha := ha.nw hs69
    replace ho := ho.nw hs69
    replace ht := ht.nw hs69
    replace hrl := hrl.nw hs69
    replace hxl := fun x hx_ => (hxl x hx_).nw hs69
    replace hrm := hrm.nw hs69
    replace hxm := fun x hx_ => (hxm x hx_).nw hs69
    replace oj40 := oj40.nw hs69
    replace oj42 := oj42.nw hs69
    replace oj44 := oj44.nw hs69
    replace om := om.nw hs69
    replace oj51 := oj51.nw hs69
    replace oj53 := oj53.nw hs69
    replace oj55 := oj55.nw hs69
    replace on := on.nw hs69
    replace hm0 := hm0.tr hs69
    have hz13 := hs69.size
    replace hrt := hrt.bnd
    have bf_hrt := Rd.bf hrt
    have df93 : DF (fun b => H56.size ≤ b ∧ b < H69.size) kj40 := DF.above (fun b h => h.1) (by first | exact hle_oj40 | exact hlt_oj40 | omega)
    have df94 : DF (fun b => H56.size ≤ b ∧ b < H69.size) kj42 := DF.above (fun b h => h.1) (by first | exact hle_oj42 | exact hlt_oj42 | omega)
    have df95 : DF (fun b => H56.size ≤ b ∧ b < H69.size) kj44 := DF.above (fun b h => h.1) (by first | exact hle_oj44 | exact hlt_oj44 | omega)
    have df96 : DF (fun b => H56.size ≤ b ∧ b < H69.size) kom := DF.above (fun b h => h.1) (by first | exact hle_om | exact hlt_om | omega)
    have df97 : DF (fun b => H56.size ≤ b ∧ b < H69.size) kj51 := DF.above (fun b h => h.1) (by first | exact hle_oj51 | exact hlt_oj51 | omega)
    have df98 : DF (fun b => H56.size ≤ b ∧ b < H69.size) kj53 := DF.above (fun b h => h.1) (by first | exact hle_oj53 | exact hlt_oj53 | omega)
    have df99 : DF (fun b => H56.size ≤ b ∧ b < H69.size) kj55 := DF.above (fun b h => h.1) (by first | exact hle_oj55 | exact hlt_oj55 | omega)
    have df100 : DF (fun b => H56.size ≤ b ∧ b < H69.size) kon := DF.above (fun b h => h.1) (by first | exact hle_on | exact hlt_on | omega)
    -- call selvage/selvagelaw14.SameChunks
    refine LR.call rfl Try.call14 rfl (Wd.g rfl rfl rfl) rfl rfl (sameT _ _ l (m.map turnK) w0 _ hrl.any hrt.any (fun x e => (hxl x e).any) (turn_x (fun x e => (hxm x e).any)) (by rw [turn_c, hll, hlm, chunks_sw a o t, List.map_map]; simp [Function.comp_def, swC_swC])) (fun v70 H70 r70 => ?_)
    obtain ⟨rfl, hs70⟩ := r70
    replace ha := ha.nw hs70
    replace ho := ho.nw hs70
    replace ht := ht.nw hs70
    replace hrl := hrl.nw hs70
    replace hxl := fun x hx_ => (hxl x hx_).nw hs70
    replace hrm := hrm.nw hs70
    replace hxm := fun x hx_ => (hxm x hx_).nw hs70
    replace oj40 := oj40.nw hs70
    replace oj42 := oj42.nw hs70
    replace oj44 := oj44.nw hs70
    replace om := om.nw hs70
    replace oj51 := oj51.nw hs70
    replace oj53 := oj53.nw hs70
    replace oj55 := oj55.nw hs70
    replace on := on.nw hs70
    replace hrt := hrt.nw hs70
    replace hm0 := hm0.tr hs70
    have hz14 := hs70.size
    refine LR.v (Y.pick_t rfl rfl rfl) (Wd.u rfl) rfl rfl ?_
    refine LR.v (Y.move rfl rfl) (Wd.u rfl) rfl rfl ?_
    refine LR.v (Y.move rfl rfl) (Wd.g rfl rfl rfl) rfl rfl ?_
    refine LR.v (Y.move rfl rfl) (Wd.g rfl rfl rfl) rfl rfl ?_
    refine LR.v ((Y.beql rfl Try.underlying4 rfl rfl).isT (by rw [hsw, clean_sw])) (Wd.g rfl rfl rfl) rfl rfl ?_
    refine LR.v (Y.pick_t rfl rfl rfl) (Wd.u rfl) rfl rfl ?_
    refine LR.v (Y.move rfl rfl) (Wd.u rfl) rfl rfl ?_
    refine LR.v (Y.move rfl rfl) (Wd.g rfl rfl rfl) rfl rfl ?_
    refine LR.v (Y.not rfl rfl) (Wd.g rfl rfl rfl) rfl rfl ?_
    refine LR.v (Y.move rfl rfl) (Wd.g rfl rfl rfl) rfl rfl ?_
    refine LR.split (d := 80) rfl (fun g80 => ?_) (fun g80 => ?_)
    ·
      refine LR.gs rfl rfl rfl rfl rfl rfl ?_
      refine LR.gs rfl rfl rfl rfl rfl rfl ?_
      refine LR.gs rfl rfl rfl rfl rfl rfl ?_
      refine LR.gs rfl rfl rfl rfl rfl rfl ?_
      refine LR.gs rfl rfl rfl rfl rfl rfl ?_
      refine LR.v (Y.pick_t rfl rfl rfl) (Wd.g rfl rfl rfl) rfl rfl ?_
      refine LR.v (Y.pick_t rfl rfl rfl) (Wd.u rfl) rfl rfl ?_
      refine LR.v (Y.assign rfl rfl) (Wd.u rfl) rfl rfl ?_
      refine LR.nil ?_
      refine hK11 _ _ ?_
      refine CW.ret (hret .ret (.inr rfl) _ _ _ (res1 rfl rfl) ?_)
      exact ⟨rfl, hm0⟩
    ·
      refine LR.v (Y.move rfl rfl) (Wd.g rfl rfl rfl) rfl rfl ?_
      refine LR.v (Y.bstr om.rd rfl Try.underlying32 Try.underlying9 Try.underlying5 rfl) (Wd.g rfl rfl rfl) rfl rfl ?_
      refine LR.v (Y.move rfl rfl) (Wd.g rfl rfl rfl) rfl rfl ?_
      refine LR.v (Y.bstr on.rd rfl Try.underlying32 Try.underlying9 Try.underlying5 rfl) (Wd.g rfl rfl rfl) rfl rfl ?_
      refine LR.v ((Y.seql rfl rfl rfl).isT (by rw [hsw, rend_sw (mch_good _ _ _) (by simpa using g80)])) (Wd.g rfl rfl rfl) rfl rfl ?_
      refine LR.v (Y.pick_f rfl rfl rfl) (Wd.g rfl rfl rfl) rfl rfl ?_
      refine LR.v (Y.pick_t rfl rfl rfl) (Wd.u rfl) rfl rfl ?_
      refine LR.v (Y.assign rfl rfl) (Wd.u rfl) rfl rfl ?_
      refine LR.nil ?_
      refine hK11 _ _ ?_
      refine CW.ret (hret .ret (.inr rfl) _ _ _ (res1 rfl rfl) ?_)
      exact ⟨rfl, hm0⟩

set_option maxHeartbeats 8000000 in
theorem mergeOne_ct (v1 v2 : Value) (a s : List UInt8) (w0 : World) (H0 : Heap)
    (ha : RdT H0 fB 1 v1 a) (hs : RdT H0 fB 1 v2 s) (hal : a.length ≤ 1048576) (hsl : s.length ≤ 1048576) :
    Ct Try.prog w0 5 #[v1, v2] H0 (fun r H2 => r = .bool true ∧ Nw H0 H2) := by
  refine Ct.enter (args := [v1, v2]) Try.func5 rfl rfl rfl ?_
  intro Q0 hret
  have hm0 : Nw H0 H0 := Mo.refl _ _
  replace ha := ha.bnd
  have bf_ha := Rd.bf ha
  replace hs := hs.bnd
  have bf_hs := Rd.bf hs
  refine CW.seq (fun K1 hK1 hE1 => ?_)
  refine CW.region ?_
  refine LR.v (Y.assign rfl rfl) (Wd.u rfl) rfl rfl ?_
  refine LR.nil ?_
  refine hK1 _ _ ?_
  refine CW.seq (fun K2 hK2 hE2 => ?_)
  refine CW.seq (fun K3 hK3 hE3 => ?_)
  refine CW.region ?_
  -- call selvage/selvagelaw14.known
  refine LR.call rfl Try.call10 rfl (Wd.u rfl) rfl rfl (known_ct w0 _) (fun v14 H14 r14 => ?_)
  obtain ⟨rfl, hs14⟩ := r14
  replace ha := ha.nw hs14
  replace hs := hs.nw hs14
  replace hm0 := hm0.tr hs14
  have hz1 := hs14.size
  refine LR.v (Y.not rfl rfl) (Wd.u rfl) rfl rfl ?_
  refine LR.nil ?_
  refine hK3 _ _ ?_
  refine CW.cond_f rfl ?_
  refine CW.skip ?_
  refine hK2 _ _ ?_
  refine CW.seq (fun K4 hK4 hE4 => ?_)
  refine CW.seq (fun K5 hK5 hE5 => ?_)
  refine CW.region ?_
  refine LR.v (Y.move rfl rfl) (Wd.u rfl) rfl rfl ?_
  -- call selvage/selvagelaw14.short
  refine LR.call rfl Try.call20 rfl (Wd.u rfl) rfl rfl (short_ct _ a w0 _ ha.any hal) (fun v17 H17 r17 => ?_)
  obtain ⟨rfl, hs17⟩ := r17
  replace ha := ha.nw hs17
  replace hs := hs.nw hs17
  replace hm0 := hm0.tr hs17
  have hz2 := hs17.size
  refine LR.v (Y.notp rfl rfl) (Wd.u rfl) rfl rfl ?_
  refine LR.v (Y.move rfl rfl) (Wd.u rfl) rfl rfl ?_
  refine LR.splitp (d := 19) rfl (fun g19 => ?_) (fun g19 => ?_)
  ·
    refine LR.gs rfl rfl rfl rfl rfl rfl ?_
    refine LR.gs rfl rfl rfl rfl rfl rfl ?_
    refine LR.gs rfl rfl rfl rfl rfl rfl ?_
    refine LR.v (Y.pick_t rfl rfl rfl) (Wd.u rfl) rfl rfl ?_
    refine LR.nil ?_
    refine hK5 _ _ ?_
    refine CW.cond_t rfl ?_
    refine CW.seq (fun K6 hK6 hE6 => ?_)
    refine CW.region ?_
    refine LR.v (Y.assign rfl rfl) (Wd.u rfl) rfl rfl ?_
    refine LR.nil ?_
    refine hK6 _ _ ?_
    refine CW.ret (hE4 .ret nofun _ _ (hret .ret (.inr rfl) _ _ _ (res1 rfl rfl) ?_))
    exact ⟨rfl, hm0⟩
  ·
    refine LR.v (Y.move rfl rfl) (Wd.g rfl rfl rfl) rfl rfl ?_
    -- call selvage/selvagelaw14.short
    refine LR.call rfl Try.call20 rfl (Wd.g rfl rfl rfl) rfl rfl (short_ct _ s w0 _ hs.any hsl) (fun v21 H21 r21 => ?_)
    obtain ⟨rfl, hs21⟩ := r21
    replace ha := ha.nw hs21
    replace hs := hs.nw hs21
    replace hm0 := hm0.tr hs21
    have hz3 := hs21.size
    refine LR.v (Y.notp rfl rfl) (Wd.g rfl rfl rfl) rfl rfl ?_
    refine LR.v (Y.pick_f rfl rfl rfl) (Wd.u rfl) rfl rfl ?_
    refine LR.nil ?_
    refine hK5 _ _ ?_
    refine CW.condp rfl (fun c23 => ?_) (fun c23 => ?_)
    ·
      refine CW.seq (fun K7 hK7 hE7 => ?_)
      refine CW.region ?_
      refine LR.v (Y.assign rfl rfl) (Wd.u rfl) rfl rfl ?_
      refine LR.nil ?_
      refine hK7 _ _ ?_
      refine CW.ret (hE4 .ret nofun _ _ (hret .ret (.inr rfl) _ _ _ (res1 rfl rfl) ?_))
      exact ⟨rfl, hm0⟩
    ·
      obtain ⟨a1, a2⟩ := short_bd (by first | exact Decidable.not_not.1 g19 | assumption | (apply Decidable.not_not.1; assumption) : Short a)
      obtain ⟨s1, s2⟩ := short_bd (by first | (apply Decidable.not_not.1; assumption) | assumption : Short s)
      have e1 := one_base (splitL [] a) (splitL [] s)
      have e2 := one_ours (splitL [] a) (splitL [] s)
      have e3 := one_same (splitL [] a) (splitL [] s)
      rw [flat_split] at e1 e2 e3
      refine CW.skip ?_
      refine hK4 _ _ ?_
      refine CW.seq (fun K8 hK8 hE8 => ?_)
      refine CW.region ?_
      refine LR.v (Y.move rfl rfl) (Wd.u rfl) rfl rfl ?_
      refine LR.v (Y.move rfl rfl) (Wd.u rfl) rfl rfl ?_
      refine LR.v (Y.move rfl rfl) (Wd.u rfl) rfl rfl ?_
      -- call selvage/merge3.Merge
      refine LR.call rfl Try.call17 rfl (Wd.u rfl) rfl rfl (mergeT _ _ _ a s a _ _ w0 _ ha.any hs.any ha.any a1 s1 a1 a2 s2 a2 e1.1 e1.2) (fun v28 H28 r28 => ?_)
      obtain ⟨vm, km, rfl, om, hk28, hs28⟩ := r28
      have df1 := DF.app (DF.z) (bf_ha.mono hm0.size) hk28
      have df2 := DF.app (DF.z) (bf_hs.mono hm0.size) hk28
      have nx3 : Nx 0 H0.size km := Nx.tr (Nx.refl 0 _) hk28 hm0.size
      replace ha := ha.nw hs28
      replace hs := hs.nw hs28
      replace hm0 := hm0.tr hs28
      have hz4 := hs28.size
      have hle_om := om.le
      refine LR.v (Y.move rfl rfl) (Wd.u rfl) rfl rfl ?_
      refine LR.v (Y.extract rfl rfl rfl) (Wd.u rfl) rfl rfl ?_
      refine LR.v (Y.extract rfl rfl rfl) (Wd.u rfl) rfl rfl ?_
      refine LR.v (Y.extract rfl rfl rfl) (Wd.u rfl) rfl rfl ?_
      refine LR.v (Y.assign rfl rfl) (Wd.u rfl) rfl rfl ?_
      refine LR.v (Y.assign rfl rfl) (Wd.u rfl) rfl rfl ?_
      refine LR.v (Y.assign rfl rfl) (Wd.u rfl) rfl rfl ?_
      refine LR.nil ?_
      refine hK8 _ _ ?_
      refine CW.seq (fun K9 hK9 hE9 => ?_)
      refine CW.region ?_
      refine LR.v (Y.move rfl rfl) (Wd.u rfl) rfl rfl ?_
      refine LR.v (Y.move rfl rfl) (Wd.u rfl) rfl rfl ?_
      refine LR.v (Y.move rfl rfl) (Wd.u rfl) rfl rfl ?_
      -- call selvage/merge3.Merge
      refine LR.call rfl Try.call17 rfl (Wd.u rfl) rfl rfl (mergeT _ _ _ a a s _ _ w0 _ ha.any ha.any hs.any a1 a1 s1 a2 a2 s2 e2.1 e2.2) (fun v36 H36 r36 => ?_)
      obtain ⟨vn, kn, rfl, on, hk36, hs36⟩ := r36
      have df4 := DF.app (DF.z) (bf_ha.mono hm0.size) hk36
      have df5 := DF.app (DF.z) (bf_hs.mono hm0.size) hk36
      have dj6 : Dj km kn := Dj.app (Dj.z) om.le hk36
      have nx7 : Nx 0 H0.size kn := Nx.tr (Nx.refl 0 _) hk36 hm0.size
      replace ha := ha.nw hs36
      replace hs := hs.nw hs36
      replace om := om.nw hs36
      replace hm0 := hm0.tr hs36
      have hz5 := hs36.size
      have hle_on := on.le
      refine LR.v (Y.move rfl rfl) (Wd.u rfl) rfl rfl ?_
      refine LR.v (Y.extract rfl rfl rfl) (Wd.u rfl) rfl rfl ?_
      refine LR.v (Y.extract rfl rfl rfl) (Wd.u rfl) rfl rfl ?_
      refine LR.v (Y.extract rfl rfl rfl) (Wd.u rfl) rfl rfl ?_
      refine LR.v (Y.assign rfl rfl) (Wd.u rfl) rfl rfl ?_
      refine LR.v (Y.assign rfl rfl) (Wd.u rfl) rfl rfl ?_
      refine LR.v (Y.assign rfl rfl) (Wd.u rfl) rfl rfl ?_
      refine LR.nil ?_
      refine hK9 _ _ ?_
      refine CW.seq (fun K10 hK10 hE10 => ?_)
      refine CW.region ?_
      refine LR.v (Y.move rfl rfl) (Wd.u rfl) rfl rfl ?_
      refine LR.v (Y.move rfl rfl) (Wd.u rfl) rfl rfl ?_
      refine LR.v (Y.move rfl rfl) (Wd.u rfl) rfl rfl ?_
      -- call selvage/merge3.Merge
      refine LR.call rfl Try.call17 rfl (Wd.u rfl) rfl rfl (mergeT _ _ _ a s s _ _ w0 _ ha.any hs.any hs.any a1 s1 s1 a2 s2 s2 e3.1 e3.2) (fun v44 H44 r44 => ?_)
      obtain ⟨vp, kp, rfl, op, hk44, hs44⟩ := r44
      have df8 := DF.app (DF.z) (bf_ha.mono hm0.size) hk44
      have df9 := DF.app (DF.z) (bf_hs.mono hm0.size) hk44
      have dj10 : Dj km kp := Dj.app (Dj.z) om.le hk44
      have dj11 : Dj kn kp := Dj.app (Dj.z) on.le hk44
      have nx12 : Nx 0 H0.size kp := Nx.tr (Nx.refl 0 _) hk44 hm0.size
      replace ha := ha.nw hs44
      replace hs := hs.nw hs44
      replace om := om.nw hs44
      replace on := on.nw hs44
      replace hm0 := hm0.tr hs44
      have hz6 := hs44.size
      have hle_op := op.le
      refine LR.v (Y.move rfl rfl) (Wd.u rfl) rfl rfl ?_
      refine LR.v (Y.extract rfl rfl rfl) (Wd.u rfl) rfl rfl ?_
      refine LR.v (Y.extract rfl rfl rfl) (Wd.u rfl) rfl rfl ?_
      refine LR.v (Y.extract rfl rfl rfl) (Wd.u rfl) rfl rfl ?_
      refine LR.v (Y.assign rfl rfl) (Wd.u rfl) rfl rfl ?_
      refine LR.v (Y.assign rfl rfl) (Wd.u rfl) rfl rfl ?_
      refine LR.v (Y.assign rfl rfl) (Wd.u rfl) rfl rfl ?_
      refine LR.nil ?_
      refine hK10 _ _ ?_
      refine CW.seq (fun K11 hK11 hE11 => ?_)
      refine CW.region ?_
      refine LR.v (Y.move rfl rfl) (Wd.u rfl) rfl rfl ?_
      refine LR.v ((Y.eql rfl rfl rfl).isT (rfl)) (Wd.u rfl) rfl rfl ?_
      refine LR.v (Y.move rfl rfl) (Wd.u rfl) rfl rfl ?_
      refine LR.v (Y.move rfl rfl) (Wd.g rfl rfl rfl) rfl rfl ?_
      refine LR.v ((Y.eql rfl rfl rfl).isT (rfl)) (Wd.g rfl rfl rfl) rfl rfl ?_
      refine LR.v (Y.pick_t rfl rfl rfl) (Wd.u rfl) rfl rfl ?_
      refine LR.v (Y.move rfl rfl) (Wd.u rfl) rfl rfl ?_
      refine LR.v (Y.move rfl rfl) (Wd.g rfl rfl rfl) rfl rfl ?_
      refine LR.v ((Y.eql rfl rfl rfl).isT (rfl)) (Wd.g rfl rfl rfl) rfl rfl ?_
      refine LR.v (Y.pick_t rfl rfl rfl) (Wd.u rfl) rfl rfl ?_
      refine LR.v (Y.move rfl rfl) (Wd.u rfl) rfl rfl ?_
      refine LR.v (Y.move rfl rfl) (Wd.g rfl rfl rfl) rfl rfl ?_
      refine LR.v (Y.pick_t rfl rfl rfl) (Wd.u rfl) rfl rfl ?_
      refine LR.v (Y.move rfl rfl) (Wd.u rfl) rfl rfl ?_
      refine LR.v (Y.move rfl rfl) (Wd.g rfl rfl rfl) rfl rfl ?_
      refine LR.v (Y.pick_t rfl rfl rfl) (Wd.u rfl) rfl rfl ?_
      refine LR.v (Y.move rfl rfl) (Wd.u rfl) rfl rfl ?_
      refine LR.v (Y.move rfl rfl) (Wd.g rfl rfl rfl) rfl rfl ?_
      refine LR.v (Y.pick_t rfl rfl rfl) (Wd.u rfl) rfl rfl ?_
      refine LR.v (Y.move rfl rfl) (Wd.u rfl) rfl rfl ?_
      refine LR.v (Y.move rfl rfl) (Wd.g rfl rfl rfl) rfl rfl ?_
      refine LR.v (Y.bstr om.rd rfl Try.underlying32 Try.underlying9 Try.underlying5 rfl) (Wd.g rfl rfl rfl) rfl rfl ?_
      refine LR.v (Y.move rfl rfl) (Wd.g rfl rfl rfl) rfl rfl ?_
      refine LR.v (Y.bstr hs rfl Try.underlying32 Try.underlying9 Try.underlying5 rfl) (Wd.g rfl rfl rfl) rfl rfl ?_
      refine LR.v ((Y.seql rfl rfl rfl).isT (rfl)) (Wd.g rfl rfl rfl) rfl rfl ?_
      refine LR.v (Y.pick_t rfl rfl rfl) (Wd.u rfl) rfl rfl ?_
      refine LR.v (Y.move rfl rfl) (Wd.u rfl) rfl rfl ?_
      refine LR.v (Y.move rfl rfl) (Wd.g rfl rfl rfl) rfl rfl ?_
      refine LR.v (Y.bstr on.rd rfl Try.underlying32 Try.underlying9 Try.underlying5 rfl) (Wd.g rfl rfl rfl) rfl rfl ?_
      refine LR.v (Y.move rfl rfl) (Wd.g rfl rfl rfl) rfl rfl ?_
      refine LR.v (Y.bstr hs rfl Try.underlying32 Try.underlying9 Try.underlying5 rfl) (Wd.g rfl rfl rfl) rfl rfl ?_
      refine LR.v ((Y.seql rfl rfl rfl).isT (rfl)) (Wd.g rfl rfl rfl) rfl rfl ?_
      refine LR.v (Y.pick_t rfl rfl rfl) (Wd.u rfl) rfl rfl ?_
      refine LR.v (Y.move rfl rfl) (Wd.u rfl) rfl rfl ?_
      refine LR.v (Y.move rfl rfl) (Wd.g rfl rfl rfl) rfl rfl ?_
      refine LR.v (Y.bstr op.rd rfl Try.underlying32 Try.underlying9 Try.underlying5 rfl) (Wd.g rfl rfl rfl) rfl rfl ?_
      refine LR.v (Y.move rfl rfl) (Wd.g rfl rfl rfl) rfl rfl ?_
      refine LR.v (Y.bstr hs rfl Try.underlying32 Try.underlying9 Try.underlying5 rfl) (Wd.g rfl rfl rfl) rfl rfl ?_
      refine LR.v ((Y.seql rfl rfl rfl).isT (rfl)) (Wd.g rfl rfl rfl) rfl rfl ?_
      refine LR.v (Y.pick_t rfl rfl rfl) (Wd.u rfl) rfl rfl ?_
      refine LR.v (Y.assign rfl rfl) (Wd.u rfl) rfl rfl ?_
      refine LR.nil ?_
      refine hK11 _ _ ?_
      refine CW.ret (hret .ret (.inr rfl) _ _ _ (res1 rfl rfl) ?_)
      exact ⟨rfl, hm0⟩

end Go.Proofs.Ytadgeooceeilpaa.MerJ
