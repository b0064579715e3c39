/-
  The example of the document; the contract of DeltaBytes.
-/
import Derived.Test.YtjkjdpainenofaaDelF
import Derived.Test.YtjkjdpainenofaaCmp
namespace Go.Proofs.Ytjkjdpainenofaa.DelG
open Go.Proofs.Ytjkjdpainenofaa.E Go.RowKit Go.Proofs.Ytjkjdpainenofaa.Num Go.Proofs.Ytjkjdpainenofaa.DelA Go.Proofs.Ytjkjdpainenofaa.DelB Go.Proofs.Ytjkjdpainenofaa.DelC Go.Proofs.Ytjkjdpainenofaa.DelD Go.Proofs.Ytjkjdpainenofaa.DelE Go.Proofs.Ytjkjdpainenofaa.DelF
set_option linter.unusedVariables false
set_option linter.unusedSimpArgs false
set_option linter.unusedSectionVars false
theorem inf22 : Inf Try.prog 22 5 1 1 := ⟨Try.underlying22, _, _, rfl, rfl, rfl, rfl, rfl⟩

def A4 : List UInt8 := [97, 98, 99, 100]
def A5 : List UInt8 := [97, 98, 88, 99, 100]
theorem edgA : Edg A4 A5 2 2 := by unfold Edg IsP; decide
theorem aptA : apt A4 (mkL A4 A5 2 2) = (A5, 0) := by decide +kernel
theorem lenA : (mkL A4 A5 2 2).length = 32 := by decide

theorem known_ct  (w0 : World) (H0 : Heap)
     :
    Ct Try.prog w0 7 #[] H0 (fun r H2 => r = .bool true ∧ Nw H0 H2) := by
  refine Ct.enter (args := []) Try.func7 rfl rfl rfl ?_
  intro Q0 hret
  have hm0 : Nw H0 H0 := Mo.refl _ _
  refine CW.seq (fun K1 hK1 hE1 => ?_)
  refine CW.region ?_
  refine LR.v (Y.assign rfl rfl) (Wd.u rfl) rfl rfl ?_
  refine LR.nil ?_
  refine hK1 _ _ ?_
  refine CW.seq (fun K2 hK2 hE2 => ?_)
  refine CW.region ?_
  refine LR.z (Z.litw _ (A4) rfl inf22 rfl rfl rfl (by decide) (by decide) fB_len fB_one (rfl)) (Wd.u rfl) rfl rfl (fun v4 H4 r4 => ?_)
  obtain ⟨ow4, hs4, ob4, hH4⟩ := r4
  have hzs4 : H4.size = H0.size + 1 := by rw [hH4]; simp
  have nx1 : Nx 0 H0.size (H0.size + 1) := Nx.new hm0.size
  replace hm0 := hm0.tr hs4
  have hz1 := hs4.size
  refine LR.z (Z.bconst ow4 (by decide) rfl Try.underlying22 Try.underlying5 rfl) (Wd.u rfl) rfl rfl (fun v5 H5 r5 => ?_)
  obtain ⟨rfl, ow4, hs5⟩ := r5
  replace hs5 := hs5.md
  replace hm0 := (Mo.trL (ks := []) (hm0.mdn []) hs5 (MIL.cons (MI.app MI.z (nx1) (Nat.le_refl _)) MIL.nil)).nil
  have hz2 := hs5.size
  refine LR.z (Z.litw _ (A5) rfl inf22 rfl rfl rfl (by decide) (by decide) fB_len fB_one (rfl)) (Wd.u rfl) rfl rfl (fun v6 H6 r6 => ?_)
  obtain ⟨ow6, hs6, ob6, hH6⟩ := r6
  have hzs6 : H6.size = H5.size + 1 := by rw [hH6]; simp
  have dj2 : Dj (H0.size + 1) (H5.size + 1) := Dj.new ow4.le
  have nx3 : Nx 0 H0.size (H5.size + 1) := Nx.new hm0.size
  replace ow4 := ow4.nw hs6
  replace hm0 := hm0.tr hs6
  have hz3 := hs6.size
  refine LR.z (Z.bconst ow6 (by decide) rfl Try.underlying22 Try.underlying5 rfl) (Wd.u rfl) rfl rfl (fun v7 H7 r7 => ?_)
  obtain ⟨rfl, ow6, hs7⟩ := r7
  replace hs7 := hs7.md
  replace ow4 := ow4.upL hs7 (DL.cons dj2 DL.nil)
  replace hm0 := (Mo.trL (ks := []) (hm0.mdn []) hs7 (MIL.cons (MI.app MI.z (nx3) (Nat.le_refl _)) MIL.nil)).nil
  have hz4 := hs7.size
  -- call selvage/delta.Make
  refine LR.call rfl Try.call10 rfl (Wd.u rfl) rfl rfl (make_ct _ _ A4 A5 w0 _ ow4.rd.any ow6.rd.any (by decide) (by decide)) (fun v8 H8 r8 => ?_)
  obtain ⟨v8, k1, p8, s8, rfl, hE8, ow1, hk8, hs8⟩ := r8
  have dj4 : Dj (H0.size + 1) k1 := Dj.app (Dj.z) ow4.le hk8
  have dj5 : Dj (H5.size + 1) k1 := Dj.app (Dj.z) ow6.le hk8
  have nx6 : Nx 0 H0.size k1 := Nx.tr (Nx.refl 0 _) hk8 hm0.size
  replace ow4 := ow4.nw hs8
  replace ow6 := ow6.nw hs8
  replace hm0 := hm0.tr hs8
  have hz5 := hs8.size
  have hle_ow1 := ow1.le
  obtain ⟨rfl, rfl⟩ := hE8.one edgA
  refine LR.v (Y.assign rfl rfl) (Wd.u rfl) rfl rfl ?_
  refine LR.nil ?_
  refine hK2 _ _ ?_
  refine CW.seq (fun K3 hK3 hE3 => ?_)
  refine CW.region ?_
  refine LR.z (Z.litw _ (A4) rfl inf22 rfl rfl rfl (by decide) (by decide) fB_len fB_one (rfl)) (Wd.u rfl) rfl rfl (fun v10 H10 r10 => ?_)
  obtain ⟨ow10, hs10, ob10, hH10⟩ := r10
  have hzs10 : H10.size = H8.size + 1 := by rw [hH10]; simp
  have dj7 : Dj k1 (H8.size + 1) := Dj.new ow1.le
  have nx8 : Nx 0 H0.size (H8.size + 1) := Nx.new hm0.size
  replace ow1 := ow1.nw hs10
  replace hm0 := hm0.tr hs10
  have hz6 := hs10.size
  refine LR.z (Z.bconst ow10 (by decide) rfl Try.underlying22 Try.underlying5 rfl) (Wd.u rfl) rfl rfl (fun v11 H11 r11 => ?_)
  obtain ⟨rfl, ow10, hs11⟩ := r11
  replace hs11 := hs11.md
  replace ow1 := ow1.upL hs11 (DL.cons dj7 DL.nil)
  replace hm0 := (Mo.trL (ks := []) (hm0.mdn []) hs11 (MIL.cons (MI.app MI.z (nx8) (Nat.le_refl _)) MIL.nil)).nil
  have hz7 := hs11.size
  refine LR.v (Y.move rfl rfl) (Wd.u rfl) rfl rfl ?_
  -- call selvage/delta.Apply
  refine LR.call rfl Try.call8 rfl (Wd.u rfl) rfl rfl (apply_ct _ _ A4 (mkL A4 A5 2 2) w0 _ ow10.rd.any ow1.rd.any (by decide) (by rw [lenA]; decide)) (fun v13 H13 r13 => ?_)
  obtain ⟨v13, k2, x13, e13, rfl, hq2, hk13, hx13, hs13⟩ := r13
  have dj9 : Dj k1 k2 := Dj.app (Dj.z) ow1.le hk13
  have dj10 : Dj (H8.size + 1) k2 := Dj.app (Dj.z) ow10.le hk13
  have nx11 : Nx 0 H0.size k2 := Nx.tr (Nx.refl 0 _) hk13 hm0.size
  replace ow1 := ow1.nw hs13
  replace ow10 := ow10.nw hs13
  replace hm0 := hm0.tr hs13
  have hz8 := hs13.size
  have hle_hq2 := hq2.le
  have hx2 := hx13
  rw [aptA] at hx2
  obtain ⟨rfl, rfl⟩ := Prod.mk.inj hx2
  refine LR.v (Y.move rfl rfl) (Wd.u rfl) rfl rfl ?_
  refine LR.v (Y.extract rfl rfl rfl) (Wd.u rfl) rfl rfl ?_
  refine LR.v (Y.extract rfl rfl rfl) (Wd.u rfl) rfl rfl ?_
  refine LR.v (Y.assign rfl rfl) (Wd.u rfl) rfl rfl ?_
  refine LR.v (Y.assign rfl rfl) (Wd.u rfl) rfl rfl ?_
  refine LR.nil ?_
  refine hK3 _ _ ?_
  refine CW.seq (fun K4 hK4 hE4 => ?_)
  refine CW.region ?_
  refine LR.v (Y.move rfl rfl) (Wd.u rfl) rfl rfl ?_
  refine LR.v ((Y.eql rfl rfl rfl).isT (rfl)) (Wd.u rfl) rfl rfl ?_
  refine LR.v (Y.move rfl rfl) (Wd.u rfl) rfl rfl ?_
  refine LR.v (Y.move rfl rfl) (Wd.g rfl rfl rfl) rfl rfl ?_
  refine LR.v (Y.bstr hq2.rd rfl Try.underlying22 Try.underlying9 Try.underlying5 rfl) (Wd.g rfl rfl rfl) rfl rfl ?_
  refine LR.v ((Y.seql rfl rfl rfl).isT (rfl)) (Wd.g rfl rfl rfl) rfl rfl ?_
  refine LR.v (Y.pick_t rfl rfl rfl) (Wd.u rfl) rfl rfl ?_
  refine LR.v (Y.move rfl rfl) (Wd.u rfl) rfl rfl ?_
  refine LR.v (Y.move rfl rfl) (Wd.g rfl rfl rfl) rfl rfl ?_
  refine LR.v (Y.cast (v2 := .int .i64 32) (Y.len ow1.rd rfl Try.runUnderlying22 rfl) (by rw [lenA]; rfl)) (Wd.g rfl rfl rfl) rfl rfl ?_
  refine LR.v ((Y.eql rfl rfl rfl).isT (rfl)) (Wd.g rfl rfl rfl) rfl rfl ?_
  refine LR.v (Y.pick_t rfl rfl rfl) (Wd.u rfl) rfl rfl ?_
  refine LR.v (Y.assign rfl rfl) (Wd.u rfl) rfl rfl ?_
  refine LR.nil ?_
  refine hK4 _ _ ?_
  refine CW.ret (hret .ret (.inr rfl) _ _ _ (res1 rfl rfl) ?_)
  exact ⟨rfl, hm0⟩

end Go.Proofs.Ytjkjdpainenofaa.DelG
