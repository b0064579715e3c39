/-
  The chapter's example holds.
-/
import Derived.Test.YtepdhokpfecdnaaGraN
namespace Go.Proofs.Ytepdhokpfecdnaa.GraO
open Go.Proofs.Ytepdhokpfecdnaa.E Go.RowKit Go.Proofs.Ytepdhokpfecdnaa.GraA Go.Proofs.Ytepdhokpfecdnaa.GraB Go.Proofs.Ytepdhokpfecdnaa.GraC Go.Proofs.Ytepdhokpfecdnaa.GraD Go.Proofs.Ytepdhokpfecdnaa.GraE Go.Proofs.Ytepdhokpfecdnaa.GraF Go.Proofs.Ytepdhokpfecdnaa.GraG Go.Proofs.Ytepdhokpfecdnaa.GraH Go.Proofs.Ytepdhokpfecdnaa.GraI Go.Proofs.Ytepdhokpfecdnaa.GraJ Go.Proofs.Ytepdhokpfecdnaa.GraK Go.Proofs.Ytepdhokpfecdnaa.GraL Go.Proofs.Ytepdhokpfecdnaa.GraM Go.Proofs.Ytepdhokpfecdnaa.GraN
set_option maxRecDepth 20000
set_option linter.unusedVariables false
set_option linter.unusedSimpArgs false
set_option linter.unusedSectionVars false
set_option maxRecDepth 100000 in
theorem inf22 : Inf Try.prog 22 38 1 24 := ⟨Try.underlying22, _, _, rfl, rfl, rfl, rfl, rfl⟩
set_option maxRecDepth 100000 in
theorem inf28 : Inf Try.prog 28 30 32 32 := ⟨Try.underlying28, _, _, rfl, rfl, rfl, rfl, rfl⟩
set_option maxRecDepth 100000 in
theorem inf38 : Inf Try.prog 38 3 1 8 := ⟨Try.underlying38, _, _, rfl, rfl, rfl, rfl, rfl⟩

theorem srd_of {s : SV} {rs : List Rw} {H : Heap} {F : Nat → Prop} (hl : Rd F H fRw 1 s.v rs) (hx : ∀ x ∈ rs, Rd F H fN 1 x.v.v x.l) : SRd F H (.rows s rs) :=
  ⟨fun v l e => by cases e; exact hl, fun v l e x hx2 => by cases e; exact hx x hx2⟩
theorem Ow.bl {α : Type} {k b : Nat} {e : TypeId} {H : Heap} {f : α → List Value} {sz : Nat} {v : Value} {l : List α} (x : Ow k e H f sz v l) (h : k ≤ b) : Rd (fun c => c < b) H f sz v l := x.rd.imp (fun c _ e => by omega)
theorem el0 {l : List Ide} {x : Ide} {n : Nat} {y : List Ide} (h : l = y) (hn : n < l.length) (hy : y[n]? = some x) : (.agg (fA l[n]).toArray : Value) = vA x := by
  subst h
  rw [List.getElem?_eq_getElem hn] at hy
  rw [Option.some.inj hy]; rfl

set_option maxHeartbeats 4000000 in
theorem known_ct  (w0 : World) (H0 : Heap)
     :
    Ct Try.prog w0 10 #[] H0 (fun r H2 => r = .bool true ∧ Nw H0 H2) := by
  refine Ct.enter (args := []) Try.func10 rfl rfl rfl ?_
  intro Q0 hret
  have hm0 : Nw H0 H0 := Mo.refl _ _
  refine CW.seq (fun K1 hK1 hE1 => ?_)
  refine CW.region ?_
  refine LR.v (Y.assign rfl rfl) (Wd.u rfl) rfl rfl ?_
  refine LR.nil ?_
  refine hK1 _ _ ?_
  refine CW.seq (fun K2 hK2 hE2 => ?_)
  refine CW.region ?_
  refine LR.z (Z.litw _ (([] : List Nat)) rfl inf38 rfl rfl rfl (by decide) (by decide) fN_len fN_one (rfl)) (Wd.u rfl) rfl rfl (fun v8 H8 r8 => ?_)
  obtain ⟨ow8, hs8, ob8, hH8⟩ := r8
  have hzs8 : H8.size = H0.size + 1 := by rw [hH8]; simp
  have nx1 : Nx 0 H0.size (H0.size + 1) := Nx.new hm0.size
  replace hm0 := hm0.tr hs8
  have hz1 := hs8.size
  obtain ⟨s8, rfl⟩ : ∃ s : SV, v8 = s.v := ⟨toSV v8, ow8.sv.symm⟩
  refine LR.z (Z.litw _ ([0]) rfl inf38 rfl rfl rfl (by decide) (by decide) fN_len fN_one (rfl)) (Wd.u rfl) rfl rfl (fun v9 H9 r9 => ?_)
  obtain ⟨ow9, hs9, ob9, hH9⟩ := r9
  have hzs9 : H9.size = H8.size + 1 := by rw [hH9]; simp
  have dj2 : Dj (H0.size + 1) (H8.size + 1) := Dj.new ow8.le
  have nx3 : Nx 0 H0.size (H8.size + 1) := Nx.new hm0.size
  replace ow8 := ow8.nw hs9
  replace hm0 := hm0.tr hs9
  have hz2 := hs9.size
  obtain ⟨s9, rfl⟩ : ∃ s : SV, v9 = s.v := ⟨toSV v9, ow9.sv.symm⟩
  refine LR.z (Z.litw _ ([0]) rfl inf38 rfl rfl rfl (by decide) (by decide) fN_len fN_one (rfl)) (Wd.u rfl) rfl rfl (fun v10 H10 r10 => ?_)
  obtain ⟨ow10, hs10, ob10, hH10⟩ := r10
  have hzs10 : H10.size = H9.size + 1 := by rw [hH10]; simp
  have dj4 : Dj (H0.size + 1) (H9.size + 1) := Dj.new ow8.le
  have dj5 : Dj (H8.size + 1) (H9.size + 1) := Dj.new ow9.le
  have nx6 : Nx 0 H0.size (H9.size + 1) := Nx.new hm0.size
  replace ow8 := ow8.nw hs10
  replace ow9 := ow9.nw hs10
  replace hm0 := hm0.tr hs10
  have hz3 := hs10.size
  obtain ⟨s10, rfl⟩ : ∃ s : SV, v10 = s.v := ⟨toSV v10, ow10.sv.symm⟩
  refine LR.z (Z.litw _ ([1, 2]) rfl inf38 rfl rfl rfl (by decide) (by decide) fN_len fN_one (rfl)) (Wd.u rfl) rfl rfl (fun v11 H11 r11 => ?_)
  obtain ⟨ow11, hs11, ob11, hH11⟩ := r11
  have hzs11 : H11.size = H10.size + 1 := by rw [hH11]; simp
  have dj7 : Dj (H0.size + 1) (H10.size + 1) := Dj.new ow8.le
  have dj8 : Dj (H8.size + 1) (H10.size + 1) := Dj.new ow9.le
  have dj9 : Dj (H9.size + 1) (H10.size + 1) := Dj.new ow10.le
  have nx10 : Nx 0 H0.size (H10.size + 1) := Nx.new hm0.size
  replace ow8 := ow8.nw hs11
  replace ow9 := ow9.nw hs11
  replace ow10 := ow10.nw hs11
  replace hm0 := hm0.tr hs11
  have hz4 := hs11.size
  obtain ⟨s11, rfl⟩ : ∃ s : SV, v11 = s.v := ⟨toSV v11, ow11.sv.symm⟩
  refine LR.z (Z.litw _ ([⟨s8, []⟩, ⟨s9, [0]⟩, ⟨s10, [0]⟩, ⟨s11, [1, 2]⟩]) rfl inf22 rfl rfl rfl (by decide) (by decide) fRw_len fRw_one (rfl)) (Wd.u rfl) rfl rfl (fun v12 H12 r12 => ?_)
  obtain ⟨ow12, hs12, ob12, hH12⟩ := r12
  have hzs12 : H12.size = H11.size + 1 := by rw [hH12]; simp
  have dj11 : Dj (H0.size + 1) (H11.size + 1) := Dj.new ow8.le
  have dj12 : Dj (H8.size + 1) (H11.size + 1) := Dj.new ow9.le
  have dj13 : Dj (H9.size + 1) (H11.size + 1) := Dj.new ow10.le
  have dj14 : Dj (H10.size + 1) (H11.size + 1) := Dj.new ow11.le
  have nx15 : Nx 0 H0.size (H11.size + 1) := Nx.new hm0.size
  replace ow8 := ow8.nw hs12
  replace ow9 := ow9.nw hs12
  replace ow10 := ow10.nw hs12
  replace ow11 := ow11.nw hs12
  replace hm0 := hm0.tr hs12
  have hz5 := hs12.size
  obtain ⟨s12, rfl⟩ : ∃ s : SV, v12 = s.v := ⟨toSV v12, ow12.sv.symm⟩
  refine LR.v (Y.build (v := .agg #[s12.v, .int .i64 0]) rfl rfl (by intro w; kernel_rfl)) (Wd.u rfl) rfl rfl ?_
  refine LR.z (Z.boxv rfl rfl) (Wd.u rfl) rfl rfl (fun v14 H14 r14 => ?_)
  obtain ⟨rfl, va14, hs14, ob14, hH14⟩ := r14
  have hzs14 : H14.size = H12.size + 1 := by rw [hH14]; simp
  have dj16 : Dj (H0.size + 1) (H12.size + 1) := Dj.new ow8.le
  have dj17 : Dj (H8.size + 1) (H12.size + 1) := Dj.new ow9.le
  have dj18 : Dj (H9.size + 1) (H12.size + 1) := Dj.new ow10.le
  have dj19 : Dj (H10.size + 1) (H12.size + 1) := Dj.new ow11.le
  have dj20 : Dj (H11.size + 1) (H12.size + 1) := Dj.new ow12.le
  have nx21 : Nx 0 H0.size (H12.size + 1) := Nx.new hm0.size
  replace ow8 := ow8.nw hs14
  replace ow9 := ow9.nw hs14
  replace ow10 := ow10.nw hs14
  replace ow11 := ow11.nw hs14
  replace ow12 := ow12.nw hs14
  replace hm0 := hm0.tr hs14
  have hz6 := hs14.size
  replace va14 : Var 27 H14 H12.size ([s12.v, .int .i64 ((0 : Nat) : Int)]) := va14
  
  refine LR.v (Y.assign rfl rfl) (Wd.u rfl) rfl rfl ?_
  refine LR.nil ?_
  refine hK2 _ _ ?_
  refine CW.seq (fun K3 hK3 hE3 => ?_)
  refine CW.region ?_
  refine LR.v (Y.move rfl rfl) (Wd.u rfl) rfl rfl ?_
  refine LR.v (Y.mki rfl Try.runUnderlying25 (by intro ms h; cases h) rfl) (Wd.u rfl) rfl rfl ?_
  -- call selvage/selvagelaw11.Id
  refine LR.call rfl Try.call12 rfl (Wd.u rfl) rfl rfl (idn_ct 1 w0 _ (by omega)) (fun v18 H18 r18 => ?_)
  obtain ⟨rfl, hs18⟩ := r18
  replace ow8 := ow8.nw hs18
  replace ow9 := ow9.nw hs18
  replace ow10 := ow10.nw hs18
  replace ow11 := ow11.nw hs18
  replace ow12 := ow12.nw hs18
  replace va14 := va14.nw hs18
  replace hm0 := hm0.tr hs18
  have hz7 := hs18.size
  -- call selvage/selvagelaw11.Id
  refine LR.call rfl Try.call12 rfl (Wd.u rfl) rfl rfl (idn_ct 2 w0 _ (by omega)) (fun v19 H19 r19 => ?_)
  obtain ⟨rfl, hs19⟩ := r19
  replace ow8 := ow8.nw hs19
  replace ow9 := ow9.nw hs19
  replace ow10 := ow10.nw hs19
  replace ow11 := ow11.nw hs19
  replace ow12 := ow12.nw hs19
  replace va14 := va14.nw hs19
  replace hm0 := hm0.tr hs19
  have hz8 := hs19.size
  -- call selvage/graph.Bases
  refine LR.call rfl Try.call18 rfl (Wd.u rfl) rfl rfl (bas_ct (.rows s12 [⟨s8, []⟩, ⟨s9, [0]⟩, ⟨s10, [0]⟩, ⟨s11, [1, 2]⟩]) H12.size 0 (fun c => c < H12.size) (idn 1) (idn 2) (rkL KN) w0 _ va14 (srd_of (Ow.bl ow12 (by omega)) (fun x hx => by simp only [List.mem_cons, List.not_mem_nil, or_false] at hx; rcases hx with rfl | rfl | rfl | rfl; exact Ow.bl ow8 (by omega); exact Ow.bl ow9 (by omega); exact Ow.bl ow10 (by omega); exact Ow.bl ow11 (by omega))) (fun c (h : c < H12.size) => by omega) (fun c (h : c < H12.size) h2 => by omega) ⟨by simp, by simp⟩ (by omega) knOk.ac) (fun v20 H20 r20 => ?_)
  have ql22 := ow8.le
  have ql23 := ow9.le
  have ql24 := ow10.le
  have ql25 := ow11.le
  have ql26 := ow12.le
  have ql27 := va14.lt
  obtain ⟨s20, k20, o20, e20, q20, rfl, ow20, hk20, va14, hR20, hq20, hs20⟩ := r20
  have dj28 : Dj (H0.size + 1) k20 := Dj.app (Dj.z) ql22 hk20
  have dj29 : Dj (H8.size + 1) k20 := Dj.app (Dj.z) ql23 hk20
  have dj30 : Dj (H9.size + 1) k20 := Dj.app (Dj.z) ql24 hk20
  have dj31 : Dj (H10.size + 1) k20 := Dj.app (Dj.z) ql25 hk20
  have dj32 : Dj (H11.size + 1) k20 := Dj.app (Dj.z) ql26 hk20
  have dj33 : Dj (H12.size + 1) k20 := Dj.app (Dj.z) ql27 hk20
  have nx34 : Nx 0 H0.size k20 := Nx.tr (Nx.refl 0 _) hk20 hm0.size
  replace ow8 := ow8.upL hs20 (DL.cons dj16 DL.nil)
  replace ow9 := ow9.upL hs20 (DL.cons dj17 DL.nil)
  replace ow10 := ow10.upL hs20 (DL.cons dj18 DL.nil)
  replace ow11 := ow11.upL hs20 (DL.cons dj19 DL.nil)
  replace ow12 := ow12.upL hs20 (DL.cons dj20 DL.nil)
  replace hm0 := (Mo.trL (ks := []) (hm0.mdn []) hs20 (MIL.cons (MI.app MI.z (nx21) (Nat.le_refl _)) MIL.nil)).nil
  have hz9 := hs20.size
  have hle_ow20 := ow20.le
  obtain ⟨he20, ho20⟩ := bas_one hR20 (fun K e h => knOk.ok (st := [idn 1, idn 2]) (fun i hi => by simp only [List.mem_cons, List.not_mem_nil, or_false] at hi; rcases hi with rfl | rfl; exact ⟨1, by decide, rfl⟩; exact ⟨2, by decide, rfl⟩) h) kn_best12
  refine LR.v (Y.move rfl rfl) (Wd.u rfl) rfl rfl ?_
  refine LR.v (Y.extract rfl rfl rfl) (Wd.u rfl) rfl rfl ?_
  refine LR.v (Y.extract rfl rfl rfl) (Wd.u rfl) rfl rfl ?_
  refine LR.v (Y.assign rfl rfl) (Wd.u rfl) rfl rfl ?_
  refine LR.v (Y.assign rfl rfl) (Wd.u rfl) rfl rfl ?_
  refine LR.nil ?_
  refine hK3 _ _ ?_
  refine CW.seq (fun K4 hK4 hE4 => ?_)
  refine CW.region ?_
  refine LR.v (Y.move rfl rfl) (Wd.u rfl) rfl rfl ?_
  refine LR.v (Y.mki rfl Try.runUnderlying25 (by intro ms h; cases h) rfl) (Wd.u rfl) rfl rfl ?_
  -- call selvage/selvagelaw11.Id
  refine LR.call rfl Try.call12 rfl (Wd.u rfl) rfl rfl (idn_ct 3 w0 _ (by omega)) (fun v26 H26 r26 => ?_)
  obtain ⟨rfl, hs26⟩ := r26
  replace ow8 := ow8.nw hs26
  replace ow9 := ow9.nw hs26
  replace ow10 := ow10.nw hs26
  replace ow11 := ow11.nw hs26
  replace ow12 := ow12.nw hs26
  replace va14 := va14.nw hs26
  replace ow20 := ow20.nw hs26
  replace hm0 := hm0.tr hs26
  have hz10 := hs26.size
  -- call selvage/selvagelaw11.Id
  refine LR.call rfl Try.call12 rfl (Wd.u rfl) rfl rfl (idn_ct 1 w0 _ (by omega)) (fun v27 H27 r27 => ?_)
  obtain ⟨rfl, hs27⟩ := r27
  replace ow8 := ow8.nw hs27
  replace ow9 := ow9.nw hs27
  replace ow10 := ow10.nw hs27
  replace ow11 := ow11.nw hs27
  replace ow12 := ow12.nw hs27
  replace va14 := va14.nw hs27
  replace ow20 := ow20.nw hs27
  replace hm0 := hm0.tr hs27
  have hz11 := hs27.size
  -- call selvage/graph.Bases
  refine LR.call rfl Try.call18 rfl (Wd.u rfl) rfl rfl (bas_ct (.rows s12 [⟨s8, []⟩, ⟨s9, [0]⟩, ⟨s10, [0]⟩, ⟨s11, [1, 2]⟩]) H12.size _ (fun c => c < H12.size) (idn 3) (idn 1) (rkL KN) w0 _ va14 (srd_of (Ow.bl ow12 (by omega)) (fun x hx => by simp only [List.mem_cons, List.not_mem_nil, or_false] at hx; rcases hx with rfl | rfl | rfl | rfl; exact Ow.bl ow8 (by omega); exact Ow.bl ow9 (by omega); exact Ow.bl ow10 (by omega); exact Ow.bl ow11 (by omega))) (fun c (h : c < H12.size) => by omega) (fun c (h : c < H12.size) h2 => by omega) ⟨by simp, by simp⟩ (by omega) knOk.ac) (fun v28 H28 r28 => ?_)
  have ql35 := ow8.le
  have ql36 := ow9.le
  have ql37 := ow10.le
  have ql38 := ow11.le
  have ql39 := ow12.le
  have ql40 := va14.lt
  have ql41 := ow20.le
  obtain ⟨s28, k28, o28, e28, q28, rfl, ow28, hk28, va14, hR28, hq28, hs28⟩ := r28
  have dj42 : Dj (H0.size + 1) k28 := Dj.app (Dj.z) ql35 hk28
  have dj43 : Dj (H8.size + 1) k28 := Dj.app (Dj.z) ql36 hk28
  have dj44 : Dj (H9.size + 1) k28 := Dj.app (Dj.z) ql37 hk28
  have dj45 : Dj (H10.size + 1) k28 := Dj.app (Dj.z) ql38 hk28
  have dj46 : Dj (H11.size + 1) k28 := Dj.app (Dj.z) ql39 hk28
  have dj47 : Dj (H12.size + 1) k28 := Dj.app (Dj.z) ql40 hk28
  have dj48 : Dj k20 k28 := Dj.app (Dj.z) ql41 hk28
  have nx49 : Nx 0 H0.size k28 := Nx.tr (Nx.refl 0 _) hk28 hm0.size
  replace ow8 := ow8.upL hs28 (DL.cons dj16 DL.nil)
  replace ow9 := ow9.upL hs28 (DL.cons dj17 DL.nil)
  replace ow10 := ow10.upL hs28 (DL.cons dj18 DL.nil)
  replace ow11 := ow11.upL hs28 (DL.cons dj19 DL.nil)
  replace ow12 := ow12.upL hs28 (DL.cons dj20 DL.nil)
  replace ow20 := ow20.upL hs28 (DL.cons dj33.symm DL.nil)
  replace hm0 := (Mo.trL (ks := []) (hm0.mdn []) hs28 (MIL.cons (MI.app MI.z (nx21) (Nat.le_refl _)) MIL.nil)).nil
  have hz12 := hs28.size
  have hle_ow28 := ow28.le
  obtain ⟨he28, ho28⟩ := bas_one hR28 (fun K e h => knOk.ok (st := [idn 3, idn 1]) (fun i hi => by simp only [List.mem_cons, List.not_mem_nil, or_false] at hi; rcases hi with rfl | rfl; exact ⟨3, by decide, rfl⟩; exact ⟨1, by decide, rfl⟩) h) kn_best31
  refine LR.v (Y.move rfl rfl) (Wd.u rfl) rfl rfl ?_
  refine LR.v (Y.extract rfl rfl rfl) (Wd.u rfl) rfl rfl ?_
  refine LR.v (Y.extract rfl rfl rfl) (Wd.u rfl) rfl rfl ?_
  refine LR.v (Y.assign rfl rfl) (Wd.u rfl) rfl rfl ?_
  refine LR.v (Y.assign rfl rfl) (Wd.u rfl) rfl rfl ?_
  refine LR.nil ?_
  refine hK4 _ _ ?_
  refine CW.seq (fun K5 hK5 hE5 => ?_)
  refine CW.region ?_
  refine LR.v (Y.move rfl rfl) (Wd.u rfl) rfl rfl ?_
  refine LR.v (Y.mki rfl Try.runUnderlying25 (by intro ms h; cases h) rfl) (Wd.u rfl) rfl rfl ?_
  -- call selvage/selvagelaw11.Id
  refine LR.call rfl Try.call12 rfl (Wd.u rfl) rfl rfl (idn_ct 3 w0 _ (by omega)) (fun v34 H34 r34 => ?_)
  obtain ⟨rfl, hs34⟩ := r34
  replace ow8 := ow8.nw hs34
  replace ow9 := ow9.nw hs34
  replace ow10 := ow10.nw hs34
  replace ow11 := ow11.nw hs34
  replace ow12 := ow12.nw hs34
  replace va14 := va14.nw hs34
  replace ow20 := ow20.nw hs34
  replace ow28 := ow28.nw hs34
  replace hm0 := hm0.tr hs34
  have hz13 := hs34.size
  refine LR.z (Z.litw _ ([idn 3]) rfl inf28 rfl rfl rfl (by decide) (by decide) fA_len fA_one (rfl)) (Wd.u rfl) rfl rfl (fun v35 H35 r35 => ?_)
  obtain ⟨ow35, hs35, ob35, hH35⟩ := r35
  have hzs35 : H35.size = H34.size + 1 := by rw [hH35]; simp
  have dj50 : Dj (H0.size + 1) (H34.size + 1) := Dj.new ow8.le
  have dj51 : Dj (H8.size + 1) (H34.size + 1) := Dj.new ow9.le
  have dj52 : Dj (H9.size + 1) (H34.size + 1) := Dj.new ow10.le
  have dj53 : Dj (H10.size + 1) (H34.size + 1) := Dj.new ow11.le
  have dj54 : Dj (H11.size + 1) (H34.size + 1) := Dj.new ow12.le
  have dj55 : Dj (H12.size + 1) (H34.size + 1) := Dj.new va14.lt
  have dj56 : Dj k20 (H34.size + 1) := Dj.new ow20.le
  have dj57 : Dj k28 (H34.size + 1) := Dj.new ow28.le
  have nx58 : Nx 0 H0.size (H34.size + 1) := Nx.new hm0.size
  replace ow8 := ow8.nw hs35
  replace ow9 := ow9.nw hs35
  replace ow10 := ow10.nw hs35
  replace ow11 := ow11.nw hs35
  replace ow12 := ow12.nw hs35
  replace va14 := va14.nw hs35
  replace ow20 := ow20.nw hs35
  replace ow28 := ow28.nw hs35
  replace hm0 := hm0.tr hs35
  have hz14 := hs35.size
  obtain ⟨s35, rfl⟩ : ∃ s : SV, v35 = s.v := ⟨toSV v35, ow35.sv.symm⟩
  -- call selvage/selvagelaw11.Id
  refine LR.call rfl Try.call12 rfl (Wd.u rfl) rfl rfl (idn_ct 1 w0 _ (by omega)) (fun v36 H36 r36 => ?_)
  obtain ⟨rfl, hs36⟩ := r36
  replace ow8 := ow8.nw hs36
  replace ow9 := ow9.nw hs36
  replace ow10 := ow10.nw hs36
  replace ow11 := ow11.nw hs36
  replace ow12 := ow12.nw hs36
  replace va14 := va14.nw hs36
  replace ow20 := ow20.nw hs36
  replace ow28 := ow28.nw hs36
  replace ow35 := ow35.nw hs36
  replace hm0 := hm0.tr hs36
  have hz15 := hs36.size
  refine LR.z (Z.litw _ ([idn 1]) rfl inf28 rfl rfl rfl (by decide) (by decide) fA_len fA_one (rfl)) (Wd.u rfl) rfl rfl (fun v37 H37 r37 => ?_)
  obtain ⟨ow37, hs37, ob37, hH37⟩ := r37
  have hzs37 : H37.size = H36.size + 1 := by rw [hH37]; simp
  have dj59 : Dj (H0.size + 1) (H36.size + 1) := Dj.new ow8.le
  have dj60 : Dj (H8.size + 1) (H36.size + 1) := Dj.new ow9.le
  have dj61 : Dj (H9.size + 1) (H36.size + 1) := Dj.new ow10.le
  have dj62 : Dj (H10.size + 1) (H36.size + 1) := Dj.new ow11.le
  have dj63 : Dj (H11.size + 1) (H36.size + 1) := Dj.new ow12.le
  have dj64 : Dj (H12.size + 1) (H36.size + 1) := Dj.new va14.lt
  have dj65 : Dj k20 (H36.size + 1) := Dj.new ow20.le
  have dj66 : Dj k28 (H36.size + 1) := Dj.new ow28.le
  have dj67 : Dj (H34.size + 1) (H36.size + 1) := Dj.new ow35.le
  have nx68 : Nx 0 H0.size (H36.size + 1) := Nx.new hm0.size
  replace ow8 := ow8.nw hs37
  replace ow9 := ow9.nw hs37
  replace ow10 := ow10.nw hs37
  replace ow11 := ow11.nw hs37
  replace ow12 := ow12.nw hs37
  replace va14 := va14.nw hs37
  replace ow20 := ow20.nw hs37
  replace ow28 := ow28.nw hs37
  replace ow35 := ow35.nw hs37
  replace hm0 := hm0.tr hs37
  have hz16 := hs37.size
  obtain ⟨s37, rfl⟩ : ∃ s : SV, v37 = s.v := ⟨toSV v37, ow37.sv.symm⟩
  -- call selvage/graph.Order
  refine LR.call rfl Try.call13 rfl (Wd.u rfl) rfl rfl (ord_ct (.rows s12 [⟨s8, []⟩, ⟨s9, [0]⟩, ⟨s10, [0]⟩, ⟨s11, [1, 2]⟩]) H12.size _ (fun c => c < H12.size) s35 s37 [idn 3] [idn 1] (rkL KN) w0 _ va14 (srd_of (Ow.bl ow12 (by omega)) (fun x hx => by simp only [List.mem_cons, List.not_mem_nil, or_false] at hx; rcases hx with rfl | rfl | rfl | rfl; exact Ow.bl ow8 (by omega); exact Ow.bl ow9 (by omega); exact Ow.bl ow10 (by omega); exact Ow.bl ow11 (by omega))) (fun c (h : c < H12.size) => by omega) (fun c (h : c < H12.size) h2 => by omega) ⟨by simp, by simp⟩ (by omega) (Ow.ne ow35 (dj55)) (Ow.ne ow37 (dj64)) (by simp) knOk.ac) (fun v38 H38 r38 => ?_)
  have ql69 := ow8.le
  have ql70 := ow9.le
  have ql71 := ow10.le
  have ql72 := ow11.le
  have ql73 := ow12.le
  have ql74 := va14.lt
  have ql75 := ow20.le
  have ql76 := ow28.le
  have ql77 := ow35.le
  have ql78 := ow37.le
  obtain ⟨s38, k38, o38, e38, q38, rfl, ow38, hk38, va14, hR38, hq38, hs38⟩ := r38
  have dj79 : Dj (H0.size + 1) k38 := Dj.app (Dj.z) ql69 hk38
  have dj80 : Dj (H8.size + 1) k38 := Dj.app (Dj.z) ql70 hk38
  have dj81 : Dj (H9.size + 1) k38 := Dj.app (Dj.z) ql71 hk38
  have dj82 : Dj (H10.size + 1) k38 := Dj.app (Dj.z) ql72 hk38
  have dj83 : Dj (H11.size + 1) k38 := Dj.app (Dj.z) ql73 hk38
  have dj84 : Dj (H12.size + 1) k38 := Dj.app (Dj.z) ql74 hk38
  have dj85 : Dj k20 k38 := Dj.app (Dj.z) ql75 hk38
  have dj86 : Dj k28 k38 := Dj.app (Dj.z) ql76 hk38
  have dj87 : Dj (H34.size + 1) k38 := Dj.app (Dj.z) ql77 hk38
  have dj88 : Dj (H36.size + 1) k38 := Dj.app (Dj.z) ql78 hk38
  have nx89 : Nx 0 H0.size k38 := Nx.tr (Nx.refl 0 _) hk38 hm0.size
  replace ow8 := ow8.upL hs38 (DL.cons dj16 DL.nil)
  replace ow9 := ow9.upL hs38 (DL.cons dj17 DL.nil)
  replace ow10 := ow10.upL hs38 (DL.cons dj18 DL.nil)
  replace ow11 := ow11.upL hs38 (DL.cons dj19 DL.nil)
  replace ow12 := ow12.upL hs38 (DL.cons dj20 DL.nil)
  replace ow20 := ow20.upL hs38 (DL.cons dj33.symm DL.nil)
  replace ow28 := ow28.upL hs38 (DL.cons dj47.symm DL.nil)
  replace ow35 := ow35.upL hs38 (DL.cons dj55.symm DL.nil)
  replace ow37 := ow37.upL hs38 (DL.cons dj64.symm DL.nil)
  replace hm0 := (Mo.trL (ks := []) (hm0.mdn []) hs38 (MIL.cons (MI.app MI.z (nx21) (Nat.le_refl _)) MIL.nil)).nil
  have hz17 := hs38.size
  have hle_ow38 := ow38.le
  obtain ⟨he38, ho38⟩ : e38 = 0 ∧ o38 = [idn 2, idn 3] := by
    rcases hR38 with ⟨h1, h2⟩ | ⟨h1, _, K, h3⟩
    · exact ⟨h1, kn_ord h2⟩
    · exact absurd ((fun K e h => knOk.ok (st := [idn 3, idn 1]) (fun i hi => by simp only [List.mem_cons, List.not_mem_nil, or_false] at hi; rcases hi with rfl | rfl; exact ⟨3, by decide, rfl⟩; exact ⟨1, by decide, rfl⟩) h) K e38 h3) h1
  refine LR.v (Y.move rfl rfl) (Wd.u rfl) rfl rfl ?_
  refine LR.v (Y.extract rfl rfl rfl) (Wd.u rfl) rfl rfl ?_
  refine LR.v (Y.extract rfl rfl rfl) (Wd.u rfl) rfl rfl ?_
  refine LR.v (Y.assign rfl rfl) (Wd.u rfl) rfl rfl ?_
  refine LR.v (Y.assign rfl rfl) (Wd.u rfl) rfl rfl ?_
  refine LR.nil ?_
  refine hK5 _ _ ?_
  refine CW.seq (fun K6 hK6 hE6 => ?_)
  refine CW.region_any (fun Hq => Nw H38 Hq) [] rfl ?_
  have hqs := Nw.refl H38
  refine LH.take 0 (by kernel_rfl) rfl (by kernel_rfl) (by kernel_rfl) (by kernel_rfl) (fun Hq hq => Y.move rfl rfl) (Wd.u rfl) rfl rfl hqs ?_
  refine LH.take 1 (by kernel_rfl) rfl (by kernel_rfl) (by kernel_rfl) (by kernel_rfl) (fun Hq hq => (Y.eeq rfl Try.underlying33 rfl).isT (he20)) (Wd.u rfl) rfl rfl hqs ?_
  refine LH.take 2 (by kernel_rfl) rfl (by kernel_rfl) (by kernel_rfl) (by kernel_rfl) (fun Hq hq => Y.move rfl rfl) (Wd.u rfl) rfl rfl hqs ?_
  refine LH.take 3 (by kernel_rfl) rfl (by kernel_rfl) (by kernel_rfl) (by kernel_rfl) (fun Hq hq => Y.move rfl rfl) (Wd.g rfl rfl rfl) rfl rfl hqs ?_
  refine LH.take 4 (by kernel_rfl) rfl (by kernel_rfl) (by kernel_rfl) (by kernel_rfl) (fun Hq hq => (Y.eeq rfl Try.underlying33 rfl).isT (he28)) (Wd.g rfl rfl rfl) rfl rfl hqs ?_
  refine LH.take 5 (by kernel_rfl) rfl (by kernel_rfl) (by kernel_rfl) (by kernel_rfl) (fun Hq hq => Y.pick_t rfl rfl rfl) (Wd.u rfl) rfl rfl hqs ?_
  refine LH.take 6 (by kernel_rfl) rfl (by kernel_rfl) (by kernel_rfl) (by kernel_rfl) (fun Hq hq => Y.move rfl rfl) (Wd.u rfl) rfl rfl hqs ?_
  refine LH.take 7 (by kernel_rfl) rfl (by kernel_rfl) (by kernel_rfl) (by kernel_rfl) (fun Hq hq => Y.move rfl rfl) (Wd.g rfl rfl rfl) rfl rfl hqs ?_
  refine LH.take 8 (by kernel_rfl) rfl (by kernel_rfl) (by kernel_rfl) (by kernel_rfl) (fun Hq hq => (Y.eeq rfl Try.underlying33 rfl).isT (he38)) (Wd.g rfl rfl rfl) rfl rfl hqs ?_
  refine LH.take 9 (by kernel_rfl) rfl (by kernel_rfl) (by kernel_rfl) (by kernel_rfl) (fun Hq hq => Y.pick_t rfl rfl rfl) (Wd.u rfl) rfl rfl hqs ?_
  refine LH.take 10 (by kernel_rfl) rfl (by kernel_rfl) (by kernel_rfl) (by kernel_rfl) (fun Hq hq => Y.move rfl rfl) (Wd.u rfl) rfl rfl hqs ?_
  refine LH.take 11 (by kernel_rfl) rfl (by kernel_rfl) (by kernel_rfl) (by kernel_rfl) (fun Hq hq => Y.move rfl rfl) (Wd.g rfl rfl rfl) rfl rfl hqs ?_
  refine LH.take 12 (by kernel_rfl) rfl (by kernel_rfl) (by kernel_rfl) (by kernel_rfl) (fun Hq hq => Y.len (ow20.rd.nw hq) rfl Try.runUnderlying28 rfl) (Wd.g rfl rfl rfl) rfl rfl hqs ?_
  refine LH.take 13 (by kernel_rfl) rfl (by kernel_rfl) (by kernel_rfl) (by kernel_rfl) (fun Hq hq => (Y.eql rfl rfl rfl).isT (by rw [ho20]; rfl)) (Wd.g rfl rfl rfl) rfl rfl hqs ?_
  refine LH.take 14 (by kernel_rfl) rfl (by kernel_rfl) (by kernel_rfl) (by kernel_rfl) (fun Hq hq => Y.pick_t rfl rfl rfl) (Wd.u rfl) rfl rfl hqs ?_
  refine LH.take 15 (by kernel_rfl) rfl (by kernel_rfl) (by kernel_rfl) (by kernel_rfl) (fun Hq hq => Y.move rfl rfl) (Wd.u rfl) rfl rfl hqs ?_
  refine LH.take 16 (by kernel_rfl) rfl (by kernel_rfl) (by kernel_rfl) (by kernel_rfl) (fun Hq hq => Y.move rfl rfl) (Wd.g rfl rfl rfl) rfl rfl hqs ?_
  refine LH.take 17 (by kernel_rfl) rfl (by kernel_rfl) (by kernel_rfl) (by kernel_rfl) (fun Hq hq => Y.owAddr (ow20.nw hq) (0) rfl Try.runUnderlying28 Try.sizeOf30 rfl rfl (by first | rfl | omega) (by rw [ho20]; simp)) (Wd.g rfl rfl rfl) rfl rfl hqs ?_
  refine LH.take 18 (by kernel_rfl) rfl (by kernel_rfl) (by kernel_rfl) (by kernel_rfl) (fun Hq hq => Y.cast (v2 := vA (idn 0)) (Y.loadN ((ow20.pt (j := 0) (by rw [ho20]; simp)).nw hq) rfl Try.isAgg30 Try.sizeOf30 (fA_len _) rfl) (el0 ho20 (by rw [ho20]; simp) rfl)) (Wd.g rfl rfl rfl) rfl rfl hqs ?_
  refine LH.one (i := 19) (by kernel_rfl) ?_
  -- call selvage/selvagelaw11.Id
  refine LO.call rfl rfl Try.call12 rfl (Wd.g rfl rfl rfl) rfl rfl (idn_ct 0 w0 _ (by omega)) (fun v60 H60 r60 => ?_)
  obtain ⟨rfl, hs60⟩ := r60
  replace ow8 := ow8.nw hs60
  replace ow9 := ow9.nw hs60
  replace ow10 := ow10.nw hs60
  replace ow11 := ow11.nw hs60
  replace ow12 := ow12.nw hs60
  replace va14 := va14.nw hs60
  replace ow20 := ow20.nw hs60
  replace ow28 := ow28.nw hs60
  replace ow35 := ow35.nw hs60
  replace ow37 := ow37.nw hs60
  replace ow38 := ow38.nw hs60
  replace hm0 := hm0.tr hs60
  have hz18 := hs60.size
  have hq60 := hqs.tr hs60
  refine ⟨.inr hq60, LH.narrow (SH2 := fun Hq => Nw H60 Hq) (fun Hq hq => hq60.tr hq) ?_⟩
  have hqn60 := Nw.refl H60
  refine LH.take 20 (by kernel_rfl) rfl (by kernel_rfl) (by kernel_rfl) (by kernel_rfl) (fun Hq hq => (Y.aeql rfl Try.eqGuardType30 (fun w => run_equalIn_id 9998 Try.underlying30 Try.underlying5 Try.sizeOf5 Try.isAgg5 ((idn 0).2) ((idn 0).2) w) rfl rfl).isT (rfl)) (Wd.g rfl rfl rfl) rfl rfl hqn60 ?_
  refine LH.take 21 (by kernel_rfl) rfl (by kernel_rfl) (by kernel_rfl) (by kernel_rfl) (fun Hq hq => Y.pick_t rfl rfl rfl) (Wd.u rfl) rfl rfl hqn60 ?_
  refine LH.take 22 (by kernel_rfl) rfl (by kernel_rfl) (by kernel_rfl) (by kernel_rfl) (fun Hq hq => Y.move rfl rfl) (Wd.u rfl) rfl rfl hqn60 ?_
  refine LH.take 23 (by kernel_rfl) rfl (by kernel_rfl) (by kernel_rfl) (by kernel_rfl) (fun Hq hq => Y.move rfl rfl) (Wd.g rfl rfl rfl) rfl rfl hqn60 ?_
  refine LH.take 24 (by kernel_rfl) rfl (by kernel_rfl) (by kernel_rfl) (by kernel_rfl) (fun Hq hq => Y.len (ow28.rd.nw hq) rfl Try.runUnderlying28 rfl) (Wd.g rfl rfl rfl) rfl rfl hqn60 ?_
  refine LH.take 25 (by kernel_rfl) rfl (by kernel_rfl) (by kernel_rfl) (by kernel_rfl) (fun Hq hq => (Y.eql rfl rfl rfl).isT (by rw [ho28]; rfl)) (Wd.g rfl rfl rfl) rfl rfl hqn60 ?_
  refine LH.take 26 (by kernel_rfl) rfl (by kernel_rfl) (by kernel_rfl) (by kernel_rfl) (fun Hq hq => Y.pick_t rfl rfl rfl) (Wd.u rfl) rfl rfl hqn60 ?_
  refine LH.take 27 (by kernel_rfl) rfl (by kernel_rfl) (by kernel_rfl) (by kernel_rfl) (fun Hq hq => Y.move rfl rfl) (Wd.u rfl) rfl rfl hqn60 ?_
  refine LH.take 28 (by kernel_rfl) rfl (by kernel_rfl) (by kernel_rfl) (by kernel_rfl) (fun Hq hq => Y.move rfl rfl) (Wd.g rfl rfl rfl) rfl rfl hqn60 ?_
  refine LH.take 29 (by kernel_rfl) rfl (by kernel_rfl) (by kernel_rfl) (by kernel_rfl) (fun Hq hq => Y.owAddr (ow28.nw hq) (0) rfl Try.runUnderlying28 Try.sizeOf30 rfl rfl (by first | rfl | omega) (by rw [ho28]; simp)) (Wd.g rfl rfl rfl) rfl rfl hqn60 ?_
  refine LH.take 30 (by kernel_rfl) rfl (by kernel_rfl) (by kernel_rfl) (by kernel_rfl) (fun Hq hq => Y.cast (v2 := vA (idn 1)) (Y.loadN ((ow28.pt (j := 0) (by rw [ho28]; simp)).nw hq) rfl Try.isAgg30 Try.sizeOf30 (fA_len _) rfl) (el0 ho28 (by rw [ho28]; simp) rfl)) (Wd.g rfl rfl rfl) rfl rfl hqn60 ?_
  refine LH.one (i := 31) (by kernel_rfl) ?_
  -- call selvage/selvagelaw11.Id
  refine LO.call rfl rfl Try.call12 rfl (Wd.g rfl rfl rfl) rfl rfl (idn_ct 1 w0 _ (by omega)) (fun v72 H72 r72 => ?_)
  obtain ⟨rfl, hs72⟩ := r72
  replace ow8 := ow8.nw hs72
  replace ow9 := ow9.nw hs72
  replace ow10 := ow10.nw hs72
  replace ow11 := ow11.nw hs72
  replace ow12 := ow12.nw hs72
  replace va14 := va14.nw hs72
  replace ow20 := ow20.nw hs72
  replace ow28 := ow28.nw hs72
  replace ow35 := ow35.nw hs72
  replace ow37 := ow37.nw hs72
  replace ow38 := ow38.nw hs72
  replace hm0 := hm0.tr hs72
  have hz19 := hs72.size
  have hq72 := hqn60.tr hs72
  refine ⟨.inr hq72, LH.narrow (SH2 := fun Hq => Nw H72 Hq) (fun Hq hq => hq72.tr hq) ?_⟩
  have hqn72 := Nw.refl H72
  refine LH.take 32 (by kernel_rfl) rfl (by kernel_rfl) (by kernel_rfl) (by kernel_rfl) (fun Hq hq => (Y.aeql rfl Try.eqGuardType30 (fun w => run_equalIn_id 9998 Try.underlying30 Try.underlying5 Try.sizeOf5 Try.isAgg5 ((idn 1).2) ((idn 1).2) w) rfl rfl).isT (rfl)) (Wd.g rfl rfl rfl) rfl rfl hqn72 ?_
  refine LH.take 33 (by kernel_rfl) rfl (by kernel_rfl) (by kernel_rfl) (by kernel_rfl) (fun Hq hq => Y.pick_t rfl rfl rfl) (Wd.u rfl) rfl rfl hqn72 ?_
  refine LH.take 34 (by kernel_rfl) rfl (by kernel_rfl) (by kernel_rfl) (by kernel_rfl) (fun Hq hq => Y.move rfl rfl) (Wd.u rfl) rfl rfl hqn72 ?_
  refine LH.take 35 (by kernel_rfl) rfl (by kernel_rfl) (by kernel_rfl) (by kernel_rfl) (fun Hq hq => Y.move rfl rfl) (Wd.g rfl rfl rfl) rfl rfl hqn72 ?_
  refine LH.take 36 (by kernel_rfl) rfl (by kernel_rfl) (by kernel_rfl) (by kernel_rfl) (fun Hq hq => Y.len (ow38.rd.nw hq) rfl Try.runUnderlying28 rfl) (Wd.g rfl rfl rfl) rfl rfl hqn72 ?_
  refine LH.take 37 (by kernel_rfl) rfl (by kernel_rfl) (by kernel_rfl) (by kernel_rfl) (fun Hq hq => (Y.eql rfl rfl rfl).isT (by rw [ho38]; rfl)) (Wd.g rfl rfl rfl) rfl rfl hqn72 ?_
  refine LH.take 38 (by kernel_rfl) rfl (by kernel_rfl) (by kernel_rfl) (by kernel_rfl) (fun Hq hq => Y.pick_t rfl rfl rfl) (Wd.u rfl) rfl rfl hqn72 ?_
  refine LH.take 39 (by kernel_rfl) rfl (by kernel_rfl) (by kernel_rfl) (by kernel_rfl) (fun Hq hq => Y.move rfl rfl) (Wd.u rfl) rfl rfl hqn72 ?_
  refine LH.take 40 (by kernel_rfl) rfl (by kernel_rfl) (by kernel_rfl) (by kernel_rfl) (fun Hq hq => Y.move rfl rfl) (Wd.g rfl rfl rfl) rfl rfl hqn72 ?_
  refine LH.take 41 (by kernel_rfl) rfl (by kernel_rfl) (by kernel_rfl) (by kernel_rfl) (fun Hq hq => Y.owAddr (ow38.nw hq) (0) rfl Try.runUnderlying28 Try.sizeOf30 rfl rfl (by first | rfl | omega) (by rw [ho38]; simp)) (Wd.g rfl rfl rfl) rfl rfl hqn72 ?_
  refine LH.take 42 (by kernel_rfl) rfl (by kernel_rfl) (by kernel_rfl) (by kernel_rfl) (fun Hq hq => Y.cast (v2 := vA (idn 2)) (Y.loadN ((ow38.pt (j := 0) (by rw [ho38]; simp)).nw hq) rfl Try.isAgg30 Try.sizeOf30 (fA_len _) rfl) (el0 ho38 (by rw [ho38]; simp) rfl)) (Wd.g rfl rfl rfl) rfl rfl hqn72 ?_
  refine LH.one (i := 43) (by kernel_rfl) ?_
  -- call selvage/selvagelaw11.Id
  refine LO.call rfl rfl Try.call12 rfl (Wd.g rfl rfl rfl) rfl rfl (idn_ct 2 w0 _ (by omega)) (fun v84 H84 r84 => ?_)
  obtain ⟨rfl, hs84⟩ := r84
  replace ow8 := ow8.nw hs84
  replace ow9 := ow9.nw hs84
  replace ow10 := ow10.nw hs84
  replace ow11 := ow11.nw hs84
  replace ow12 := ow12.nw hs84
  replace va14 := va14.nw hs84
  replace ow20 := ow20.nw hs84
  replace ow28 := ow28.nw hs84
  replace ow35 := ow35.nw hs84
  replace ow37 := ow37.nw hs84
  replace ow38 := ow38.nw hs84
  replace hm0 := hm0.tr hs84
  have hz20 := hs84.size
  have hq84 := hqn72.tr hs84
  refine ⟨.inr hq84, LH.narrow (SH2 := fun Hq => Nw H84 Hq) (fun Hq hq => hq84.tr hq) ?_⟩
  have hqn84 := Nw.refl H84
  refine LH.take 44 (by kernel_rfl) rfl (by kernel_rfl) (by kernel_rfl) (by kernel_rfl) (fun Hq hq => (Y.aeql rfl Try.eqGuardType30 (fun w => run_equalIn_id 9998 Try.underlying30 Try.underlying5 Try.sizeOf5 Try.isAgg5 ((idn 2).2) ((idn 2).2) w) rfl rfl).isT (rfl)) (Wd.g rfl rfl rfl) rfl rfl hqn84 ?_
  refine LH.take 45 (by kernel_rfl) rfl (by kernel_rfl) (by kernel_rfl) (by kernel_rfl) (fun Hq hq => Y.pick_t rfl rfl rfl) (Wd.u rfl) rfl rfl hqn84 ?_
  refine LH.take 46 (by kernel_rfl) rfl (by kernel_rfl) (by kernel_rfl) (by kernel_rfl) (fun Hq hq => Y.move rfl rfl) (Wd.u rfl) rfl rfl hqn84 ?_
  refine LH.take 47 (by kernel_rfl) rfl (by kernel_rfl) (by kernel_rfl) (by kernel_rfl) (fun Hq hq => Y.move rfl rfl) (Wd.g rfl rfl rfl) rfl rfl hqn84 ?_
  refine LH.take 48 (by kernel_rfl) rfl (by kernel_rfl) (by kernel_rfl) (by kernel_rfl) (fun Hq hq => Y.owAddr (ow38.nw hq) (1) rfl Try.runUnderlying28 Try.sizeOf30 rfl rfl (by first | rfl | omega) (by rw [ho38]; simp)) (Wd.g rfl rfl rfl) rfl rfl hqn84 ?_
  refine LH.take 49 (by kernel_rfl) rfl (by kernel_rfl) (by kernel_rfl) (by kernel_rfl) (fun Hq hq => Y.cast (v2 := vA (idn 3)) (Y.loadN ((ow38.pt (j := 1) (by rw [ho38]; simp)).nw hq) rfl Try.isAgg30 Try.sizeOf30 (fA_len _) rfl) (el0 ho38 (by rw [ho38]; simp) rfl)) (Wd.g rfl rfl rfl) rfl rfl hqn84 ?_
  refine LH.one (i := 50) (by kernel_rfl) ?_
  -- call selvage/selvagelaw11.Id
  refine LO.call rfl rfl Try.call12 rfl (Wd.g rfl rfl rfl) rfl rfl (idn_ct 3 w0 _ (by omega)) (fun v91 H91 r91 => ?_)
  obtain ⟨rfl, hs91⟩ := r91
  replace ow8 := ow8.nw hs91
  replace ow9 := ow9.nw hs91
  replace ow10 := ow10.nw hs91
  replace ow11 := ow11.nw hs91
  replace ow12 := ow12.nw hs91
  replace va14 := va14.nw hs91
  replace ow20 := ow20.nw hs91
  replace ow28 := ow28.nw hs91
  replace ow35 := ow35.nw hs91
  replace ow37 := ow37.nw hs91
  replace ow38 := ow38.nw hs91
  replace hm0 := hm0.tr hs91
  have hz21 := hs91.size
  have hq91 := hqn84.tr hs91
  refine ⟨.inr hq91, LH.narrow (SH2 := fun Hq => Nw H91 Hq) (fun Hq hq => hq91.tr hq) ?_⟩
  have hqn91 := Nw.refl H91
  refine LH.take 51 (by kernel_rfl) rfl (by kernel_rfl) (by kernel_rfl) (by kernel_rfl) (fun Hq hq => (Y.aeql rfl Try.eqGuardType30 (fun w => run_equalIn_id 9998 Try.underlying30 Try.underlying5 Try.sizeOf5 Try.isAgg5 ((idn 3).2) ((idn 3).2) w) rfl rfl).isT (rfl)) (Wd.g rfl rfl rfl) rfl rfl hqn91 ?_
  refine LH.take 52 (by kernel_rfl) rfl (by kernel_rfl) (by kernel_rfl) (by kernel_rfl) (fun Hq hq => Y.pick_t rfl rfl rfl) (Wd.u rfl) rfl rfl hqn91 ?_
  refine LH.take 53 (by kernel_rfl) rfl (by kernel_rfl) (by kernel_rfl) (by kernel_rfl) (fun Hq hq => Y.assign rfl rfl) (Wd.u rfl) rfl rfl hqn91 ?_
  refine LH.done (by kernel_rfl) ?_
  have hqe := hqn91
  refine hK6 _ _ ?_
  refine CW.ret (hret .ret (.inr rfl) _ _ _ (res1 rfl rfl) ?_)
  exact ⟨rfl, hm0⟩

end Go.Proofs.Ytepdhokpfecdnaa.GraO
