/-
  Names: the statements' functions.
-/
import Derived.Shelf.Vars
import Derived.Test.YthkhojiodekccaaDoorNamD
namespace Go.Proofs.YthkhojiodekccaaDoor.NamE
open Go.Proofs.YthkhojiodekccaaDoor.E Go.RowKit Go.Proofs.YthkhojiodekccaaDoor.NamA Go.Proofs.YthkhojiodekccaaDoor.NamB Go.Proofs.YthkhojiodekccaaDoor.NamC Go.Proofs.YthkhojiodekccaaDoor.NamD
set_option maxRecDepth 20000
set_option linter.unusedVariables false
set_option linter.unusedSimpArgs false
set_option linter.unusedSectionVars false
set_option maxRecDepth 100000 in
theorem inf27 : Inf Tryd.prog 27 9 1 16 := ⟨Tryd.underlying27, _, _, rfl, rfl, rfl, rfl, rfl⟩

theorem mx_of {W : World} (h : W.ShapedOpen Tryd.prog) : ∃ m, MX m W.heap ∧ BF (fun b => b = 0) W.heap.size := by
  obtain ⟨m, hm⟩ := cell_of_shapedOpen_int (g := 0) (t := 3) (zero := #[.int .i64 0]) h (by decide) (by kernel_rfl) rfl (by kernel_rfl) (by kernel_rfl) Tryd.underlying3
  have hc : E.cell W.heap ⟨0, 0, none⟩ = some (.int .i64 m) := by rw [← (At.cell (w0 := W) ⟨rfl, rfl, rfl, rfl⟩ _)]; exact hm
  refine ⟨m, ⟨⟨rfl, fun j c hj => ?_⟩, rfl⟩, fun b hb => ?_⟩
  · cases j with
    | zero => cases hj; exact hc
    | succ j => cases hj
  · have := World.block_lt_of_cell? W _ hm; simp only at hb; omega

theorem known_ct (mx_ : Int) (w0 : World) (H0 : Heap)
    (mx : MX mx_ H0) (bf_mx : BF (fun b => b = 0) H0.size) :
    Ct Tryd.prog w0 7 #[] H0 (fun r H2 => r = .bool true ∧ Nw H0 H2) := by
  refine Ct.enter (args := []) Tryd.func7 rfl rfl rfl ?_
  intro Q0 hret
  have hm0 : Nw H0 H0 := Mo.refl _ _
  refine CW.seq (fun K1 hK1 hE1 => ?_)
  refine CW.region ?_
  refine LR.v (Y.assign rfl rfl) (Wd.u rfl) rfl rfl ?_
  refine LR.nil ?_
  refine hK1 _ _ ?_
  refine CW.seq (fun K2 hK2 hE2 => ?_)
  refine CW.region ?_
  -- call selvage/name.Check
  refine LR.call rfl Tryd.call8 rfl (Wd.u rfl) rfl rfl (chk_ct [116, 111, 112, 105, 99, 47, 97, 46, 98] mx_ w0 _ mx bf_mx (by decide)) (fun v1 H1 r1 => ?_)
  obtain ⟨rfl, hs1⟩ := r1
  replace mx := mx.nw hs1
  replace hm0 := hm0.tr hs1
  have hz1 := hs1.size
  refine LR.v ((Y.eql rfl rfl rfl).isT (by decide +kernel)) (Wd.u rfl) rfl rfl ?_
  refine LR.v (Y.move rfl rfl) (Wd.u rfl) rfl rfl ?_
  -- call selvage/name.Check
  refine LR.call rfl Tryd.call8 rfl (Wd.g rfl rfl rfl) rfl rfl (chk_ct [97, 47, 47, 98] mx_ w0 _ mx (bf_mx.mono (by omega)) (by decide)) (fun v4 H4 r4 => ?_)
  obtain ⟨rfl, hs4⟩ := r4
  replace mx := mx.nw hs4
  replace hm0 := hm0.tr hs4
  have hz2 := hs4.size
  refine LR.v ((Y.eql rfl rfl rfl).isT (by decide +kernel)) (Wd.g rfl rfl rfl) rfl rfl ?_
  refine LR.v (Y.pick_t rfl rfl rfl) (Wd.u rfl) rfl rfl ?_
  refine LR.v (Y.move rfl rfl) (Wd.u rfl) rfl rfl ?_
  refine LR.z (Z.litw _ ([([97] : List UInt8)]) rfl inf27 rfl rfl rfl (by decide) (by decide) fS_len fS_one (rfl)) (Wd.g rfl rfl rfl) rfl rfl (fun v8 H8 r8 => ?_)
  obtain ⟨ow8, hs8, ob8, hH8⟩ := r8
  have hzs8 : H8.size = H4.size + 1 := by rw [hH8]; simp
  have df1 := (DF.new (bf_mx.mono hm0.size) : DF _ (H4.size + 1))
  have nx2 : Nx 0 H0.size (H4.size + 1) := Nx.new hm0.size
  replace mx := mx.nw hs8
  replace hm0 := hm0.tr hs8
  have hz3 := hs8.size
  -- call selvage/name.Fits
  refine LR.call rfl Tryd.call10 rfl (Wd.g rfl rfl rfl) rfl rfl (fits_ct [97, 47, 98] _ [[97]] mx_ w0 _ mx (bf_mx.mono (by omega)) ow8.rd.any (by decide) (by decide)) (fun v9 H9 r9 => ?_)
  obtain ⟨rfl, hs9⟩ := r9
  replace mx := mx.nw hs9
  replace ow8 := ow8.nw hs9
  replace hm0 := hm0.tr hs9
  have hz4 := hs9.size
  refine LR.v ((Y.eql rfl rfl rfl).isT (by decide +kernel)) (Wd.g rfl rfl rfl) rfl rfl ?_
  refine LR.v (Y.pick_t rfl rfl rfl) (Wd.u rfl) rfl rfl ?_
  refine LR.v (Y.assign rfl rfl) (Wd.u rfl) rfl rfl ?_
  refine LR.nil ?_
  refine hK2 _ _ ?_
  refine CW.ret (hret .ret (.inr rfl) _ _ _ (res1 rfl rfl) ?_)
  exact ⟨rfl, hm0⟩

end Go.Proofs.YthkhojiodekccaaDoor.NamE
