/-
  Rows of texts compared, and doubled.
-/
import Derived.Test.YtegfnfhdgbcjbaaRows
import Derived.Test.YtegfnfhdgbcjbaaOw
import Derived.Test.YtegfnfhdgbcjbaaWord
import Derived.Test.YtegfnfhdgbcjbaaClo
import Derived.Test.YtegfnfhdgbcjbaaCmp
namespace Go.Proofs.Ytegfnfhdgbcjbaa.MerA
open Go.Proofs.Ytegfnfhdgbcjbaa.E Go.RowKit
set_option maxRecDepth 20000
set_option linter.unusedVariables false
set_option linter.unusedSimpArgs false
set_option linter.unusedSectionVars false
set_option maxRecDepth 100000 in
theorem inf32 : Inf Try.prog 32 9 1 16 := ⟨Try.underlying32, _, _, rfl, rfl, rfl, rfl, rfl⟩

theorem sclone_ct (v1 : Value) (a : List (List UInt8)) (w0 : World) (H0 : Heap)
    (ha : RdT H0 fS 1 v1 a) (hal : a.length ≤ 1048576) :
    Ct Try.prog w0 38 #[v1] H0 (fun r H2 => ∃ s : SV, ∃ k : Nat, r = s.v ∧ (Ow k 9 H2 fS 1 s.v a) ∧ (Nx 0 H0.size k) ∧ Nw H0 H2) := by
  refine Ct.enter (args := [v1]) Try.func38 rfl rfl rfl ?_
  intro Q0 hret
  have hm0 : Nw H0 H0 := Mo.refl _ _
  replace ha := ha.bnd
  have bf_ha := Rd.bf ha
  obtain ⟨p, cp, rfl, _, _, hne⟩ := id ha.ex
  refine CW.seq (fun K1 hK1 hE1 => ?_)
  refine CW.region ?_
  refine LR.v (Y.assign rfl rfl) (Wd.u rfl) rfl rfl ?_
  refine LR.nil ?_
  refine hK1 _ _ ?_
  refine CW.seq (fun K2 hK2 hE2 => ?_)
  refine CW.seq (fun K3 hK3 hE3 => ?_)
  refine CW.region ?_
  refine LR.v (Y.move rfl rfl) (Wd.u rfl) rfl rfl ?_
  refine LR.v (Y.sleq rfl Try.underlying32 rfl rfl) (Wd.u rfl) rfl rfl ?_
  refine LR.nil ?_
  refine hK3 _ _ ?_
  refine CW.cond rfl (fun c4 => ?_) (fun c4 => ?_)
  ·
    obtain rfl : a = [] := by
      apply Decidable.byContradiction
      intro h
      obtain ⟨ad, h1, _⟩ := hne h
      rw [h1] at c4; cases c4
    refine CW.seq (fun K4 hK4 hE4 => ?_)
    refine CW.region ?_
    refine LR.v (Y.assign rfl rfl) (Wd.u rfl) rfl rfl ?_
    refine LR.nil ?_
    refine hK4 _ _ ?_
    refine CW.ret (hE2 .ret nofun _ _ (hret .ret (.inr rfl) _ _ _ (res1 rfl rfl) ?_))
    exact ⟨⟨none, 0, 0⟩, 0, rfl, Ow.nil fS_len fS_one, Nx.refl _ _, hm0⟩
  ·
    
    refine CW.skip ?_
    refine hK2 _ _ ?_
    refine CW.seq (fun K5 hK5 hE5 => ?_)
    refine CW.region ?_
    refine LR.z (Z.litw _ (([] : List (List UInt8))) rfl inf32 rfl rfl rfl (by decide) (by decide) fS_len fS_one (rfl)) (Wd.u rfl) rfl rfl (fun v5 H5 r5 => ?_)
    obtain ⟨ow5, hs5, ob5, hH5⟩ := r5
    have hzs5 : H5.size = H0.size + 1 := by rw [hH5]; simp
    have df1 := (DF.new (bf_ha.mono hm0.size) : DF _ (H0.size + 1))
    have nx2 : Nx 0 H0.size (H0.size + 1) := Nx.new hm0.size
    replace ha := ha.nw hs5
    replace hm0 := hm0.tr hs5
    have hz1 := hs5.size
    refine LR.v (Y.move rfl rfl) (Wd.u rfl) rfl rfl ?_
    refine LR.z (Z.apnd ow5 ha rfl inf32 rfl rfl (by first | omega | (simp; omega)) (by first | omega | (simp; omega))) (Wd.u rfl) rfl rfl (fun v7 H7 r7 => ?_)
    obtain ⟨k7, ow7, hk7, hs7⟩ := r7
    replace hk7 : Nx (H0.size + 1) H5.size k7 := hk7
    replace hs7 := hs7.md
    have df3 := DF.app (df1) (bf_ha.mono hm0.size) hk7
    have nx4 : Nx 0 H0.size k7 := Nx.tr (nx2) hk7 hm0.size
    replace ha := ha.upL hs7 (DFL.cons df1 DFL.nil)
    replace hm0 := (Mo.trL (ks := []) (hm0.mdn []) hs7 (MIL.cons (MI.app MI.z (nx2) (Nat.le_refl _)) MIL.nil)).nil
    have hz2 := hs7.size
    have hle_ow7 := ow7.le
    refine LR.v (Y.assign rfl rfl) (Wd.u rfl) rfl rfl ?_
    refine LR.nil ?_
    refine hK5 _ _ ?_
    refine CW.ret (hret .ret (.inr rfl) _ _ _ (res1 rfl rfl) ?_)
    obtain ⟨s7, rfl⟩ : ∃ s : SV, v7 = s.v := ⟨toSV v7, ow7.sv.symm⟩
    exact ⟨s7, k7, rfl, by simpa using ow7, nx4, hm0⟩

end Go.Proofs.Ytegfnfhdgbcjbaa.MerA
