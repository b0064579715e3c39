/-
  Contracts of functions of the program, and plain laws: put together of several texts.
-/
import Derived.Test.YtepdhokpfecdnaaGe
import Derived.Test.YtepdhokpfecdnaaRows
import Derived.Test.YtepdhokpfecdnaaGa
import Derived.ProofKit
import Derived.OpenShut
import Derived.ShutString
import Derived.ChangeOld
import Derived.Below
import Derived.JoinedCond
import Derived.Deep.Slices
import Derived.ChangeSame
/-
  Each call answers as the document says.
-/
namespace Go.Proofs.Ytepdhokpfecdnaa.GraZE
open Go.Proofs.Ytepdhokpfecdnaa.E Go.RowKit Go.Proofs.Ytepdhokpfecdnaa.GraA Go.Proofs.Ytepdhokpfecdnaa.GraB Go.Proofs.Ytepdhokpfecdnaa.GraC Go.Proofs.Ytepdhokpfecdnaa.GraD Go.Proofs.Ytepdhokpfecdnaa.GraE Go.Proofs.Ytepdhokpfecdnaa.GraF Go.Proofs.Ytepdhokpfecdnaa.GraG Go.Proofs.Ytepdhokpfecdnaa.GraH Go.Proofs.Ytepdhokpfecdnaa.GraI Go.Proofs.Ytepdhokpfecdnaa.GraJ Go.Proofs.Ytepdhokpfecdnaa.GraK Go.Proofs.Ytepdhokpfecdnaa.GraL Go.Proofs.Ytepdhokpfecdnaa.GraM Go.Proofs.Ytepdhokpfecdnaa.GraN Go.Proofs.Ytepdhokpfecdnaa.GraO Go.Proofs.Ytepdhokpfecdnaa.GraP Go.Proofs.Ytepdhokpfecdnaa.GraQ Go.Proofs.Ytepdhokpfecdnaa.GraS Go.Proofs.Ytepdhokpfecdnaa.GraU Go.Proofs.Ytepdhokpfecdnaa.GraX Go.Proofs.Ytepdhokpfecdnaa.GraY Go.Proofs.Ytepdhokpfecdnaa.GraZ Go.Proofs.Ytepdhokpfecdnaa.GraZA Go.Proofs.Ytepdhokpfecdnaa.GraZB Go.Proofs.Ytepdhokpfecdnaa.GraZC Go.Proofs.Ytepdhokpfecdnaa.GraZD
set_option maxRecDepth 20000
set_option linter.unusedVariables false
set_option linter.unusedSimpArgs false
set_option linter.unusedSectionVars false
set_option maxRecDepth 100000 in
theorem inf28 : Inf Try.prog 28 30 32 32 := ⟨Try.underlying28, _, _, rfl, rfl, rfl, rfl, rfl⟩

theorem GOk.not4 {g : List (List Nat)} (hg : GOk g) {st K : List Ide} : ¬ AllR (paL g) st K 4 := by
  rintro (⟨h, _⟩ | ⟨h, _⟩ | ⟨_, K2, hn, hl, hk, _⟩)
  · cases h
  · cases h
  · have := nodup_le (b := allI g.length) hn (fun k hk2 => by
      obtain ⟨ps, hp⟩ := Option.isSome_iff_exists.1 (hk k hk2).2
      obtain ⟨a, ha, rfl, _⟩ := hg.told hp
      exact List.mem_map.2 ⟨a, by simpa using ha, rfl⟩)
    have hle := hg.le
    simp only [allI, List.length_map, List.length_range] at this
    omega
theorem pp_ac {pa : Ide → Option (List Ide)} {rk : Ide → Nat} (h : ∀ k ps, pa k = some ps → ∀ p ∈ ps, rk p < rk k) : ∀ k, ∀ p ∈ pp pa k, rk p < rk k := by
  intro k p hp
  unfold pp at hp
  cases hq : pa k with
  | none => rw [hq] at hp; cases hp
  | some ps => rw [hq] at hp; exact h k ps hq p hp
theorem bsr_le {pa : Ide → Option (List Ide)} {a b : Ide} {out : List Ide} {e : Nat} (h : BsR pa a b out e) : out.length ≤ 16 := by
  rcases h with ⟨_, _, _, h, _⟩ | ⟨_, rfl, _⟩ | ⟨_, rfl, _⟩
  · exact h
  · simp
  · simp
theorem ror_eq {pa : Ide → Option (List Ide)} {fr un out out2 : List Ide} {e e2 : Nat} (h : ROr pa fr un out e) (h2 : (e2 = 0 ∧ Ord pa fr un out2) ∨ (e2 ≠ 0 ∧ out2 = [] ∧ ∃ K, AllR pa (fr ++ un) K e2)) (h4 : ∀ K, ¬ AllR pa (fr ++ un) K 4) : out2 = out ∧ e2 = e := by
  rcases h2 with ⟨rfl, ho⟩ | ⟨hne, rfl, K, hA⟩
  · have ho2 := ho
    obtain ⟨K, S, hA, _⟩ := ho2
    have he : 0 = e := tld_all h.1 hA (by decide)
    subst he
    exact ⟨(ror_ord h ho).symm, rfl⟩
  · have he := tld_all h.1 hA (fun e => h4 K (e ▸ hA))
    exact ⟨(h.2.1 (by omega)).symm, he⟩
theorem gn_eq {pa : Ide → Option (List Ide)} {g : Ide → Nat} {a : Ide} {r e n q r2 e2 : Nat} (h : GnR pa g a r e n q) (hT : TldR pa [a] e2) (h2 : (e2 = 0 → r2 = g a) ∧ (e2 ≠ 0 → r2 = 0)) (h4 : ∀ K, ¬ AllR pa [a] K 4) : r = r2 ∧ e = e2 := by
  obtain ⟨⟨K, hA, _⟩, h5, h6⟩ := h
  have he := tld_all hT hA (fun e => h4 K (e ▸ hA))
  subst he
  by_cases h0 : e = 0
  · exact ⟨by rw [h5 h0, h2.1 h0], rfl⟩
  · exact ⟨by rw [h6 h0, h2.2 h0], rfl⟩
theorem ab_eq {pa : Ide → Option (List Ide)} {a b : Ide} {up up2 : Bool} {e e2 : Nat} (h : AbR pa a b up e) (hT : TldR pa [a, b] e2) (h2 : (e2 = 0 → (up2 = true ↔ UpO pa b a)) ∧ (e2 ≠ 0 → up2 = false)) (h4 : ∀ K, ¬ AllR pa [a, b] K 4) : up = up2 ∧ e = e2 := by
  obtain ⟨⟨K, hA⟩, h5, h6⟩ := h
  have he := tld_all hT hA (fun e => h4 K (e ▸ hA))
  subst he
  by_cases h0 : e = 0
  · exact ⟨by rw [Bool.eq_iff_iff, h5 h0, h2.1 h0], rfl⟩
  · exact ⟨by rw [h6 h0, h2.2 h0], rfl⟩

set_option maxHeartbeats 8000000 in
theorem gask_ct (vl : Value) (li : List (SV × List Int)) (a b : Int) (vf : Value) (lf : List Int) (vu : Value) (lu : List Int) (w0 : World) (H0 : Heap)
    (hl : RdT H0 fPi 1 vl li) (hlx : ∀ x ∈ li, RdT H0 fI 1 x.1.v x.2) (hi64 : ∀ x ∈ li, ∀ a ∈ x.2, i64b a) (ha : i64b a) (hb : i64b b) (hf : RdT H0 fI 1 vf lf) (hf64 : ∀ a ∈ lf, i64b a) (hu : RdT H0 fI 1 vu lu) (hu64 : ∀ a ∈ lu, i64b a) :
    Ct Try.prog w0 8 #[vl, .int .i64 a, .int .i64 b, vf, vu] H0 (fun r H2 => r = .bool true ∧ Nw H0 H2) := by
  refine Ct.enter (args := [vl, .int .i64 a, .int .i64 b, vf, vu]) Try.func8 rfl rfl rfl ?_
  intro Q0 hret
  have hm0 : Nw H0 H0 := Mo.refl _ _
  replace hl := hl.bnd
  have bf_hl := hl.bf
  replace hlx := fun x h_ => (hlx x h_).bnd
  have bf_hlx : BF (fun b => True ∧ b < H0.size) H0.size := fun b h => h.2
  replace hf := hf.bnd
  have bf_hf := hf.bf
  replace hu := hu.bnd
  have bf_hu := hu.bf
  refine CW.seq (fun K1 hK1 hE1 => ?_)
  refine CW.region ?_
  refine LR.v (Y.assign rfl rfl) (Wd.u rfl) rfl rfl ?_
  refine LR.nil ?_
  refine hK1 _ _ ?_
  refine CW.seq (fun K2 hK2 hE2 => ?_)
  refine CW.seq (fun K3 hK3 hE3 => ?_)
  refine CW.region ?_
  -- call selvage/selvagelaw11.known
  refine LR.call rfl Try.call10 rfl (Wd.u rfl) rfl rfl (known_ct w0 _) (fun v25 H25 r25 => ?_)
  obtain ⟨rfl, hs25⟩ := r25
  replace hl := hl.nw hs25
  replace hlx := fun x h_ => (hlx x h_).nw hs25
  replace hf := hf.nw hs25
  replace hu := hu.nw hs25
  replace hm0 := hm0.tr hs25
  have hz1 := hs25.size
  refine LR.v (Y.not rfl rfl) (Wd.u rfl) rfl rfl ?_
  refine LR.nil ?_
  refine hK3 _ _ ?_
  refine CW.cond_f rfl ?_
  refine CW.skip ?_
  refine hK2 _ _ ?_
  refine CW.seq (fun K4 hK4 hE4 => ?_)
  refine CW.region ?_
  refine LR.v (Y.move rfl rfl) (Wd.u rfl) rfl rfl ?_
  -- call selvage/selvagelaw11.Rows
  refine LR.call rfl Try.call11 rfl (Wd.u rfl) rfl rfl (rows_ct vl li w0 _ hl.any (fun x hx => (hlx x hx).any) hi64) (fun v28 H28 r28 => ?_)
  obtain ⟨sR, out, rfl, hsr, hR, hs28⟩ := r28
  replace hl := hl.nw hs28
  replace hlx := fun x h_ => (hlx x h_).nw hs28
  replace hf := hf.nw hs28
  replace hu := hu.nw hs28
  replace hm0 := hm0.tr hs28
  have hz2 := hs28.size
  replace hsr := hsr.bnd
  have bf_hsr := hsr.bf
  have hg : GOk (out.map Rw.l) := hR.g
  have hol := hR.le
  refine LR.v (Y.assign rfl rfl) (Wd.u rfl) rfl rfl ?_
  refine LR.nil ?_
  refine hK4 _ _ ?_
  refine CW.seq (fun K5 hK5 hE5 => ?_)
  refine CW.region ?_
  refine LR.v (Y.move rfl rfl) (Wd.u rfl) rfl rfl ?_
  refine LR.v (Y.build (v := .agg #[sR.v, .int .i64 0]) rfl rfl (by intro w; kernel_rfl)) (Wd.u rfl) rfl rfl ?_
  refine LR.z (Z.boxv rfl rfl) (Wd.u rfl) rfl rfl (fun v31 H31 r31 => ?_)
  obtain ⟨rfl, hv, hs31, ob31, hH31⟩ := r31
  have hzs31 : H31.size = H28.size + 1 := by rw [hH31]; simp
  have df1 := (DF.new (bf_hl.mono hm0.size) : DF _ (H28.size + 1))
  have df2 := (DF.new (bf_hlx.mono hm0.size) : DF _ (H28.size + 1))
  have df3 := (DF.new (bf_hf.mono hm0.size) : DF _ (H28.size + 1))
  have df4 := (DF.new (bf_hu.mono hm0.size) : DF _ (H28.size + 1))
  have df5 := (DF.new (bf_hsr.mono (by omega)) : DF _ (H28.size + 1))
  have nx6 : Nx 0 H0.size (H28.size + 1) := Nx.new hm0.size
  replace hl := hl.nw hs31
  replace hlx := fun x h_ => (hlx x h_).nw hs31
  replace hf := hf.nw hs31
  replace hu := hu.nw hs31
  replace hsr := hsr.nw hs31
  replace hm0 := hm0.tr hs31
  have hz3 := hs31.size
  replace hv : Var 27 H31 H28.size ([sR.v, .int .i64 ((0 : Nat) : Int)]) := hv
  refine LR.v (Y.assign rfl rfl) (Wd.u rfl) rfl rfl ?_
  refine LR.nil ?_
  refine hK5 _ _ ?_
  refine CW.seq (fun K6 hK6 hE6 => ?_)
  refine CW.region ?_
  refine LR.v (Y.move rfl rfl) (Wd.u rfl) rfl rfl ?_
  -- call selvage/selvagelaw11.Told
  refine LR.call rfl Try.call21 rfl (Wd.u rfl) rfl rfl (told_ct sR out _ w0 _ (hsr.l _ _ rfl) (hsr.x _ _ rfl) (bf_hsr.mono (by omega)) (bf_hsr.mono (by omega)) hR) (fun v33 H33 r33 => ?_)
  obtain ⟨gb, nl, nd, rfl, hgr, hnd, hnl, hs33⟩ := r33
  replace hl := hl.nw hs33
  replace hlx := fun x h_ => (hlx x h_).nw hs33
  replace hf := hf.nw hs33
  replace hu := hu.nw hs33
  replace hsr := hsr.nw hs33
  replace hv := hv.nw hs33
  replace hm0 := hm0.tr hs33
  have hz4 := hs33.size
  replace hgr := hgr.bnd
  have bf_hgr := hgr.bf
  have df7 : DF (fun b => H31.size ≤ b ∧ b < H33.size) (H28.size + 1) := DF.above (fun b h => h.1) (by first | exact hle_hv | exact hlt_hv | omega)
  have hpq := paR_paL hnl
  have hac := pp_ac hg.ac
  have h4 : ∀ st K, ¬ AllR (paL (out.map Rw.l)) st K 4 := fun st K => GOk.not4 hg
  have hac2 := hac
  rw [← hpq] at hac2
  have hgf2 := hg.gf_all
  rw [← hpq] at hgf2
  refine LR.v (Y.assign rfl rfl) (Wd.u rfl) rfl rfl ?_
  refine LR.nil ?_
  refine hK6 _ _ ?_
  refine CW.seq (fun K7 hK7 hE7 => ?_)
  refine CW.region ?_
  refine LR.v (Y.move rfl rfl) (Wd.u rfl) rfl rfl ?_
  refine LR.v (Y.move rfl rfl) (Wd.u rfl) rfl rfl ?_
  refine LR.v (Y.len (hsr.l _ _ rfl) rfl Try.runUnderlying22 rfl) (Wd.u rfl) rfl rfl ?_
  refine LR.v (Y.cast (v2 := .int .i64 ((out.length + 1 : Nat) : Int)) (Y.addi rfl rfl rfl (by omega)) (ivv (by omega))) (Wd.u rfl) rfl rfl ?_
  -- call selvage/selvagelaw11.within
  refine LR.call rfl Try.call14 rfl (Wd.u rfl) rfl rfl (within_ct a (out.length + 1) w0 _ (by omega) ha) (fun v38 H38 r38 => ?_)
  obtain ⟨xa, rfl, hxa, hs38⟩ := r38
  replace hl := hl.nw hs38
  replace hlx := fun x h_ => (hlx x h_).nw hs38
  replace hf := hf.nw hs38
  replace hu := hu.nw hs38
  replace hsr := hsr.nw hs38
  replace hv := hv.nw hs38
  replace hgr := hgr.nw hs38
  replace hm0 := hm0.tr hs38
  have hz5 := hs38.size
  -- call selvage/selvagelaw11.Id
  refine LR.call rfl Try.call12 rfl (Wd.u rfl) rfl rfl (idn_ct xa w0 _ (by omega)) (fun v39 H39 r39 => ?_)
  obtain ⟨rfl, hs39⟩ := r39
  replace hl := hl.nw hs39
  replace hlx := fun x h_ => (hlx x h_).nw hs39
  replace hf := hf.nw hs39
  replace hu := hu.nw hs39
  replace hsr := hsr.nw hs39
  replace hv := hv.nw hs39
  replace hgr := hgr.nw hs39
  replace hm0 := hm0.tr hs39
  have hz6 := hs39.size
  refine LR.v (Y.move rfl rfl) (Wd.u rfl) rfl rfl ?_
  refine LR.v (Y.move rfl rfl) (Wd.u rfl) rfl rfl ?_
  refine LR.v (Y.len (hsr.l _ _ rfl) rfl Try.runUnderlying22 rfl) (Wd.u rfl) rfl rfl ?_
  refine LR.v (Y.cast (v2 := .int .i64 ((out.length + 1 : Nat) : Int)) (Y.addi rfl rfl rfl (by omega)) (ivv (by omega))) (Wd.u rfl) rfl rfl ?_
  -- call selvage/selvagelaw11.within
  refine LR.call rfl Try.call14 rfl (Wd.u rfl) rfl rfl (within_ct b (out.length + 1) w0 _ (by omega) hb) (fun v44 H44 r44 => ?_)
  obtain ⟨yb, rfl, hyb, hs44⟩ := r44
  replace hl := hl.nw hs44
  replace hlx := fun x h_ => (hlx x h_).nw hs44
  replace hf := hf.nw hs44
  replace hu := hu.nw hs44
  replace hsr := hsr.nw hs44
  replace hv := hv.nw hs44
  replace hgr := hgr.nw hs44
  replace hm0 := hm0.tr hs44
  have hz7 := hs44.size
  -- call selvage/selvagelaw11.Id
  refine LR.call rfl Try.call12 rfl (Wd.u rfl) rfl rfl (idn_ct yb w0 _ (by omega)) (fun v45 H45 r45 => ?_)
  obtain ⟨rfl, hs45⟩ := r45
  replace hl := hl.nw hs45
  replace hlx := fun x h_ => (hlx x h_).nw hs45
  replace hf := hf.nw hs45
  replace hu := hu.nw hs45
  replace hsr := hsr.nw hs45
  replace hv := hv.nw hs45
  replace hgr := hgr.nw hs45
  replace hm0 := hm0.tr hs45
  have hz8 := hs45.size
  refine LR.z (Z.allocv rfl Try.zeroValue30) (Wd.u rfl) rfl rfl (fun v13 H13 r13 => ?_)
  obtain ⟨rfl, vx, hs13, ob13, hH13⟩ := r13
  have hzs13 : H13.size = H45.size + 1 := by rw [hH13]; simp
  have df8 := (DF.new (bf_hl.mono hm0.size) : DF _ (H45.size + 1))
  have df9 := (DF.new (bf_hlx.mono hm0.size) : DF _ (H45.size + 1))
  have df10 := (DF.new (bf_hf.mono hm0.size) : DF _ (H45.size + 1))
  have df11 := (DF.new (bf_hu.mono hm0.size) : DF _ (H45.size + 1))
  have df12 := (DF.new (bf_hsr.mono (by omega)) : DF _ (H45.size + 1))
  have dj13 : Dj (H28.size + 1) (H45.size + 1) := Dj.new hv.lt
  have df14 := (DF.new (bf_hgr.mono (by omega)) : DF _ (H45.size + 1))
  have nx15 : Nx 0 H0.size (H45.size + 1) := Nx.new hm0.size
  replace hl := hl.nw hs13
  replace hlx := fun x h_ => (hlx x h_).nw hs13
  replace hf := hf.nw hs13
  replace hu := hu.nw hs13
  replace hsr := hsr.nw hs13
  replace hv := hv.nw hs13
  replace hgr := hgr.nw hs13
  replace hm0 := hm0.tr hs13
  have hz9 := hs13.size
  replace vx : Var 30 H13 H45.size (fA Zid) := vx
  refine LR.z (Z.allocv rfl Try.zeroValue30) (Wd.u rfl) rfl rfl (fun v14 H14 r14 => ?_)
  obtain ⟨rfl, vy, hs14, ob14, hH14⟩ := r14
  have hzs14 : H14.size = H13.size + 1 := by rw [hH14]; simp
  have df16 := (DF.new (bf_hl.mono hm0.size) : DF _ (H13.size + 1))
  have df17 := (DF.new (bf_hlx.mono hm0.size) : DF _ (H13.size + 1))
  have df18 := (DF.new (bf_hf.mono hm0.size) : DF _ (H13.size + 1))
  have df19 := (DF.new (bf_hu.mono hm0.size) : DF _ (H13.size + 1))
  have df20 := (DF.new (bf_hsr.mono (by omega)) : DF _ (H13.size + 1))
  have dj21 : Dj (H28.size + 1) (H13.size + 1) := Dj.new hv.lt
  have df22 := (DF.new (bf_hgr.mono (by omega)) : DF _ (H13.size + 1))
  have dj23 : Dj (H45.size + 1) (H13.size + 1) := Dj.new vx.lt
  have nx24 : Nx 0 H0.size (H13.size + 1) := Nx.new hm0.size
  replace hl := hl.nw hs14
  replace hlx := fun x h_ => (hlx x h_).nw hs14
  replace hf := hf.nw hs14
  replace hu := hu.nw hs14
  replace hsr := hsr.nw hs14
  replace hv := hv.nw hs14
  replace hgr := hgr.nw hs14
  replace vx := vx.nw hs14
  replace hm0 := hm0.tr hs14
  have hz10 := hs14.size
  replace vy : Var 30 H14 H13.size (fA Zid) := vy
  refine LR.s (S.var vx (_) (fA ((idn xa))) rfl rfl rfl rfl (fA_one _) Try.sizeOf30 (fA_len _) (by first | decide | simp [fA_len]) ((splice_all2 (by first | exact (fA_len _).symm | rfl | exact (fA_len _).trans (fA_len _).symm)))) (Wd.u rfl) rfl (fun H6_14 r6_14 => ?_)
  obtain ⟨vx, hs6_14⟩ := r6_14
  replace hs6_14 := hs6_14.md1
  replace hl := hl.upL hs6_14 (DFL.cons df8 DFL.nil)
  replace hlx := fun x h_ => (hlx x h_).upL hs6_14 (DFL.cons df9 DFL.nil)
  replace hf := hf.upL hs6_14 (DFL.cons df10 DFL.nil)
  replace hu := hu.upL hs6_14 (DFL.cons df11 DFL.nil)
  replace hsr := hsr.upL hs6_14 (DFL.cons df12 DFL.nil)
  replace hv := hv.upL hs6_14 (DL.cons dj13 DL.nil)
  replace hgr := hgr.upL hs6_14 (DFL.cons df14 DFL.nil)
  replace vy := vy.upL hs6_14 (DL.cons dj23.symm DL.nil)
  replace hm0 := (Mo.trL (ks := []) (hm0.mdn []) hs6_14 (MIL.cons (MI.app MI.z (nx15) (Nat.le_refl _)) MIL.nil)).nil
  have hz11 := hs6_14.size
  refine LR.s (S.var vy (_) (fA ((idn yb))) rfl rfl rfl rfl (fA_one _) Try.sizeOf30 (fA_len _) (by first | decide | simp [fA_len]) ((splice_all2 (by first | exact (fA_len _).symm | rfl | exact (fA_len _).trans (fA_len _).symm)))) (Wd.u rfl) rfl (fun H6_15 r6_15 => ?_)
  obtain ⟨vy, hs6_15⟩ := r6_15
  replace hs6_15 := hs6_15.md1
  replace hl := hl.upL hs6_15 (DFL.cons df16 DFL.nil)
  replace hlx := fun x h_ => (hlx x h_).upL hs6_15 (DFL.cons df17 DFL.nil)
  replace hf := hf.upL hs6_15 (DFL.cons df18 DFL.nil)
  replace hu := hu.upL hs6_15 (DFL.cons df19 DFL.nil)
  replace hsr := hsr.upL hs6_15 (DFL.cons df20 DFL.nil)
  replace hv := hv.upL hs6_15 (DL.cons dj21 DL.nil)
  replace hgr := hgr.upL hs6_15 (DFL.cons df22 DFL.nil)
  replace vx := vx.upL hs6_15 (DL.cons dj23 DL.nil)
  replace hm0 := (Mo.trL (ks := []) (hm0.mdn []) hs6_15 (MIL.cons (MI.app MI.z (nx24) (Nat.le_refl _)) MIL.nil)).nil
  have hz12 := hs6_15.size
  refine LR.nil ?_
  refine hK7 _ _ ?_
  refine CW.seq (fun K8 hK8 hE8 => ?_)
  refine CW.region ?_
  refine LR.v (Y.move rfl rfl) (Wd.u rfl) rfl rfl ?_
  refine LR.v (Y.mki rfl Try.runUnderlying25 (by intro ms h; cases h) rfl) (Wd.u rfl) rfl rfl ?_
  refine LR.v (Y.loadN vx.pt rfl Try.isAgg30 Try.sizeOf30 (fA_len _) rfl) (Wd.u rfl) rfl rfl ?_
  refine LR.v (Y.loadN vy.pt rfl Try.isAgg30 Try.sizeOf30 (fA_len _) rfl) (Wd.u rfl) rfl rfl ?_
  -- call selvage/graph.Above
  refine LR.call rfl Try.call16 rfl (Wd.u rfl) rfl rfl (abv_ct (Sou.rows sR out) H28.size 0 _ (idn xa) (idn yb) w0 _ hv hsr (bf_hsr.mono (by omega)) (df5) hR.ok (by omega)) (fun v51 H51 r51 => ?_)
  obtain ⟨up51, e51, q51, rfl, hv, hR51, hq51, hs51⟩ := r51
  replace hl := hl.upL hs51 (DFL.cons df1 DFL.nil)
  replace hlx := fun x h_ => (hlx x h_).upL hs51 (DFL.cons df2 DFL.nil)
  replace hf := hf.upL hs51 (DFL.cons df3 DFL.nil)
  replace hu := hu.upL hs51 (DFL.cons df4 DFL.nil)
  replace hsr := hsr.upL hs51 (DFL.cons df5 DFL.nil)
  replace hgr := hgr.upL hs51 (DFL.cons df7 DFL.nil)
  replace vx := vx.upL hs51 (DL.cons dj13.symm DL.nil)
  replace vy := vy.upL hs51 (DL.cons dj21.symm DL.nil)
  replace hm0 := (Mo.trL (ks := []) (hm0.mdn []) hs51 (MIL.cons (MI.app MI.z (nx6) (Nat.le_refl _)) MIL.nil)).nil
  have hz13 := hs51.size
  refine LR.v (Y.move rfl rfl) (Wd.u rfl) rfl rfl ?_
  refine LR.v (Y.extract rfl rfl rfl) (Wd.u rfl) rfl rfl ?_
  refine LR.v (Y.extract rfl rfl rfl) (Wd.u rfl) rfl rfl ?_
  refine LR.v (Y.assign rfl rfl) (Wd.u rfl) rfl rfl ?_
  refine LR.v (Y.assign rfl rfl) (Wd.u rfl) rfl rfl ?_
  refine LR.nil ?_
  refine hK8 _ _ ?_
  refine CW.seq (fun K9 hK9 hE9 => ?_)
  refine CW.region ?_
  refine LR.v (Y.move rfl rfl) (Wd.u rfl) rfl rfl ?_
  refine LR.v (Y.loadN vx.pt rfl Try.isAgg30 Try.sizeOf30 (fA_len _) rfl) (Wd.u rfl) rfl rfl ?_
  refine LR.v (Y.loadN vy.pt rfl Try.isAgg30 Try.sizeOf30 (fA_len _) rfl) (Wd.u rfl) rfl rfl ?_
  -- call (*selvage/selvageref11.Graph).Above
  refine LR.call rfl Try.call22 rfl (Wd.u rfl) rfl rfl (rabv_ct gb nl nd _ (idn xa) (idn yb) w0 _ hgr (bf_hgr.mono (by omega)) hnd) (fun v58 H58 r58 => ?_)
  obtain ⟨up58, e58, rfl, hT58, hup58, hs58⟩ := r58
  replace hl := hl.nw hs58
  replace hlx := fun x h_ => (hlx x h_).nw hs58
  replace hf := hf.nw hs58
  replace hu := hu.nw hs58
  replace hsr := hsr.nw hs58
  replace hv := hv.nw hs58
  replace hgr := hgr.nw hs58
  replace vx := vx.nw hs58
  replace vy := vy.nw hs58
  replace hm0 := hm0.tr hs58
  have hz14 := hs58.size
  rw [hpq] at hT58 hup58
  obtain ⟨hu58, he58⟩ := ab_eq hR51 hT58 hup58 (h4 _)
  refine LR.v (Y.move rfl rfl) (Wd.u rfl) rfl rfl ?_
  refine LR.v (Y.extract rfl rfl rfl) (Wd.u rfl) rfl rfl ?_
  refine LR.v (Y.extract rfl rfl rfl) (Wd.u rfl) rfl rfl ?_
  refine LR.v (Y.assign rfl rfl) (Wd.u rfl) rfl rfl ?_
  refine LR.v (Y.assign rfl rfl) (Wd.u rfl) rfl rfl ?_
  refine LR.nil ?_
  refine hK9 _ _ ?_
  refine CW.seq (fun K10 hK10 hE10 => ?_)
  refine CW.seq (fun K11 hK11 hE11 => ?_)
  refine CW.region ?_
  refine LR.v (Y.move rfl rfl) (Wd.u rfl) rfl rfl ?_
  refine LR.v (Y.move rfl rfl) (Wd.u rfl) rfl rfl ?_
  refine LR.v ((Y.bneq rfl Try.underlying4 rfl rfl).isF (fun h => h hu58)) (Wd.u rfl) rfl rfl ?_
  refine LR.v (Y.move rfl rfl) (Wd.u rfl) rfl rfl ?_
  refine LR.v (Y.move rfl rfl) (Wd.g rfl rfl rfl) rfl rfl ?_
  refine LR.v (Y.move rfl rfl) (Wd.g rfl rfl rfl) rfl rfl ?_
  -- call selvage/selvagelaw11.is
  refine LR.call rfl Try.call20 rfl (Wd.g rfl rfl rfl) rfl rfl (isT_ct e51 e58 he58 w0 _) (fun v67 H67 r67 => ?_)
  obtain ⟨rfl, hs67⟩ := r67
  replace hl := hl.nw hs67
  replace hlx := fun x h_ => (hlx x h_).nw hs67
  replace hf := hf.nw hs67
  replace hu := hu.nw hs67
  replace hsr := hsr.nw hs67
  replace hv := hv.nw hs67
  replace hgr := hgr.nw hs67
  replace vx := vx.nw hs67
  replace vy := vy.nw hs67
  replace hm0 := hm0.tr hs67
  have hz15 := hs67.size
  refine LR.v (Y.not rfl rfl) (Wd.g rfl rfl rfl) rfl rfl ?_
  refine LR.v (Y.pick_f rfl rfl rfl) (Wd.u rfl) rfl rfl ?_
  refine LR.nil ?_
  refine hK11 _ _ ?_
  refine CW.cond_f rfl ?_
  refine CW.skip ?_
  refine hK10 _ _ ?_
  refine CW.seq (fun K12 hK12 hE12 => ?_)
  refine CW.region ?_
  refine LR.v (Y.move rfl rfl) (Wd.u rfl) rfl rfl ?_
  refine LR.v (Y.mki rfl Try.runUnderlying25 (by intro ms h; cases h) rfl) (Wd.u rfl) rfl rfl ?_
  refine LR.v (Y.loadN vx.pt rfl Try.isAgg30 Try.sizeOf30 (fA_len _) rfl) (Wd.u rfl) rfl rfl ?_
  -- call selvage/graph.Gen
  refine LR.call rfl Try.call17 rfl (Wd.u rfl) rfl rfl (gen_ct (Sou.rows sR out) H28.size q51 _ (idn xa) (gfun (out.map Rw.l)) w0 _ hv hsr (bf_hsr.mono (by omega)) (df5) hR.ok (by omega) hg.gf_all hg.gf_le) (fun v74 H74 r74 => ?_)
  obtain ⟨rr74, e74, q74, rfl, hv, hR74, hq74, hs74⟩ := r74
  replace hl := hl.upL hs74 (DFL.cons df1 DFL.nil)
  replace hlx := fun x h_ => (hlx x h_).upL hs74 (DFL.cons df2 DFL.nil)
  replace hf := hf.upL hs74 (DFL.cons df3 DFL.nil)
  replace hu := hu.upL hs74 (DFL.cons df4 DFL.nil)
  replace hsr := hsr.upL hs74 (DFL.cons df5 DFL.nil)
  replace hgr := hgr.upL hs74 (DFL.cons df7 DFL.nil)
  replace vx := vx.upL hs74 (DL.cons dj13.symm DL.nil)
  replace vy := vy.upL hs74 (DL.cons dj21.symm DL.nil)
  replace hm0 := (Mo.trL (ks := []) (hm0.mdn []) hs74 (MIL.cons (MI.app MI.z (nx6) (Nat.le_refl _)) MIL.nil)).nil
  have hz16 := hs74.size
  refine LR.v (Y.move rfl rfl) (Wd.u rfl) rfl rfl ?_
  refine LR.v (Y.extract rfl rfl rfl) (Wd.u rfl) rfl rfl ?_
  refine LR.v (Y.extract rfl rfl rfl) (Wd.u rfl) rfl rfl ?_
  refine LR.v (Y.assign rfl rfl) (Wd.u rfl) rfl rfl ?_
  refine LR.v (Y.assign rfl rfl) (Wd.u rfl) rfl rfl ?_
  refine LR.nil ?_
  refine hK12 _ _ ?_
  refine CW.seq (fun K13 hK13 hE13 => ?_)
  refine CW.region ?_
  refine LR.v (Y.move rfl rfl) (Wd.u rfl) rfl rfl ?_
  refine LR.v (Y.loadN vx.pt rfl Try.isAgg30 Try.sizeOf30 (fA_len _) rfl) (Wd.u rfl) rfl rfl ?_
  -- call (*selvage/selvageref11.Graph).Gen
  refine LR.call rfl Try.call23 rfl (Wd.u rfl) rfl rfl (rgen_ct gb nl nd _ (idn xa) (rkL (out.map Rw.l)) (gfun (out.map Rw.l)) w0 _ hgr (bf_hgr.mono (by omega)) hnd hac2 hgf2 hg.gf_le) (fun v80 H80 r80 => ?_)
  obtain ⟨rr80, e80, rfl, hT80, hrr80, hs80⟩ := r80
  replace hl := hl.nw hs80
  replace hlx := fun x h_ => (hlx x h_).nw hs80
  replace hf := hf.nw hs80
  replace hu := hu.nw hs80
  replace hsr := hsr.nw hs80
  replace hv := hv.nw hs80
  replace hgr := hgr.nw hs80
  replace vx := vx.nw hs80
  replace vy := vy.nw hs80
  replace hm0 := hm0.tr hs80
  have hz17 := hs80.size
  rw [hpq] at hT80
  obtain ⟨hr80, he80⟩ := gn_eq hR74 hT80 hrr80 (h4 _)
  refine LR.v (Y.move rfl rfl) (Wd.u rfl) rfl rfl ?_
  refine LR.v (Y.extract rfl rfl rfl) (Wd.u rfl) rfl rfl ?_
  refine LR.v (Y.extract rfl rfl rfl) (Wd.u rfl) rfl rfl ?_
  refine LR.v (Y.assign rfl rfl) (Wd.u rfl) rfl rfl ?_
  refine LR.v (Y.assign rfl rfl) (Wd.u rfl) rfl rfl ?_
  refine LR.nil ?_
  refine hK13 _ _ ?_
  refine CW.seq (fun K14 hK14 hE14 => ?_)
  refine CW.seq (fun K15 hK15 hE15 => ?_)
  refine CW.region ?_
  refine LR.v (Y.move rfl rfl) (Wd.u rfl) rfl rfl ?_
  refine LR.v (Y.move rfl rfl) (Wd.u rfl) rfl rfl ?_
  refine LR.v ((Y.neq rfl rfl rfl).isF (fun h => h (by omega))) (Wd.u rfl) rfl rfl ?_
  refine LR.v (Y.move rfl rfl) (Wd.u rfl) rfl rfl ?_
  refine LR.v (Y.move rfl rfl) (Wd.g rfl rfl rfl) rfl rfl ?_
  refine LR.v (Y.move rfl rfl) (Wd.g rfl rfl rfl) rfl rfl ?_
  -- call selvage/selvagelaw11.is
  refine LR.call rfl Try.call20 rfl (Wd.g rfl rfl rfl) rfl rfl (isT_ct e74 e80 he80 w0 _) (fun v89 H89 r89 => ?_)
  obtain ⟨rfl, hs89⟩ := r89
  replace hl := hl.nw hs89
  replace hlx := fun x h_ => (hlx x h_).nw hs89
  replace hf := hf.nw hs89
  replace hu := hu.nw hs89
  replace hsr := hsr.nw hs89
  replace hv := hv.nw hs89
  replace hgr := hgr.nw hs89
  replace vx := vx.nw hs89
  replace vy := vy.nw hs89
  replace hm0 := hm0.tr hs89
  have hz18 := hs89.size
  refine LR.v (Y.not rfl rfl) (Wd.g rfl rfl rfl) rfl rfl ?_
  refine LR.v (Y.pick_f rfl rfl rfl) (Wd.u rfl) rfl rfl ?_
  refine LR.nil ?_
  refine hK15 _ _ ?_
  refine CW.cond_f rfl ?_
  refine CW.skip ?_
  refine hK14 _ _ ?_
  refine CW.seq (fun K16 hK16 hE16 => ?_)
  refine CW.region ?_
  refine LR.v (Y.move rfl rfl) (Wd.u rfl) rfl rfl ?_
  refine LR.v (Y.mki rfl Try.runUnderlying25 (by intro ms h; cases h) rfl) (Wd.u rfl) rfl rfl ?_
  refine LR.v (Y.loadN vx.pt rfl Try.isAgg30 Try.sizeOf30 (fA_len _) rfl) (Wd.u rfl) rfl rfl ?_
  refine LR.v (Y.loadN vy.pt rfl Try.isAgg30 Try.sizeOf30 (fA_len _) rfl) (Wd.u rfl) rfl rfl ?_
  -- call selvage/graph.Bases
  refine LR.call rfl Try.call18 rfl (Wd.u rfl) rfl rfl (bas_ct (Sou.rows sR out) H28.size q74 _ (idn xa) (idn yb) (rkL (out.map Rw.l)) w0 _ hv hsr (bf_hsr.mono (by omega)) (df5) hR.ok (by omega) hg.ac) (fun v97 H97 r97 => ?_)
  have ql25 := hv.lt
  have ql26 := vx.lt
  have ql27 := vy.lt
  obtain ⟨s97, k97, o97, e97, q97, rfl, ow97, hk97, hv, hR97, hq97, hs97⟩ := r97
  have df28 := DF.app (DF.z) (bf_hl.mono hm0.size) hk97
  have df29 := DF.app (DF.z) (bf_hlx.mono hm0.size) hk97
  have df30 := DF.app (DF.z) (bf_hf.mono hm0.size) hk97
  have df31 := DF.app (DF.z) (bf_hu.mono hm0.size) hk97
  have df32 := DF.app (DF.z) (bf_hsr.mono (by omega)) hk97
  have dj33 : Dj (H28.size + 1) k97 := Dj.app (Dj.z) ql25 hk97
  have df34 := DF.app (DF.z) (bf_hgr.mono (by omega)) hk97
  have dj35 : Dj (H45.size + 1) k97 := Dj.app (Dj.z) ql26 hk97
  have dj36 : Dj (H13.size + 1) k97 := Dj.app (Dj.z) ql27 hk97
  have nx37 : Nx 0 H0.size k97 := Nx.tr (Nx.refl 0 _) hk97 hm0.size
  replace hl := hl.upL hs97 (DFL.cons df1 DFL.nil)
  replace hlx := fun x h_ => (hlx x h_).upL hs97 (DFL.cons df2 DFL.nil)
  replace hf := hf.upL hs97 (DFL.cons df3 DFL.nil)
  replace hu := hu.upL hs97 (DFL.cons df4 DFL.nil)
  replace hsr := hsr.upL hs97 (DFL.cons df5 DFL.nil)
  replace hgr := hgr.upL hs97 (DFL.cons df7 DFL.nil)
  replace vx := vx.upL hs97 (DL.cons dj13.symm DL.nil)
  replace vy := vy.upL hs97 (DL.cons dj21.symm DL.nil)
  replace hm0 := (Mo.trL (ks := []) (hm0.mdn []) hs97 (MIL.cons (MI.app MI.z (nx6) (Nat.le_refl _)) MIL.nil)).nil
  have hz19 := hs97.size
  have hle_ow97 := ow97.le
  refine LR.v (Y.move rfl rfl) (Wd.u rfl) rfl rfl ?_
  refine LR.v (Y.extract rfl rfl rfl) (Wd.u rfl) rfl rfl ?_
  refine LR.v (Y.extract rfl rfl rfl) (Wd.u rfl) rfl rfl ?_
  refine LR.v (Y.assign rfl rfl) (Wd.u rfl) rfl rfl ?_
  refine LR.v (Y.assign rfl rfl) (Wd.u rfl) rfl rfl ?_
  refine LR.nil ?_
  refine hK16 _ _ ?_
  refine CW.seq (fun K17 hK17 hE17 => ?_)
  refine CW.region ?_
  refine LR.v (Y.move rfl rfl) (Wd.u rfl) rfl rfl ?_
  refine LR.v (Y.loadN vx.pt rfl Try.isAgg30 Try.sizeOf30 (fA_len _) rfl) (Wd.u rfl) rfl rfl ?_
  refine LR.v (Y.loadN vy.pt rfl Try.isAgg30 Try.sizeOf30 (fA_len _) rfl) (Wd.u rfl) rfl rfl ?_
  -- call (*selvage/selvageref11.Graph).Bases
  refine LR.call rfl Try.call24 rfl (Wd.u rfl) rfl rfl (rbas_ct gb nl nd _ (idn xa) (idn yb) w0 _ hgr (bf_hgr.mono (by omega)) hnd) (fun v104 H104 r104 => ?_)
  obtain ⟨s104, k104, o104, e104, rfl, or104, hk104, hR104, hs104⟩ := r104
  have df38 := DF.app (DF.z) (bf_hl.mono hm0.size) hk104
  have df39 := DF.app (DF.z) (bf_hlx.mono hm0.size) hk104
  have df40 := DF.app (DF.z) (bf_hf.mono hm0.size) hk104
  have df41 := DF.app (DF.z) (bf_hu.mono hm0.size) hk104
  have df42 := DF.app (DF.z) (bf_hsr.mono (by omega)) hk104
  have dj43 : Dj (H28.size + 1) k104 := Dj.app (Dj.z) hv.lt hk104
  have df44 := DF.app (DF.z) (bf_hgr.mono (by omega)) hk104
  have dj45 : Dj (H45.size + 1) k104 := Dj.app (Dj.z) vx.lt hk104
  have dj46 : Dj (H13.size + 1) k104 := Dj.app (Dj.z) vy.lt hk104
  have dj47 : Dj k97 k104 := Dj.app (Dj.z) ow97.le hk104
  have nx48 : Nx 0 H0.size k104 := Nx.tr (Nx.refl 0 _) hk104 hm0.size
  replace hl := hl.nw hs104
  replace hlx := fun x h_ => (hlx x h_).nw hs104
  replace hf := hf.nw hs104
  replace hu := hu.nw hs104
  replace hsr := hsr.nw hs104
  replace hv := hv.nw hs104
  replace hgr := hgr.nw hs104
  replace vx := vx.nw hs104
  replace vy := vy.nw hs104
  replace ow97 := ow97.nw hs104
  replace hm0 := hm0.tr hs104
  have hz20 := hs104.size
  have hle_or104 := or104.le
  rw [hpq] at hR104
  obtain ⟨ho104, he104⟩ := rbs_bsr hR104 hR97 (h4 _)
  rw [← ho104] at or104
  have hl97 := bsr_le hR97
  refine LR.v (Y.move rfl rfl) (Wd.u rfl) rfl rfl ?_
  refine LR.v (Y.extract rfl rfl rfl) (Wd.u rfl) rfl rfl ?_
  refine LR.v (Y.extract rfl rfl rfl) (Wd.u rfl) rfl rfl ?_
  refine LR.v (Y.assign rfl rfl) (Wd.u rfl) rfl rfl ?_
  refine LR.v (Y.assign rfl rfl) (Wd.u rfl) rfl rfl ?_
  refine LR.nil ?_
  refine hK17 _ _ ?_
  refine CW.seq (fun K18 hK18 hE18 => ?_)
  refine CW.seq (fun K19 hK19 hE19 => ?_)
  refine CW.region ?_
  refine LR.v (Y.move rfl rfl) (Wd.u rfl) rfl rfl ?_
  refine LR.v (Y.move rfl rfl) (Wd.u rfl) rfl rfl ?_
  -- call selvage/selvagelaw11.sameIds
  refine LR.call rfl Try.call19 rfl (Wd.u rfl) rfl rfl (same_ct s97.v s104.v _ w0 _ ow97.rd.any or104.rd.any (by omega)) (fun v109 H109 r109 => ?_)
  obtain ⟨rfl, hs109⟩ := r109
  replace hl := hl.nw hs109
  replace hlx := fun x h_ => (hlx x h_).nw hs109
  replace hf := hf.nw hs109
  replace hu := hu.nw hs109
  replace hsr := hsr.nw hs109
  replace hv := hv.nw hs109
  replace hgr := hgr.nw hs109
  replace ow97 := ow97.nw hs109
  replace or104 := or104.nw hs109
  replace hm0 := hm0.tr hs109
  have hz21 := hs109.size
  refine LR.v (Y.not rfl rfl) (Wd.u rfl) rfl rfl ?_
  refine LR.v (Y.move rfl rfl) (Wd.u rfl) rfl rfl ?_
  refine LR.v (Y.move rfl rfl) (Wd.g rfl rfl rfl) rfl rfl ?_
  refine LR.v (Y.move rfl rfl) (Wd.g rfl rfl rfl) rfl rfl ?_
  -- call selvage/selvagelaw11.is
  refine LR.call rfl Try.call20 rfl (Wd.g rfl rfl rfl) rfl rfl (isT_ct e97 e104 he104 w0 _) (fun v114 H114 r114 => ?_)
  obtain ⟨rfl, hs114⟩ := r114
  replace hl := hl.nw hs114
  replace hlx := fun x h_ => (hlx x h_).nw hs114
  replace hf := hf.nw hs114
  replace hu := hu.nw hs114
  replace hsr := hsr.nw hs114
  replace hv := hv.nw hs114
  replace hgr := hgr.nw hs114
  replace ow97 := ow97.nw hs114
  replace or104 := or104.nw hs114
  replace hm0 := hm0.tr hs114
  have hz22 := hs114.size
  refine LR.v (Y.not rfl rfl) (Wd.g rfl rfl rfl) rfl rfl ?_
  refine LR.v (Y.pick_f rfl rfl rfl) (Wd.u rfl) rfl rfl ?_
  refine LR.nil ?_
  refine hK19 _ _ ?_
  refine CW.cond_f rfl ?_
  refine CW.skip ?_
  refine hK18 _ _ ?_
  refine CW.seq (fun K20 hK20 hE20 => ?_)
  refine CW.region ?_
  refine LR.v (Y.move rfl rfl) (Wd.u rfl) rfl rfl ?_
  refine LR.v (Y.move rfl rfl) (Wd.u rfl) rfl rfl ?_
  refine LR.v (Y.len (hsr.l _ _ rfl) rfl Try.runUnderlying22 rfl) (Wd.u rfl) rfl rfl ?_
  -- call selvage/selvagelaw11.some
  refine LR.call rfl Try.call15 rfl (Wd.u rfl) rfl rfl (some_ct vf lf out.length w0 _ hf.any hf64 (by omega)) (fun v120 H120 r120 => ?_)
  obtain ⟨s120, k120, ps, rfl, ow120, hk120, hp120, hs120⟩ := r120
  have df49 := DF.app (DF.z) (bf_hl.mono hm0.size) hk120
  have df50 := DF.app (DF.z) (bf_hlx.mono hm0.size) hk120
  have df51 := DF.app (DF.z) (bf_hf.mono hm0.size) hk120
  have df52 := DF.app (DF.z) (bf_hu.mono hm0.size) hk120
  have df53 := DF.app (DF.z) (bf_hsr.mono (by omega)) hk120
  have dj54 : Dj (H28.size + 1) k120 := Dj.app (Dj.z) hv.lt hk120
  have df55 := DF.app (DF.z) (bf_hgr.mono (by omega)) hk120
  have dj56 : Dj k97 k120 := Dj.app (Dj.z) ow97.le hk120
  have dj57 : Dj k104 k120 := Dj.app (Dj.z) or104.le hk120
  have nx58 : Nx 0 H0.size k120 := Nx.tr (Nx.refl 0 _) hk120 hm0.size
  replace hl := hl.nw hs120
  replace hlx := fun x h_ => (hlx x h_).nw hs120
  replace hf := hf.nw hs120
  replace hu := hu.nw hs120
  replace hsr := hsr.nw hs120
  replace hv := hv.nw hs120
  replace hgr := hgr.nw hs120
  replace ow97 := ow97.nw hs120
  replace or104 := or104.nw hs120
  replace hm0 := hm0.tr hs120
  have hz23 := hs120.size
  have hle_ow120 := ow120.le
  have hpl := hp120.1
  refine LR.v (Y.move rfl rfl) (Wd.u rfl) rfl rfl ?_
  refine LR.v (Y.move rfl rfl) (Wd.u rfl) rfl rfl ?_
  refine LR.v (Y.len (hsr.l _ _ rfl) rfl Try.runUnderlying22 rfl) (Wd.u rfl) rfl rfl ?_
  -- call selvage/selvagelaw11.some
  refine LR.call rfl Try.call15 rfl (Wd.u rfl) rfl rfl (some_ct vu lu out.length w0 _ hu.any hu64 (by omega)) (fun v124 H124 r124 => ?_)
  obtain ⟨s124, k124, qs, rfl, ow124, hk124, hp124, hs124⟩ := r124
  have df59 := DF.app (DF.z) (bf_hl.mono hm0.size) hk124
  have df60 := DF.app (DF.z) (bf_hlx.mono hm0.size) hk124
  have df61 := DF.app (DF.z) (bf_hf.mono hm0.size) hk124
  have df62 := DF.app (DF.z) (bf_hu.mono hm0.size) hk124
  have df63 := DF.app (DF.z) (bf_hsr.mono (by omega)) hk124
  have dj64 : Dj (H28.size + 1) k124 := Dj.app (Dj.z) hv.lt hk124
  have df65 := DF.app (DF.z) (bf_hgr.mono (by omega)) hk124
  have dj66 : Dj k97 k124 := Dj.app (Dj.z) ow97.le hk124
  have dj67 : Dj k104 k124 := Dj.app (Dj.z) or104.le hk124
  have dj68 : Dj k120 k124 := Dj.app (Dj.z) ow120.le hk124
  have nx69 : Nx 0 H0.size k124 := Nx.tr (Nx.refl 0 _) hk124 hm0.size
  replace hl := hl.nw hs124
  replace hlx := fun x h_ => (hlx x h_).nw hs124
  replace hf := hf.nw hs124
  replace hu := hu.nw hs124
  replace hsr := hsr.nw hs124
  replace hv := hv.nw hs124
  replace hgr := hgr.nw hs124
  replace ow97 := ow97.nw hs124
  replace or104 := or104.nw hs124
  replace ow120 := ow120.nw hs124
  replace hm0 := hm0.tr hs124
  have hz24 := hs124.size
  have hle_ow124 := ow124.le
  have hql := hp124.1
  refine LR.v (Y.assign rfl rfl) (Wd.u rfl) rfl rfl ?_
  refine LR.v (Y.assign rfl rfl) (Wd.u rfl) rfl rfl ?_
  refine LR.nil ?_
  refine hK20 _ _ ?_
  refine CW.seq (fun K21 hK21 hE21 => ?_)
  refine CW.region ?_
  refine LR.v (Y.move rfl rfl) (Wd.u rfl) rfl rfl ?_
  refine LR.v (Y.mki rfl Try.runUnderlying25 (by intro ms h; cases h) rfl) (Wd.u rfl) rfl rfl ?_
  refine LR.z (Z.litw _ (([] : List Ide)) rfl inf28 rfl rfl rfl (by decide) (by decide) fA_len fA_one (rfl)) (Wd.u rfl) rfl rfl (fun v128 H128 r128 => ?_)
  obtain ⟨ow128, hs128, ob128, hH128⟩ := r128
  have hzs128 : H128.size = H124.size + 1 := by rw [hH128]; simp
  have df70 := (DF.new (bf_hl.mono hm0.size) : DF _ (H124.size + 1))
  have df71 := (DF.new (bf_hlx.mono hm0.size) : DF _ (H124.size + 1))
  have df72 := (DF.new (bf_hf.mono hm0.size) : DF _ (H124.size + 1))
  have df73 := (DF.new (bf_hu.mono hm0.size) : DF _ (H124.size + 1))
  have df74 := (DF.new (bf_hsr.mono (by omega)) : DF _ (H124.size + 1))
  have dj75 : Dj (H28.size + 1) (H124.size + 1) := Dj.new hv.lt
  have df76 := (DF.new (bf_hgr.mono (by omega)) : DF _ (H124.size + 1))
  have dj77 : Dj k97 (H124.size + 1) := Dj.new ow97.le
  have dj78 : Dj k104 (H124.size + 1) := Dj.new or104.le
  have dj79 : Dj k120 (H124.size + 1) := Dj.new ow120.le
  have dj80 : Dj k124 (H124.size + 1) := Dj.new ow124.le
  have nx81 : Nx 0 H0.size (H124.size + 1) := Nx.new hm0.size
  replace hl := hl.nw hs128
  replace hlx := fun x h_ => (hlx x h_).nw hs128
  replace hf := hf.nw hs128
  replace hu := hu.nw hs128
  replace hsr := hsr.nw hs128
  replace hv := hv.nw hs128
  replace hgr := hgr.nw hs128
  replace ow97 := ow97.nw hs128
  replace or104 := or104.nw hs128
  replace ow120 := ow120.nw hs128
  replace ow124 := ow124.nw hs128
  replace hm0 := hm0.tr hs128
  have hz25 := hs128.size
  refine LR.v (Y.move rfl rfl) (Wd.u rfl) rfl rfl ?_
  refine LR.z (Z.apnd ow128 ow120.rd rfl inf28 rfl rfl (by first | omega | (simp; omega)) (by first | omega | (simp; omega))) (Wd.u rfl) rfl rfl (fun v130 H130 r130 => ?_)
  obtain ⟨k130, ow130, hk130, hs130⟩ := r130
  replace hk130 : Nx (H124.size + 1) H128.size k130 := hk130
  replace hs130 := hs130.md
  have df82 := DF.app (df70) (bf_hl.mono hm0.size) hk130
  have df83 := DF.app (df71) (bf_hlx.mono hm0.size) hk130
  have df84 := DF.app (df72) (bf_hf.mono hm0.size) hk130
  have df85 := DF.app (df73) (bf_hu.mono hm0.size) hk130
  have df86 := DF.app (df74) (bf_hsr.mono (by omega)) hk130
  have dj87 : Dj (H28.size + 1) k130 := Dj.app (dj75) hv.lt hk130
  have df88 := DF.app (df76) (bf_hgr.mono (by omega)) hk130
  have dj89 : Dj k97 k130 := Dj.app (dj77) ow97.le hk130
  have dj90 : Dj k104 k130 := Dj.app (dj78) or104.le hk130
  have dj91 : Dj k120 k130 := Dj.app (dj79) ow120.le hk130
  have dj92 : Dj k124 k130 := Dj.app (dj80) ow124.le hk130
  have nx93 : Nx 0 H0.size k130 := Nx.tr (nx81) hk130 hm0.size
  replace hl := hl.upL hs130 (DFL.cons df70 DFL.nil)
  replace hlx := fun x h_ => (hlx x h_).upL hs130 (DFL.cons df71 DFL.nil)
  replace hf := hf.upL hs130 (DFL.cons df72 DFL.nil)
  replace hu := hu.upL hs130 (DFL.cons df73 DFL.nil)
  replace hsr := hsr.upL hs130 (DFL.cons df74 DFL.nil)
  replace hv := hv.upL hs130 (DL.cons dj75 DL.nil)
  replace hgr := hgr.upL hs130 (DFL.cons df76 DFL.nil)
  replace ow97 := ow97.upL hs130 (DL.cons dj77 DL.nil)
  replace or104 := or104.upL hs130 (DL.cons dj78 DL.nil)
  replace ow120 := ow120.upL hs130 (DL.cons dj79 DL.nil)
  replace ow124 := ow124.upL hs130 (DL.cons dj80 DL.nil)
  replace hm0 := (Mo.trL (ks := []) (hm0.mdn []) hs130 (MIL.cons (MI.app MI.z (nx81) (Nat.le_refl _)) MIL.nil)).nil
  have hz26 := hs130.size
  have hle_ow130 := ow130.le
  obtain ⟨s130, rfl⟩ : ∃ s : SV, v130 = s.v := ⟨toSV v130, ow130.sv.symm⟩
  simp only [List.nil_append] at ow130
  refine LR.z (Z.litw _ (([] : List Ide)) rfl inf28 rfl rfl rfl (by decide) (by decide) fA_len fA_one (rfl)) (Wd.u rfl) rfl rfl (fun v131 H131 r131 => ?_)
  obtain ⟨ow131, hs131, ob131, hH131⟩ := r131
  have hzs131 : H131.size = H130.size + 1 := by rw [hH131]; simp
  have df94 := (DF.new (bf_hl.mono hm0.size) : DF _ (H130.size + 1))
  have df95 := (DF.new (bf_hlx.mono hm0.size) : DF _ (H130.size + 1))
  have df96 := (DF.new (bf_hf.mono hm0.size) : DF _ (H130.size + 1))
  have df97 := (DF.new (bf_hu.mono hm0.size) : DF _ (H130.size + 1))
  have df98 := (DF.new (bf_hsr.mono (by omega)) : DF _ (H130.size + 1))
  have dj99 : Dj (H28.size + 1) (H130.size + 1) := Dj.new hv.lt
  have df100 := (DF.new (bf_hgr.mono (by omega)) : DF _ (H130.size + 1))
  have dj101 : Dj k97 (H130.size + 1) := Dj.new ow97.le
  have dj102 : Dj k104 (H130.size + 1) := Dj.new or104.le
  have dj103 : Dj k120 (H130.size + 1) := Dj.new ow120.le
  have dj104 : Dj k124 (H130.size + 1) := Dj.new ow124.le
  have dj105 : Dj k130 (H130.size + 1) := Dj.new ow130.le
  have nx106 : Nx 0 H0.size (H130.size + 1) := Nx.new hm0.size
  replace hl := hl.nw hs131
  replace hlx := fun x h_ => (hlx x h_).nw hs131
  replace hf := hf.nw hs131
  replace hu := hu.nw hs131
  replace hsr := hsr.nw hs131
  replace hv := hv.nw hs131
  replace hgr := hgr.nw hs131
  replace ow97 := ow97.nw hs131
  replace or104 := or104.nw hs131
  replace ow120 := ow120.nw hs131
  replace ow124 := ow124.nw hs131
  replace ow130 := ow130.nw hs131
  replace hm0 := hm0.tr hs131
  have hz27 := hs131.size
  refine LR.v (Y.move rfl rfl) (Wd.u rfl) rfl rfl ?_
  refine LR.z (Z.apnd ow131 ow124.rd rfl inf28 rfl rfl (by first | omega | (simp; omega)) (by first | omega | (simp; omega))) (Wd.u rfl) rfl rfl (fun v133 H133 r133 => ?_)
  obtain ⟨k133, ow133, hk133, hs133⟩ := r133
  replace hk133 : Nx (H130.size + 1) H131.size k133 := hk133
  replace hs133 := hs133.md
  have df107 := DF.app (df94) (bf_hl.mono hm0.size) hk133
  have df108 := DF.app (df95) (bf_hlx.mono hm0.size) hk133
  have df109 := DF.app (df96) (bf_hf.mono hm0.size) hk133
  have df110 := DF.app (df97) (bf_hu.mono hm0.size) hk133
  have df111 := DF.app (df98) (bf_hsr.mono (by omega)) hk133
  have dj112 : Dj (H28.size + 1) k133 := Dj.app (dj99) hv.lt hk133
  have df113 := DF.app (df100) (bf_hgr.mono (by omega)) hk133
  have dj114 : Dj k97 k133 := Dj.app (dj101) ow97.le hk133
  have dj115 : Dj k104 k133 := Dj.app (dj102) or104.le hk133
  have dj116 : Dj k120 k133 := Dj.app (dj103) ow120.le hk133
  have dj117 : Dj k124 k133 := Dj.app (dj104) ow124.le hk133
  have dj118 : Dj k130 k133 := Dj.app (dj105) ow130.le hk133
  have nx119 : Nx 0 H0.size k133 := Nx.tr (nx106) hk133 hm0.size
  replace hl := hl.upL hs133 (DFL.cons df94 DFL.nil)
  replace hlx := fun x h_ => (hlx x h_).upL hs133 (DFL.cons df95 DFL.nil)
  replace hf := hf.upL hs133 (DFL.cons df96 DFL.nil)
  replace hu := hu.upL hs133 (DFL.cons df97 DFL.nil)
  replace hsr := hsr.upL hs133 (DFL.cons df98 DFL.nil)
  replace hv := hv.upL hs133 (DL.cons dj99 DL.nil)
  replace hgr := hgr.upL hs133 (DFL.cons df100 DFL.nil)
  replace ow97 := ow97.upL hs133 (DL.cons dj101 DL.nil)
  replace or104 := or104.upL hs133 (DL.cons dj102 DL.nil)
  replace ow120 := ow120.upL hs133 (DL.cons dj103 DL.nil)
  replace ow124 := ow124.upL hs133 (DL.cons dj104 DL.nil)
  replace ow130 := ow130.upL hs133 (DL.cons dj105 DL.nil)
  replace hm0 := (Mo.trL (ks := []) (hm0.mdn []) hs133 (MIL.cons (MI.app MI.z (nx106) (Nat.le_refl _)) MIL.nil)).nil
  have hz28 := hs133.size
  have hle_ow133 := ow133.le
  obtain ⟨s133, rfl⟩ : ∃ s : SV, v133 = s.v := ⟨toSV v133, ow133.sv.symm⟩
  simp only [List.nil_append] at ow133
  -- call selvage/graph.Order
  refine LR.call rfl Try.call13 rfl (Wd.u rfl) rfl rfl (ord_ct (Sou.rows sR out) H28.size q97 _ s130 s133 (ps.map idn) (qs.map idn) (rkL (out.map Rw.l)) w0 _ hv hsr (bf_hsr.mono (by omega)) (df5) hR.ok (by omega) (Ow.ne ow130 (dj87)) (Ow.ne ow133 (dj112)) (by simp; omega) hg.ac) (fun v134 H134 r134 => ?_)
  have ql120 := hv.lt
  have ql121 := ow97.le
  have ql122 := or104.le
  have ql123 := ow120.le
  have ql124 := ow124.le
  have ql125 := ow130.le
  have ql126 := ow133.le
  obtain ⟨s134, k134, o134, e134, q134, rfl, ow134, hk134, hv, hR134, hq134, hs134⟩ := r134
  have df127 := DF.app (DF.z) (bf_hl.mono hm0.size) hk134
  have df128 := DF.app (DF.z) (bf_hlx.mono hm0.size) hk134
  have df129 := DF.app (DF.z) (bf_hf.mono hm0.size) hk134
  have df130 := DF.app (DF.z) (bf_hu.mono hm0.size) hk134
  have df131 := DF.app (DF.z) (bf_hsr.mono (by omega)) hk134
  have dj132 : Dj (H28.size + 1) k134 := Dj.app (Dj.z) ql120 hk134
  have df133 := DF.app (DF.z) (bf_hgr.mono (by omega)) hk134
  have dj134 : Dj k97 k134 := Dj.app (Dj.z) ql121 hk134
  have dj135 : Dj k104 k134 := Dj.app (Dj.z) ql122 hk134
  have dj136 : Dj k120 k134 := Dj.app (Dj.z) ql123 hk134
  have dj137 : Dj k124 k134 := Dj.app (Dj.z) ql124 hk134
  have dj138 : Dj k130 k134 := Dj.app (Dj.z) ql125 hk134
  have dj139 : Dj k133 k134 := Dj.app (Dj.z) ql126 hk134
  have nx140 : Nx 0 H0.size k134 := Nx.tr (Nx.refl 0 _) hk134 hm0.size
  replace hl := hl.upL hs134 (DFL.cons df1 DFL.nil)
  replace hlx := fun x h_ => (hlx x h_).upL hs134 (DFL.cons df2 DFL.nil)
  replace hf := hf.upL hs134 (DFL.cons df3 DFL.nil)
  replace hu := hu.upL hs134 (DFL.cons df4 DFL.nil)
  replace hsr := hsr.upL hs134 (DFL.cons df5 DFL.nil)
  replace hgr := hgr.upL hs134 (DFL.cons df7 DFL.nil)
  replace ow97 := ow97.upL hs134 (DL.cons dj33.symm DL.nil)
  replace or104 := or104.upL hs134 (DL.cons dj43.symm DL.nil)
  replace ow120 := ow120.upL hs134 (DL.cons dj54.symm DL.nil)
  replace ow124 := ow124.upL hs134 (DL.cons dj64.symm DL.nil)
  replace ow130 := ow130.upL hs134 (DL.cons dj87.symm DL.nil)
  replace ow133 := ow133.upL hs134 (DL.cons dj112.symm DL.nil)
  replace hm0 := (Mo.trL (ks := []) (hm0.mdn []) hs134 (MIL.cons (MI.app MI.z (nx6) (Nat.le_refl _)) MIL.nil)).nil
  have hz29 := hs134.size
  have hle_ow134 := ow134.le
  refine LR.v (Y.move rfl rfl) (Wd.u rfl) rfl rfl ?_
  refine LR.v (Y.extract rfl rfl rfl) (Wd.u rfl) rfl rfl ?_
  refine LR.v (Y.extract rfl rfl rfl) (Wd.u rfl) rfl rfl ?_
  refine LR.v (Y.assign rfl rfl) (Wd.u rfl) rfl rfl ?_
  refine LR.v (Y.assign rfl rfl) (Wd.u rfl) rfl rfl ?_
  refine LR.nil ?_
  refine hK21 _ _ ?_
  refine CW.seq (fun K22 hK22 hE22 => ?_)
  refine CW.region ?_
  refine LR.v (Y.move rfl rfl) (Wd.u rfl) rfl rfl ?_
  refine LR.v (Y.move rfl rfl) (Wd.u rfl) rfl rfl ?_
  refine LR.v (Y.move rfl rfl) (Wd.u rfl) rfl rfl ?_
  -- call (*selvage/selvageref11.Graph).Order
  refine LR.call rfl Try.call25 rfl (Wd.u rfl) rfl rfl (rord_ct gb nl nd _ s120.v s124.v (ps.map idn) (qs.map idn) (rkL (out.map Rw.l)) w0 _ hgr (bf_hgr.mono (by omega)) hnd ow120.rd.any ow124.rd.any (by simp; omega) (by simp; omega) hac2) (fun v141 H141 r141 => ?_)
  obtain ⟨s141, k141, o141, e141, rfl, or141, hk141, hR141, hol141, hs141⟩ := r141
  have df141 := DF.app (DF.z) (bf_hl.mono hm0.size) hk141
  have df142 := DF.app (DF.z) (bf_hlx.mono hm0.size) hk141
  have df143 := DF.app (DF.z) (bf_hf.mono hm0.size) hk141
  have df144 := DF.app (DF.z) (bf_hu.mono hm0.size) hk141
  have df145 := DF.app (DF.z) (bf_hsr.mono (by omega)) hk141
  have dj146 : Dj (H28.size + 1) k141 := Dj.app (Dj.z) hv.lt hk141
  have df147 := DF.app (DF.z) (bf_hgr.mono (by omega)) hk141
  have dj148 : Dj k97 k141 := Dj.app (Dj.z) ow97.le hk141
  have dj149 : Dj k104 k141 := Dj.app (Dj.z) or104.le hk141
  have dj150 : Dj k120 k141 := Dj.app (Dj.z) ow120.le hk141
  have dj151 : Dj k124 k141 := Dj.app (Dj.z) ow124.le hk141
  have dj152 : Dj k130 k141 := Dj.app (Dj.z) ow130.le hk141
  have dj153 : Dj k133 k141 := Dj.app (Dj.z) ow133.le hk141
  have dj154 : Dj k134 k141 := Dj.app (Dj.z) ow134.le hk141
  have nx155 : Nx 0 H0.size k141 := Nx.tr (Nx.refl 0 _) hk141 hm0.size
  replace hl := hl.nw hs141
  replace hlx := fun x h_ => (hlx x h_).nw hs141
  replace hf := hf.nw hs141
  replace hu := hu.nw hs141
  replace hsr := hsr.nw hs141
  replace hv := hv.nw hs141
  replace hgr := hgr.nw hs141
  replace ow97 := ow97.nw hs141
  replace or104 := or104.nw hs141
  replace ow120 := ow120.nw hs141
  replace ow124 := ow124.nw hs141
  replace ow130 := ow130.nw hs141
  replace ow133 := ow133.nw hs141
  replace ow134 := ow134.nw hs141
  replace hm0 := hm0.tr hs141
  have hz30 := hs141.size
  have hle_or141 := or141.le
  rw [hpq] at hR141
  obtain ⟨ho141, he141⟩ := ror_eq hR141 hR134 (h4 _)
  rw [← ho141] at or141 hol141
  refine LR.v (Y.move rfl rfl) (Wd.u rfl) rfl rfl ?_
  refine LR.v (Y.extract rfl rfl rfl) (Wd.u rfl) rfl rfl ?_
  refine LR.v (Y.extract rfl rfl rfl) (Wd.u rfl) rfl rfl ?_
  refine LR.v (Y.assign rfl rfl) (Wd.u rfl) rfl rfl ?_
  refine LR.v (Y.assign rfl rfl) (Wd.u rfl) rfl rfl ?_
  refine LR.nil ?_
  refine hK22 _ _ ?_
  refine CW.seq (fun K23 hK23 hE23 => ?_)
  refine CW.region ?_
  refine LR.v (Y.move rfl rfl) (Wd.u rfl) rfl rfl ?_
  refine LR.v (Y.move rfl rfl) (Wd.u rfl) rfl rfl ?_
  -- call selvage/selvagelaw11.sameIds
  refine LR.call rfl Try.call19 rfl (Wd.u rfl) rfl rfl (same_ct s134.v s141.v _ w0 _ ow134.rd.any or141.rd.any (by omega)) (fun v146 H146 r146 => ?_)
  obtain ⟨rfl, hs146⟩ := r146
  replace hl := hl.nw hs146
  replace hlx := fun x h_ => (hlx x h_).nw hs146
  replace hf := hf.nw hs146
  replace hu := hu.nw hs146
  replace hsr := hsr.nw hs146
  replace hv := hv.nw hs146
  replace hgr := hgr.nw hs146
  replace ow97 := ow97.nw hs146
  replace or104 := or104.nw hs146
  replace ow120 := ow120.nw hs146
  replace ow124 := ow124.nw hs146
  replace ow130 := ow130.nw hs146
  replace ow133 := ow133.nw hs146
  replace ow134 := ow134.nw hs146
  replace or141 := or141.nw hs146
  replace hm0 := hm0.tr hs146
  have hz31 := hs146.size
  refine LR.v (Y.move rfl rfl) (Wd.u rfl) rfl rfl ?_
  refine LR.v (Y.move rfl rfl) (Wd.g rfl rfl rfl) rfl rfl ?_
  refine LR.v (Y.move rfl rfl) (Wd.g rfl rfl rfl) rfl rfl ?_
  -- call selvage/selvagelaw11.is
  refine LR.call rfl Try.call20 rfl (Wd.g rfl rfl rfl) rfl rfl (isT_ct e134 e141 he141 w0 _) (fun v150 H150 r150 => ?_)
  obtain ⟨rfl, hs150⟩ := r150
  replace hl := hl.nw hs150
  replace hlx := fun x h_ => (hlx x h_).nw hs150
  replace hf := hf.nw hs150
  replace hu := hu.nw hs150
  replace hsr := hsr.nw hs150
  replace hv := hv.nw hs150
  replace hgr := hgr.nw hs150
  replace ow97 := ow97.nw hs150
  replace or104 := or104.nw hs150
  replace ow120 := ow120.nw hs150
  replace ow124 := ow124.nw hs150
  replace ow130 := ow130.nw hs150
  replace ow133 := ow133.nw hs150
  replace ow134 := ow134.nw hs150
  replace or141 := or141.nw hs150
  replace hm0 := hm0.tr hs150
  have hz32 := hs150.size
  refine LR.v (Y.pick_t rfl rfl rfl) (Wd.u rfl) rfl rfl ?_
  refine LR.v (Y.assign rfl rfl) (Wd.u rfl) rfl rfl ?_
  refine LR.nil ?_
  refine hK23 _ _ ?_
  refine CW.ret (hret .ret (.inr rfl) _ _ _ (res1 rfl rfl) ?_)
  exact ⟨rfl, hm0⟩

end Go.Proofs.Ytepdhokpfecdnaa.GraZE
/-
  How the arguments of a statement read, as facts of the engine, and their sizes: no condition.
-/
namespace Go.Proofs.Ytepdhokpfecdnaa.E
set_option linter.unusedVariables false
set_option linter.unusedSimpArgs false
set_option linter.unusedSectionVars false
open Go.ChangeShapes Go.WideShapes Go.ChangeAt Go.RowKit Go.Deep

theorem bulkAll_append {H : Type} (l r : List (DataW H)) : Rows.uptoBulkAll (l ++ r) = Rows.uptoBulkAll l + Rows.uptoBulkAll r := by
  induction l with
  | nil => simp [Rows.uptoBulkAll]
  | cons x l ih => simp only [List.cons_append, Rows.uptoBulkAll, ih]; omega

theorem list_of {α : Type} {n : Nat} {p : Nat → α → Prop} (h : ∀ i, i < n → ∃ x, p i x) : ∃ l : List α, l.length = n ∧ ∀ i x, l[i]? = some x → p i x := by
  induction n with
  | zero => exact ⟨[], rfl, fun i x h => by simp at h⟩
  | succ n ih =>
    obtain ⟨l, hl, hp⟩ := ih (fun i hi => h i (by omega))
    obtain ⟨x, hx⟩ := h n (by omega)
    refine ⟨l ++ [x], by simp [hl], fun i y hy => ?_⟩
    by_cases hi : i < l.length
    · rw [List.getElem?_append_left hi] at hy; exact hp i y hy
    · rw [List.getElem?_append_right (by omega)] at hy
      have : i - l.length = 0 := by have := (List.getElem?_eq_some_iff.1 hy).1; simp at this; omega
      rw [this] at hy
      simp only [List.getElem?_cons_zero, Option.some.injEq] at hy
      subst hy
      have : i = n := by omega
      subst this; exact hx

theorem sum_le {α : Type} {H : Type} (B : α → Nat) (D : Nat → DataW H) (l : List α) (h : ∀ i x, l[i]? = some x → B x ≤ Rows.uptoBulk (D i)) : ∀ k, k ≤ l.length → ((l.take k).map B).sum ≤ Rows.uptoBulkAll ((List.range k).map D) := by
  intro k
  induction k with
  | zero => intro _; simp
  | succ k ih =>
    intro hk
    rw [List.range_succ, List.map_append, bulkAll_append, List.take_succ_eq_append_getElem (show k < l.length from hk), List.map_append, List.sum_append]
    have h1 := ih (by omega)
    have h2 := h k l[k] (by simp [show k < l.length from hk])
    simp only [List.map_cons, List.map_nil, List.sum_cons, List.sum_nil, Rows.uptoBulkAll]
    omega

section
variable {H : Type} {enc : TypeId × Value → H} {P : Program} {W : World} {base : Nat} {sp : Nat → Bool} {held : Bool}
theorem read_slice {α : Type} (f : α → List Value) (sz : Nat) (B : α → Nat) (Φ : α → Prop) {t e : TypeId} {v : Value} {d : DataW H} {p : List MemPlace} (hv : v.cells = #[v]) (ht : P.underlying t = some (.slice e)) (hc : P.cellsOf e = sz) (hf : ∀ x, (f x).length = sz) (hsz : 0 < sz)
    (elem : ∀ n cs' y ps, DataW.trod enc P W base sp held n e cs' = some (y, ps) → cs'.length = sz → ∃ x, cs' = f x ∧ Φ x ∧ B x ≤ Rows.uptoBulk y) (h : DataW.Trod enc P W base sp held t v d p) :
    ∃ l : List α, RdT W.heap f sz v l ∧ (∀ x ∈ l, Φ x) ∧ (l.map B).sum + 1 ≤ Rows.uptoBulk d := by
  obtain ⟨fuel, h⟩ := h
  rw [hv] at h
  rcases open_slice ht h with ⟨h1, h2⟩ | ⟨a, len, cap, m, n, D, Pl, h1, h2, h3, h4, h5, h6, h7⟩
  · simp only [Array.toList, List.cons.injEq, and_true] at h1
    simp only [Prod.mk.injEq] at h2
    obtain ⟨rfl, rfl⟩ := h2
    subst h1
    exact ⟨[], Rd.nil _ _ _ _, by simp, by simp [Rows.uptoBulk]⟩
  · simp only [List.cons.injEq, and_true] at h1
    simp only [Prod.mk.injEq] at h6
    obtain ⟨rfl, rfl⟩ := h6
    subst h1
    have hm : len ≤ m := by rw [h5]; split <;> omega
    have : ∀ i, i < len → ∃ x : α, ∃ cs', W.cells? base (a.add (i * sz)) sz = some cs' ∧ cs' = f x ∧ Φ x ∧ B x ≤ Rows.uptoBulk (D i) := by
      intro i hi
      obtain ⟨cs', hcs, htr⟩ := h7 i (by omega)
      rw [hc] at hcs
      obtain ⟨_, hl, _⟩ := World.cells?_some hcs
      obtain ⟨x, hx⟩ := elem n cs' _ _ htr hl
      exact ⟨x, cs', hcs, hx⟩
    obtain ⟨l, hl, hp⟩ := list_of this
    refine ⟨l, ⟨some a, cap, by rw [hl], by omega, h4, fun hne => ?_⟩, fun x hx => ?_, ?_⟩
    · have hlen : 0 < l.length := List.length_pos_iff.2 hne
      obtain ⟨cs0, hcs0, hcs0', _⟩ := hp 0 l[0] (by simp [hlen])
      obtain ⟨_, hl0, hcell0⟩ := World.cells?_some hcs0
      have hc0 := hcell0 0 (by omega)
      have hh : W.cell? a = some (cs0[0]'(by omega)) := by
        simp only [Nat.zero_mul] at hc0
        rw [← List.getElem?_eq_getElem, ← hc0]
        simp [Addr.add]
      have hspot : a.spot = none := World.cell?_spot hh
      refine ⟨a, rfl, hspot, trivial, World.block_lt_of_cell? W a hh, fun i x hx => ⟨rfl, fun j c hj => ?_⟩⟩
      obtain ⟨cs', hcs', rfl, _, _⟩ := hp i x hx
      obtain ⟨_, hl', hcell'⟩ := World.cells?_some hcs'
      have hjl := (List.getElem?_eq_some_iff.1 hj).1
      have := hcell' j (by rw [← hl']; exact hjl)
      rw [hj] at this
      rw [add_eq hspot, add_eq rfl] at this
      show cell W.heap _ = _
      rw [← (At.cell (w0 := W) ⟨rfl, rfl, rfl, rfl, Nat.le_refl _⟩ _)]
      exact this
    · obtain ⟨i, hi⟩ := List.mem_iff_getElem?.1 hx
      obtain ⟨_, _, _, h8, _⟩ := hp i x hi
      exact h8
    · have := sum_le B D l (fun i x hx => by obtain ⟨_, _, _, _, h9⟩ := hp i x hx; exact h9) l.length (Nat.le_refl _)
      rw [List.take_length, hl] at this
      simp only [Rows.uptoBulk]
      omega

theorem sum_len {α : Type} (B : α → Nat) (hB : ∀ x, 1 ≤ B x) : ∀ (l : List α), l.length ≤ (l.map B).sum
  | [] => by simp
  | y :: l => by simp only [List.map_cons, List.sum_cons, List.length_cons]; have := hB y; have := sum_len B hB l; omega

/-- a slice of texts -/
theorem read_strs {t e : TypeId} {v : Value} {d : DataW H} {p : List MemPlace} (hv : v.cells = #[v]) (ht : P.underlying t = some (.slice e)) (he : P.underlying e = some .string) (hc : P.cellsOf e = 1) (h : DataW.Trod enc P W base sp held t v d p) :
    ∃ l : List (List UInt8), RdT W.heap fS 1 v l ∧ (l.map (fun s => s.length + 1)).sum + 1 ≤ Rows.uptoBulk d := by
  obtain ⟨l, h1, _, h2⟩ := read_slice fS 1 (fun s => s.length + 1) (fun _ => True) hv ht hc fS_len (by omega) (fun n cs' y ps hy hl => by
    obtain ⟨s, rfl, h3⟩ := DataW.trod_string he hy
    simp only [Prod.mk.injEq] at h3
    refine ⟨s.data.toList, rfl, trivial, ?_⟩
    rw [h3.1.1]
    simp [Rows.uptoBulk]) h
  exact ⟨l, h1, h2⟩
/-- a slice of numbers -/
theorem read_ints {k : IntKind} {t e : TypeId} {v : Value} {d : DataW H} {p : List MemPlace} (hv : v.cells = #[v]) (ht : P.underlying t = some (.slice e)) (he : P.underlying e = some (.int k)) (hc : P.cellsOf e = 1) (h : DataW.Trod enc P W base sp held t v d p) :
    ∃ l : List Int, RdT W.heap (fun x => [Value.int k x]) 1 v l ∧ (∀ x ∈ l, (Lit.int k x).wf = true) ∧ l.length + 1 ≤ Rows.uptoBulk d := by
  obtain ⟨l, h1, h0, h2⟩ := read_slice (fun x => [Value.int k x]) 1 (fun _ => 1) (fun x => (Lit.int k x).wf = true) hv ht hc (fun _ => rfl) (by omega) (fun n cs' y ps hy hl => by
    obtain ⟨x, rfl, h3, h4⟩ := DataW.trod_int he hy
    simp only [Prod.mk.injEq] at h3
    refine ⟨x, rfl, h4, ?_⟩
    rw [h3.1]
    simp [Rows.uptoBulk]) h
  exact ⟨l, h1, h0, by have := sum_len (fun _ : Int => 1) (fun _ => by omega) l; omega⟩
theorem i64_of {x : Int} (h : (Lit.int .i64 x).wf = true) : -9223372036854775808 ≤ x ∧ x ≤ 9223372036854775807 := by
  simpa only [Lit.wf, Bool.and_eq_true, decide_eq_true_eq, show IntKind.i64.min = -9223372036854775808 by decide, show IntKind.i64.max = 9223372036854775807 by decide] using h
/-- elements that are slices themselves -/
abbrev fP {β : Type} (x : SV × β) : List Value := [x.1.v]
theorem fP_len {β : Type} (x : SV × β) : (fP x).length = 1 := rfl
theorem read_nested {β : Type} (Ψ : Value → β → Prop) (B : β → Nat) {t e ee : TypeId} {v : Value} {d : DataW H} {p : List MemPlace} (hv : v.cells = #[v]) (ht : P.underlying t = some (.slice e)) (he : P.underlying e = some (.slice ee)) (hc : P.cellsOf e = 1)
    (rd : ∀ (v : Value) (d : DataW H) (p : List MemPlace), v.cells = #[v] → DataW.Trod enc P W base sp held e v d p → ∃ l : β, Ψ v l ∧ B l ≤ Rows.uptoBulk d) (h : DataW.Trod enc P W base sp held t v d p) :
    ∃ l : List (SV × β), RdT W.heap fP 1 v l ∧ (∀ x ∈ l, Ψ x.1.v x.2) ∧ (l.map (fun x => B x.2)).sum + 1 ≤ Rows.uptoBulk d := by
  refine read_slice (fP (β := β)) 1 (fun x => B x.2) (fun x => Ψ x.1.v x.2) hv ht hc fP_len (by omega) (fun n cs' y ps hy hl => ?_) h
  match cs', hl with
  | [u], _ =>
    have hu : ∃ s : SV, u = s.v := by
      rcases open_slice he hy with ⟨h1, _⟩ | ⟨a, len, cap, _, _, _, _, h1, _⟩
      · simp only [List.cons.injEq, and_true] at h1; exact ⟨⟨none, 0, 0⟩, h1⟩
      · simp only [List.cons.injEq, and_true] at h1; exact ⟨⟨some a, len, cap⟩, h1⟩
    obtain ⟨s, rfl⟩ := hu
    obtain ⟨l, h1, h2⟩ := rd s.v y ps rfl ⟨n, hy⟩
    exact ⟨(s, l), rfl, h1, h2⟩
end
end Go.Proofs.Ytepdhokpfecdnaa.E
