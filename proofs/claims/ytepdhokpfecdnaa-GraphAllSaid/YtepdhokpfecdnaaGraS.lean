/-
  From all commits on, up to none, and up to one.
-/
import Derived.Test.YtepdhokpfecdnaaGraR
namespace Go.Proofs.Ytepdhokpfecdnaa.GraS
open Go.Proofs.Ytepdhokpfecdnaa.E Go.RowKit Go.Proofs.Ytepdhokpfecdnaa.GraA Go.Proofs.Ytepdhokpfecdnaa.GraB Go.Proofs.Ytepdhokpfecdnaa.GraC Go.Proofs.Ytepdhokpfecdnaa.GraD Go.Proofs.Ytepdhokpfecdnaa.GraE Go.Proofs.Ytepdhokpfecdnaa.GraF Go.Proofs.Ytepdhokpfecdnaa.GraG Go.Proofs.Ytepdhokpfecdnaa.GraH Go.Proofs.Ytepdhokpfecdnaa.GraI Go.Proofs.Ytepdhokpfecdnaa.GraJ Go.Proofs.Ytepdhokpfecdnaa.GraK Go.Proofs.Ytepdhokpfecdnaa.GraL Go.Proofs.Ytepdhokpfecdnaa.GraM Go.Proofs.Ytepdhokpfecdnaa.GraN Go.Proofs.Ytepdhokpfecdnaa.GraO Go.Proofs.Ytepdhokpfecdnaa.GraP Go.Proofs.Ytepdhokpfecdnaa.GraQ Go.Proofs.Ytepdhokpfecdnaa.GraR
set_option maxRecDepth 20000
set_option linter.unusedVariables false
set_option linter.unusedSimpArgs false
set_option linter.unusedSectionVars false
set_option maxRecDepth 100000 in
theorem inf28 : Inf Try.prog 28 30 32 32 := ⟨Try.underlying28, _, _, rfl, rfl, rfl, rfl, rfl⟩

theorem ord_mem {pa : Ide → Option (List Ide)} {fr un out : List Ide} (h : Ord pa fr un out) : out.Nodup ∧ ∀ k, k ∈ out ↔ (∃ i ∈ fr, UpO pa i k) ∧ ¬ ∃ i ∈ un, UpO pa i k := by
  obtain ⟨K, S, _, hT, hS⟩ := h
  exact ⟨hT.dnd, fun k => by rw [← hS]; exact ⟨hT.dsub k, hT.all k⟩⟩
theorem ord_last {pa : Ide → Option (List Ide)} {i : Ide} {out : List Ide} (h : Ord pa [i] [] out) : 0 < out.length ∧ out[out.length - 1]? = some i := by
  obtain ⟨hd, hm⟩ := ord_mem h
  have hi : i ∈ out := (hm i).2 ⟨⟨i, by simp, .refl⟩, by simp⟩
  obtain ⟨K, S, hA, hT, hS⟩ := h
  obtain ⟨j, hj, hje⟩ := List.getElem_of_mem hi
  have hup : ∀ x, UpO pa i x → x ∈ out.take (j + 1) := by
    intro x hx
    induction hx with
    | refl =>
      rw [List.take_succ_eq_append_getElem hj, hje]; simp
    | @step y p ps hu hq hp ih =>
      obtain ⟨m, hml, hme⟩ := List.getElem_of_mem ih
      rw [List.length_take] at hml
      rw [List.getElem_take] at hme
      have hyK : y ∈ K := up_in hA ((all0 hA).2.2.1 i (by simp)) hu
      have hpp : p ∈ cpa pa K out[m] := by
        have h9 := cpa_in hA hyK
        rw [hme]
        rw [hq] at h9
        rw [← Option.some.inj h9]; exact hp
      have h3 := hT.par m (by omega) p hpp ((hS p).2 ⟨⟨i, by simp, hu.step hq hp⟩, by simp⟩)
      exact List.take_subset_take_left _ (by omega) h3
  have hl : out.length - 1 < out.length := by omega
  have hlast := hup out[out.length - 1] (by
    obtain ⟨⟨i2, hi2, hu⟩, _⟩ := (hm _).1 (List.getElem_mem hl)
    rw [List.mem_singleton.1 hi2] at hu; exact hu)
  obtain ⟨m, hml, hme⟩ := List.getElem_of_mem hlast
  rw [List.length_take] at hml
  rw [List.getElem_take] at hme
  have := (List.getElem_inj hd).1 hme
  refine ⟨by omega, ?_⟩
  rw [List.getElem?_eq_getElem hl]
  have hjl : j = out.length - 1 := by omega
  subst hjl
  rw [hje]
section
variable {g : List (List Nat)}
abbrev allI (n : Nat) : List Ide := (List.range n).map idn
theorem GOk.nodup (hg : GOk g) {n : Nat} (hn : n ≤ g.length) : (allI n).Nodup := by
  rw [List.nodup_iff_pairwise_ne, List.pairwise_map]
  refine (List.nodup_iff_pairwise_ne.1 List.nodup_range).imp_of_mem ?_
  intro a b ha hb hne e
  rw [List.mem_range] at ha hb
  exact hne (hg.inj (by omega) (by omega) e)
theorem GOk.ups (hg : GOk g) (k : Ide) : (∃ i ∈ allI g.length, UpO (paL g) i k) ↔ k ∈ allI g.length := by
  constructor
  · rintro ⟨i, hi, hu⟩
    obtain ⟨a, ha, rfl⟩ := List.mem_map.1 hi
    rw [List.mem_range] at ha
    obtain ⟨b, hb, rfl⟩ := hg.up ha hu
    exact List.mem_map.2 ⟨b, by simp; omega, rfl⟩
  · intro h; exact ⟨k, h, .refl⟩
theorem GOk.all_len (hg : GOk g) {p : List Ide} (h : Ord (paL g) (allI g.length) [] p) : p.length = g.length := by
  obtain ⟨hd, hm⟩ := ord_mem h
  have h1 : ∀ k, k ∈ p ↔ k ∈ allI g.length := fun k => by rw [hm, GOk.ups hg]; simp
  have e1 := nodup_le hd (fun k hk => (h1 k).1 hk)
  have e2 := nodup_le (GOk.nodup hg (Nat.le_refl _)) (fun k hk => (h1 k).2 hk)
  simp at e1 e2; omega
theorem GOk.split (hg : GOk g) {i : Ide} {q r : List Ide} (hi : i ∈ allI g.length) (h1 : Ord (paL g) (allI g.length) [i] q) (h2 : Ord (paL g) [i] [] r) : q.length + r.length = g.length ∧ ∀ k, k ∈ q → k ∈ r → False := by
  obtain ⟨hd1, hm1⟩ := ord_mem h1
  obtain ⟨hd2, hm2⟩ := ord_mem h2
  have h3 : ∀ k, k ∈ q → k ∈ r → False := fun k hk hk2 => by
    have a1 := ((hm1 k).1 hk).2
    exact a1 ((hm2 k).1 hk2).1
  refine ⟨?_, h3⟩
  have hd : (q ++ r).Nodup := List.nodup_append.2 ⟨hd1, hd2, fun a ha b hb e => h3 a ha (e ▸ hb)⟩
  have e1 := nodup_le (b := allI g.length) hd (fun k hk => by
    rcases List.mem_append.1 hk with hk | hk
    · exact (GOk.ups hg k).1 ((hm1 k).1 hk).1
    · obtain ⟨⟨j, hj, hu⟩, _⟩ := (hm2 k).1 hk
      rw [List.mem_singleton.1 hj] at hu
      exact (GOk.ups hg k).1 ⟨i, hi, hu⟩)
  have e2 := nodup_le (b := q ++ r) (GOk.nodup hg (Nat.le_refl _)) (fun k hk => by
    by_cases hu : UpO (paL g) i k
    · exact List.mem_append_right _ ((hm2 k).2 ⟨⟨i, by simp, hu⟩, by simp⟩)
    · exact List.mem_append_left _ ((hm1 k).2 ⟨(GOk.ups hg k).2 hk, fun ⟨j, hj, hv⟩ => hu (by rw [List.mem_singleton.1 hj] at hv; exact hv)⟩))
  simp at e1 e2; omega
end
theorem ord_ok {pa : Ide → Option (List Ide)} {fr un out : List Ide} {e : Nat} (h : (e = 0 ∧ Ord pa fr un out) ∨ (e ≠ 0 ∧ out = [] ∧ ∃ K, AllR pa (fr ++ un) K e)) (hok : ∀ K, AllR pa (fr ++ un) K e → e = 0) : e = 0 ∧ Ord pa fr un out := by
  rcases h with h | ⟨h1, _, K, h2⟩
  · exact h
  · exact absurd (hok K h2) h1

set_option maxHeartbeats 4000000 in
theorem gall_ct (vl : Value) (li : List (SV × List Int)) (a : Int) (w0 : World) (H0 : Heap)
    (hl : RdT H0 fPi 1 vl li) (hlx : ∀ x ∈ li, RdT H0 fI 1 x.1.v x.2) (hi64 : ∀ x ∈ li, ∀ a ∈ x.2, i64b a) (ha : i64b a) :
    Ct Try.prog w0 3 #[vl, .int .i64 a] H0 (fun r H2 => r = .bool true ∧ Nw H0 H2) := by
  refine Ct.enter (args := [vl, .int .i64 a]) Try.func3 rfl rfl rfl ?_
  intro Q0 hret
  have hm0 : Nw H0 H0 := Mo.refl _ _
  replace hl := hl.bnd
  have bf_hl := hl.bf
  replace hlx := fun x h_ => (hlx x h_).bnd
  have bf_hlx : BF (fun b => True ∧ b < H0.size) H0.size := fun b h => h.2
  refine CW.seq (fun K1 hK1 hE1 => ?_)
  refine CW.region ?_
  refine LR.v (Y.assign rfl rfl) (Wd.u rfl) rfl rfl ?_
  refine LR.nil ?_
  refine hK1 _ _ ?_
  refine CW.seq (fun K2 hK2 hE2 => ?_)
  refine CW.seq (fun K3 hK3 hE3 => ?_)
  refine CW.region ?_
  -- call selvage/selvagelaw11.known
  refine LR.call rfl Try.call10 rfl (Wd.u rfl) rfl rfl (known_ct w0 _) (fun v16 H16 r16 => ?_)
  obtain ⟨rfl, hs16⟩ := r16
  replace hl := hl.nw hs16
  replace hlx := fun x h_ => (hlx x h_).nw hs16
  replace hm0 := hm0.tr hs16
  have hz1 := hs16.size
  refine LR.v (Y.not rfl rfl) (Wd.u rfl) rfl rfl ?_
  refine LR.nil ?_
  refine hK3 _ _ ?_
  refine CW.cond_f rfl ?_
  refine CW.skip ?_
  refine hK2 _ _ ?_
  refine CW.seq (fun K4 hK4 hE4 => ?_)
  refine CW.region ?_
  refine LR.v (Y.move rfl rfl) (Wd.u rfl) rfl rfl ?_
  -- call selvage/selvagelaw11.Rows
  refine LR.call rfl Try.call11 rfl (Wd.u rfl) rfl rfl (rows_ct vl li w0 _ hl.any (fun x hx => (hlx x hx).any) hi64) (fun v19 H19 r19 => ?_)
  obtain ⟨sR, out, rfl, hsr, hR, hs19⟩ := r19
  replace hl := hl.nw hs19
  replace hlx := fun x h_ => (hlx x h_).nw hs19
  replace hm0 := hm0.tr hs19
  have hz2 := hs19.size
  replace hsr := hsr.bnd
  have bf_hsr := hsr.bf
  have hg : GOk (out.map Rw.l) := hR.g
  have hol := hR.le
  refine LR.v (Y.assign rfl rfl) (Wd.u rfl) rfl rfl ?_
  refine LR.nil ?_
  refine hK4 _ _ ?_
  refine CW.seq (fun K5 hK5 hE5 => ?_)
  refine CW.seq (fun K6 hK6 hE6 => ?_)
  refine CW.region ?_
  refine LR.v (Y.move rfl rfl) (Wd.u rfl) rfl rfl ?_
  refine LR.v (Y.len (hsr.l _ _ rfl) rfl Try.runUnderlying22 rfl) (Wd.u rfl) rfl rfl ?_
  refine LR.v (Y.eql rfl rfl rfl) (Wd.u rfl) rfl rfl ?_
  refine LR.nil ?_
  refine hK6 _ _ ?_
  refine CW.condp rfl (fun c22 => ?_) (fun c22 => ?_)
  ·
    refine CW.seq (fun K7 hK7 hE7 => ?_)
    refine CW.region ?_
    refine LR.v (Y.assign rfl rfl) (Wd.u rfl) rfl rfl ?_
    refine LR.nil ?_
    refine hK7 _ _ ?_
    refine CW.ret (hE5 .ret nofun _ _ (hret .ret (.inr rfl) _ _ _ (res1 rfl rfl) ?_))
    exact ⟨rfl, hm0⟩
  ·
    refine CW.skip ?_
    refine hK5 _ _ ?_
    refine CW.seq (fun K8 hK8 hE8 => ?_)
    refine CW.region ?_
    refine LR.v (Y.move rfl rfl) (Wd.u rfl) rfl rfl ?_
    refine LR.v (Y.build (v := .agg #[sR.v, .int .i64 0]) rfl rfl (by intro w; kernel_rfl)) (Wd.u rfl) rfl rfl ?_
    refine LR.z (Z.boxv rfl rfl) (Wd.u rfl) rfl rfl (fun v25 H25 r25 => ?_)
    obtain ⟨rfl, hv, hs25, ob25, hH25⟩ := r25
    have hzs25 : H25.size = H19.size + 1 := by rw [hH25]; simp
    have df1 := (DF.new (bf_hl.mono hm0.size) : DF _ (H19.size + 1))
    have df2 := (DF.new (bf_hlx.mono hm0.size) : DF _ (H19.size + 1))
    have df3 := (DF.new (bf_hsr.mono (by omega)) : DF _ (H19.size + 1))
    have nx4 : Nx 0 H0.size (H19.size + 1) := Nx.new hm0.size
    replace hl := hl.nw hs25
    replace hlx := fun x h_ => (hlx x h_).nw hs25
    replace hsr := hsr.nw hs25
    replace hm0 := hm0.tr hs25
    have hz3 := hs25.size
    replace hv : Var 27 H25 H19.size ([sR.v, .int .i64 ((0 : Nat) : Int)]) := hv
    refine LR.v (Y.assign rfl rfl) (Wd.u rfl) rfl rfl ?_
    refine LR.nil ?_
    refine hK8 _ _ ?_
    refine CW.seq (fun K9 hK9 hE9 => ?_)
    refine CW.region ?_
    refine LR.v (Y.assign rfl rfl) (Wd.u rfl) rfl rfl ?_
    refine LR.nil ?_
    refine hK9 _ _ ?_
    refine CW.seq (fun K10 hK10 hE10 => ?_)
    refine CW.seq (fun K11 hK11 hE11 => ?_)
    refine CW.region ?_
    refine LR.v (Y.assign rfl rfl) (Wd.u rfl) rfl rfl ?_
    refine LR.nil ?_
    refine hK11 _ _ ?_
    refine CW.block (fun K12 hK12 hX12 hE12 => ?_)
    refine CW.loop (fun (s_ : (Nat) × (Value) × (Nat)) => match s_ with | (i, vo, ko) => [(0, sR.v), (1, .int .i64 a), (5, .pointer (some ⟨H19.size, 0, none⟩)), (6, vo), (7, .int .i64 (i : Int))])
      (fun (s_ : (Nat) × (Value) × (Nat)) (H : Heap) => match s_ with | (i, vo, ko) => (Ow ko 30 H fA 32 vo (allI i)) ∧ (i ≤ out.length) ∧ (Nx 0 H25.size ko) ∧ Nw H25 H)
      (fun (s_ : (Nat) × (Value) × (Nat)) => match s_ with | (i, vo, ko) => out.length - i) (0, .slice none 0 0, 0) ⟨rfl, rfl, rfl, rfl, rfl, trivial⟩ ?_ ?_
    ·
      exact ⟨Ow.nil fA_len fA_one, (by omega), Nx.refl _ _, Mo.refl _ _⟩
    rintro ⟨i, vo, ko⟩ HL1 hI1 K13 hN13 hE13
    obtain ⟨oa, hi, nxl_oa, hlm1⟩ := hI1
    have df5 := DF.app (DF.z) (bf_hl.mono hm0.size) nxl_oa
    have df6 := DF.app (DF.z) (bf_hlx.mono hm0.size) nxl_oa
    have df7 := DF.app (DF.z) (bf_hsr.mono (by omega)) nxl_oa
    have dj8 : Dj (H19.size + 1) ko := Dj.app (Dj.z) hv.lt nxl_oa
    have nx9 : Nx 0 H0.size ko := Nx.tr (Nx.refl 0 _) nxl_oa hm0.size
    replace hl := hl.nw hlm1
    replace hlx := fun x h_ => (hlx x h_).nw hlm1
    replace hsr := hsr.nw hlm1
    replace hv := hv.nw hlm1
    replace hm0 := hm0.tr hlm1
    have hz4 := hlm1.size
    have hle_oa := oa.le
    have nx10 := nxl_oa
    refine CW.seq (fun K14 hK14 hE14 => ?_)
    refine CW.seq (fun K15 hK15 hE15 => ?_)
    refine CW.region ?_
    refine LR.v (Y.move rfl rfl) (Wd.u rfl) rfl rfl ?_
    refine LR.v (Y.move rfl rfl) (Wd.u rfl) rfl rfl ?_
    refine LR.v (Y.len (hsr.l _ _ rfl) rfl Try.runUnderlying22 rfl) (Wd.u rfl) rfl rfl ?_
    refine LR.v (Y.lss rfl rfl rfl) (Wd.u rfl) rfl rfl ?_
    refine LR.nil ?_
    refine hK15 _ _ ?_
    refine CW.condp rfl (fun c29 => ?_) (fun c29 => ?_)
    ·
      refine CW.skip ?_
      refine hK14 _ _ ?_
      refine CW.seq (fun K16 hK16 hE16 => ?_)
      refine CW.block (fun K17 hK17 hX17 hE17 => ?_)
      refine CW.region ?_
      refine LR.v (Y.move rfl rfl) (Wd.u rfl) rfl rfl ?_
      refine LR.v (Y.move rfl rfl) (Wd.u rfl) rfl rfl ?_
      -- call selvage/selvagelaw11.Id
      refine LR.call rfl Try.call12 rfl (Wd.u rfl) rfl rfl (idn_ct i w0 _ (by omega)) (fun v34 H34 r34 => ?_)
      obtain ⟨rfl, hs34⟩ := r34
      replace hl := hl.nw hs34
      replace hlx := fun x h_ => (hlx x h_).nw hs34
      replace hsr := hsr.nw hs34
      replace hv := hv.nw hs34
      replace oa := oa.nw hs34
      replace hm0 := hm0.tr hs34
      replace hlm1 := hlm1.tr hs34
      have hz5 := hs34.size
      refine LR.z (Z.litw _ ([idn i]) rfl inf28 rfl rfl rfl (by decide) (by decide) fA_len fA_one (rfl)) (Wd.u rfl) rfl rfl (fun v35 H35 r35 => ?_)
      obtain ⟨ow35, hs35, ob35, hH35⟩ := r35
      have hzs35 : H35.size = H34.size + 1 := by rw [hH35]; simp
      have df11 := (DF.new (bf_hl.mono hm0.size) : DF _ (H34.size + 1))
      have df12 := (DF.new (bf_hlx.mono hm0.size) : DF _ (H34.size + 1))
      have df13 := (DF.new (bf_hsr.mono (by omega)) : DF _ (H34.size + 1))
      have dj14 : Dj (H19.size + 1) (H34.size + 1) := Dj.new hv.lt
      have dj15 : Dj ko (H34.size + 1) := Dj.new oa.le
      have nx16 : Nx 0 H0.size (H34.size + 1) := Nx.new hm0.size
      have nx17 : Nx 0 H25.size (H34.size + 1) := Nx.new hlm1.size
      replace hl := hl.nw hs35
      replace hlx := fun x h_ => (hlx x h_).nw hs35
      replace hsr := hsr.nw hs35
      replace hv := hv.nw hs35
      replace oa := oa.nw hs35
      replace hm0 := hm0.tr hs35
      replace hlm1 := hlm1.tr hs35
      have hz6 := hs35.size
      refine LR.z (Z.apnd oa ow35.rd rfl inf28 rfl rfl (by simp; omega) (by simp; omega)) (Wd.u rfl) rfl rfl (fun v36 H36 r36 => ?_)
      obtain ⟨k36, oa, hk36, hs36⟩ := r36
      replace hk36 : Nx ko H35.size k36 := hk36
      replace hs36 := hs36.md
      have df18 := DF.app (df5) (bf_hl.mono hm0.size) hk36
      have df19 := DF.app (df6) (bf_hlx.mono hm0.size) hk36
      have df20 := DF.app (df7) (bf_hsr.mono (by omega)) hk36
      have dj21 : Dj (H19.size + 1) k36 := Dj.app (dj8) hv.lt hk36
      have dj22 : Dj (H34.size + 1) k36 := Dj.app (dj15.symm) ow35.le hk36
      have nx23 : Nx 0 H0.size k36 := Nx.tr (nx9) hk36 hm0.size
      have nx24 : Nx 0 H25.size k36 := Nx.tr (nx10) hk36 hlm1.size
      replace hl := hl.upL hs36 (DFL.cons df5 DFL.nil)
      replace hlx := fun x h_ => (hlx x h_).upL hs36 (DFL.cons df6 DFL.nil)
      replace hsr := hsr.upL hs36 (DFL.cons df7 DFL.nil)
      replace hv := hv.upL hs36 (DL.cons dj8 DL.nil)
      replace ow35 := ow35.upL hs36 (DL.cons dj15.symm DL.nil)
      replace hm0 := (Mo.trL (ks := []) (hm0.mdn []) hs36 (MIL.cons (MI.app MI.z (nx9) (Nat.le_refl _)) MIL.nil)).nil
      replace hlm1 := (Mo.trL (ks := []) (hlm1.mdn []) hs36 (MIL.cons (MI.app MI.z (nx10) (Nat.le_refl _)) MIL.nil)).nil
      have hz7 := hs36.size
      have hle_oa := oa.le
      refine LR.v (Y.assign rfl rfl) (Wd.u rfl) rfl rfl ?_
      refine LR.nil ?_
      refine hK17 _ _ ?_
      refine hK16 _ _ ?_
      refine CW.region ?_
      refine LR.v (Y.move rfl rfl) (Wd.u rfl) rfl rfl ?_
      refine LR.v (Y.addi rfl rfl rfl (by omega)) (Wd.u rfl) rfl rfl ?_
      refine LR.v (Y.assign rfl rfl) (Wd.u rfl) rfl rfl ?_
      refine LR.nil ?_
      refine QN.sub (hN13 (i + 1, v36, k36) _ ?_ ?_) ⟨rfl, (iv (by omega)), rfl, rfl, (iv (by omega)), trivial⟩
      · exact ⟨by unfold allI; rw [List.range_succ, List.map_append]; exact oa, (by omega), nx24, hlm1⟩
      · first | omega | (simp only; omega) | (simp; omega)
    ·
      have hie : i = out.length := by omega
      obtain ⟨sa, hsa⟩ : ∃ s : SV, vo = s.v := ⟨toSV vo, oa.sv.symm⟩
      rw [hsa] at oa
      have hgl : (out.map Rw.l).length = out.length := List.length_map _
      rw [hie, ← hgl] at oa
      refine CW.exit (hE14 (.exit 0) nofun _ _ (hE13 (.exit 0) nofun _ _ (hX12 _ _ ?_)))
      refine hK10 _ _ ?_
      refine CW.seq (fun K18 hK18 hE18 => ?_)
      refine CW.region ?_
      refine LR.v (Y.move rfl rfl) (Wd.u rfl) rfl rfl ?_
      refine LR.v (Y.mki rfl Try.runUnderlying25 (by intro ms h; cases h) rfl) (Wd.u rfl) rfl rfl ?_
      refine LR.v (Y.cast (v2 := sa.v) (Y.move rfl rfl) (hsa)) (Wd.u rfl) rfl rfl ?_
      -- call selvage/graph.Order
      refine LR.call rfl Try.call13 rfl (Wd.u rfl) rfl rfl (ord_ct (Sou.rows sR out) H19.size 0 _ sa ⟨none, 0, 0⟩ (allI (out.map Rw.l).length) [] (rkL (out.map Rw.l)) w0 _ hv hsr (bf_hsr.mono (by omega)) (df3) hR.ok (by omega) (Ow.ne oa (dj8)) (Rd.nil _ _ _ _) (by first | (simp; done) | (simp; omega)) hg.ac) (fun v41 H41 r41 => ?_)
      have ql25 := hv.lt
      have ql26 := oa.le
      obtain ⟨s41, k41, o41, e41, q41, rfl, ow41, hk41, hv, hR41, hq41, hs41⟩ := r41
      have df27 := DF.app (DF.z) (bf_hl.mono hm0.size) hk41
      have df28 := DF.app (DF.z) (bf_hlx.mono hm0.size) hk41
      have df29 := DF.app (DF.z) (bf_hsr.mono (by omega)) hk41
      have dj30 : Dj (H19.size + 1) k41 := Dj.app (Dj.z) ql25 hk41
      have dj31 : Dj ko k41 := Dj.app (Dj.z) ql26 hk41
      have nx32 : Nx 0 H0.size k41 := Nx.tr (Nx.refl 0 _) hk41 hm0.size
      replace hl := hl.upL hs41 (DFL.cons df1 DFL.nil)
      replace hlx := fun x h_ => (hlx x h_).upL hs41 (DFL.cons df2 DFL.nil)
      replace hsr := hsr.upL hs41 (DFL.cons df3 DFL.nil)
      replace oa := oa.upL hs41 (DL.cons dj8.symm DL.nil)
      replace hm0 := (Mo.trL (ks := []) (hm0.mdn []) hs41 (MIL.cons (MI.app MI.z (nx4) (Nat.le_refl _)) MIL.nil)).nil
      have hz8 := hs41.size
      have hle_ow41 := ow41.le
      obtain ⟨he41, ho41⟩ := ord_ok hR41 (fun K h => hg.ok (fun i hi => by
        simp only [List.mem_append, List.mem_map, List.mem_range, List.mem_singleton, List.not_mem_nil, or_false] at hi
        obtain ⟨b, hb, rfl⟩ := hi
        exact ⟨b, hb, rfl⟩) h)
      have hlen := GOk.all_len hg ho41
      refine LR.v (Y.move rfl rfl) (Wd.u rfl) rfl rfl ?_
      refine LR.v (Y.extract rfl rfl rfl) (Wd.u rfl) rfl rfl ?_
      refine LR.v (Y.extract rfl rfl rfl) (Wd.u rfl) rfl rfl ?_
      refine LR.v (Y.assign rfl rfl) (Wd.u rfl) rfl rfl ?_
      refine LR.v (Y.assign rfl rfl) (Wd.u rfl) rfl rfl ?_
      refine LR.nil ?_
      refine hK18 _ _ ?_
      refine CW.seq (fun K19 hK19 hE19 => ?_)
      refine CW.seq (fun K20 hK20 hE20 => ?_)
      refine CW.region ?_
      refine LR.v (Y.move rfl rfl) (Wd.u rfl) rfl rfl ?_
      refine LR.v ((Y.ene rfl Try.underlying33 rfl).isF (fun h => h he41)) (Wd.u rfl) rfl rfl ?_
      refine LR.v (Y.move rfl rfl) (Wd.u rfl) rfl rfl ?_
      refine LR.v (Y.move rfl rfl) (Wd.g rfl rfl rfl) rfl rfl ?_
      refine LR.v (Y.len ow41.rd rfl Try.runUnderlying28 rfl) (Wd.g rfl rfl rfl) rfl rfl ?_
      refine LR.v (Y.cast (v2 := sa.v) (Y.move rfl rfl) (hsa)) (Wd.g rfl rfl rfl) rfl rfl ?_
      refine LR.v (Y.len oa.rd rfl Try.runUnderlying28 rfl) (Wd.g rfl rfl rfl) rfl rfl ?_
      refine LR.v ((Y.neq rfl rfl rfl).isF (fun h => h (by rw [hlen]; simp))) (Wd.g rfl rfl rfl) rfl rfl ?_
      refine LR.v (Y.pick_f rfl rfl rfl) (Wd.u rfl) rfl rfl ?_
      refine LR.nil ?_
      refine hK20 _ _ ?_
      refine CW.cond_f rfl ?_
      refine CW.skip ?_
      refine hK19 _ _ ?_
      refine CW.seq (fun K21 hK21 hE21 => ?_)
      refine CW.region ?_
      refine LR.v (Y.move rfl rfl) (Wd.u rfl) rfl rfl ?_
      refine LR.v (Y.move rfl rfl) (Wd.u rfl) rfl rfl ?_
      refine LR.v (Y.len (hsr.l _ _ rfl) rfl Try.runUnderlying22 rfl) (Wd.u rfl) rfl rfl ?_
      -- call selvage/selvagelaw11.within
      refine LR.call rfl Try.call14 rfl (Wd.u rfl) rfl rfl (within_ct a out.length w0 _ (by omega) ha) (fun v56 H56 r56 => ?_)
      obtain ⟨kk, rfl, hkk, hs56⟩ := r56
      replace hl := hl.nw hs56
      replace hlx := fun x h_ => (hlx x h_).nw hs56
      replace hsr := hsr.nw hs56
      replace hv := hv.nw hs56
      replace oa := oa.nw hs56
      replace ow41 := ow41.nw hs56
      replace hm0 := hm0.tr hs56
      have hz9 := hs56.size
      refine LR.v (Y.assign rfl rfl) (Wd.u rfl) rfl rfl ?_
      refine LR.nil ?_
      refine hK21 _ _ ?_
      refine CW.seq (fun K22 hK22 hE22 => ?_)
      refine CW.region ?_
      refine LR.v (Y.move rfl rfl) (Wd.u rfl) rfl rfl ?_
      refine LR.v (Y.mki rfl Try.runUnderlying25 (by intro ms h; cases h) rfl) (Wd.u rfl) rfl rfl ?_
      refine LR.v (Y.cast (v2 := sa.v) (Y.move rfl rfl) (hsa)) (Wd.u rfl) rfl rfl ?_
      refine LR.v (Y.move rfl rfl) (Wd.u rfl) rfl rfl ?_
      -- call selvage/selvagelaw11.Id
      refine LR.call rfl Try.call12 rfl (Wd.u rfl) rfl rfl (idn_ct kk w0 _ (by omega)) (fun v62 H62 r62 => ?_)
      obtain ⟨rfl, hs62⟩ := r62
      replace hl := hl.nw hs62
      replace hlx := fun x h_ => (hlx x h_).nw hs62
      replace hsr := hsr.nw hs62
      replace hv := hv.nw hs62
      replace oa := oa.nw hs62
      replace ow41 := ow41.nw hs62
      replace hm0 := hm0.tr hs62
      have hz10 := hs62.size
      refine LR.z (Z.litw _ ([idn kk]) rfl inf28 rfl rfl rfl (by decide) (by decide) fA_len fA_one (rfl)) (Wd.u rfl) rfl rfl (fun v63 H63 r63 => ?_)
      obtain ⟨ow63, hs63, ob63, hH63⟩ := r63
      have hzs63 : H63.size = H62.size + 1 := by rw [hH63]; simp
      have df33 := (DF.new (bf_hl.mono hm0.size) : DF _ (H62.size + 1))
      have df34 := (DF.new (bf_hlx.mono hm0.size) : DF _ (H62.size + 1))
      have df35 := (DF.new (bf_hsr.mono (by omega)) : DF _ (H62.size + 1))
      have dj36 : Dj (H19.size + 1) (H62.size + 1) := Dj.new hv.lt
      have dj37 : Dj ko (H62.size + 1) := Dj.new oa.le
      have dj38 : Dj k41 (H62.size + 1) := Dj.new ow41.le
      have nx39 : Nx 0 H0.size (H62.size + 1) := Nx.new hm0.size
      replace hl := hl.nw hs63
      replace hlx := fun x h_ => (hlx x h_).nw hs63
      replace hsr := hsr.nw hs63
      replace hv := hv.nw hs63
      replace oa := oa.nw hs63
      replace ow41 := ow41.nw hs63
      replace hm0 := hm0.tr hs63
      have hz11 := hs63.size
      obtain ⟨s63, rfl⟩ : ∃ s : SV, v63 = s.v := ⟨toSV v63, ow63.sv.symm⟩
      -- call selvage/graph.Order
      refine LR.call rfl Try.call13 rfl (Wd.u rfl) rfl rfl (ord_ct (Sou.rows sR out) H19.size _ _ sa s63 (allI (out.map Rw.l).length) [idn kk] (rkL (out.map Rw.l)) w0 _ hv hsr (bf_hsr.mono (by omega)) (df3) hR.ok (by omega) (Ow.ne oa (dj8)) (Ow.ne ow63 (dj36)) (by first | (simp; done) | (simp; omega)) hg.ac) (fun v64 H64 r64 => ?_)
      have ql40 := hv.lt
      have ql41 := oa.le
      have ql42 := ow41.le
      have ql43 := ow63.le
      obtain ⟨s64, k64, o64, e64, q64, rfl, ow64, hk64, hv, hR64, hq64, hs64⟩ := r64
      have df44 := DF.app (DF.z) (bf_hl.mono hm0.size) hk64
      have df45 := DF.app (DF.z) (bf_hlx.mono hm0.size) hk64
      have df46 := DF.app (DF.z) (bf_hsr.mono (by omega)) hk64
      have dj47 : Dj (H19.size + 1) k64 := Dj.app (Dj.z) ql40 hk64
      have dj48 : Dj ko k64 := Dj.app (Dj.z) ql41 hk64
      have dj49 : Dj k41 k64 := Dj.app (Dj.z) ql42 hk64
      have dj50 : Dj (H62.size + 1) k64 := Dj.app (Dj.z) ql43 hk64
      have nx51 : Nx 0 H0.size k64 := Nx.tr (Nx.refl 0 _) hk64 hm0.size
      replace hl := hl.upL hs64 (DFL.cons df1 DFL.nil)
      replace hlx := fun x h_ => (hlx x h_).upL hs64 (DFL.cons df2 DFL.nil)
      replace hsr := hsr.upL hs64 (DFL.cons df3 DFL.nil)
      replace oa := oa.upL hs64 (DL.cons dj8.symm DL.nil)
      replace ow41 := ow41.upL hs64 (DL.cons dj30.symm DL.nil)
      replace ow63 := ow63.upL hs64 (DL.cons dj36.symm DL.nil)
      replace hm0 := (Mo.trL (ks := []) (hm0.mdn []) hs64 (MIL.cons (MI.app MI.z (nx4) (Nat.le_refl _)) MIL.nil)).nil
      have hz12 := hs64.size
      have hle_ow64 := ow64.le
      obtain ⟨he64, ho64⟩ := ord_ok hR64 (fun K h => hg.ok (fun i hi => by
        simp only [List.mem_append, List.mem_map, List.mem_range, List.mem_singleton, List.not_mem_nil, or_false] at hi
        rcases hi with ⟨b, hb, rfl⟩ | rfl
        · exact ⟨b, hb, rfl⟩
        · exact ⟨kk, by omega, rfl⟩) h)
      refine LR.v (Y.move rfl rfl) (Wd.u rfl) rfl rfl ?_
      refine LR.v (Y.extract rfl rfl rfl) (Wd.u rfl) rfl rfl ?_
      refine LR.v (Y.extract rfl rfl rfl) (Wd.u rfl) rfl rfl ?_
      refine LR.v (Y.assign rfl rfl) (Wd.u rfl) rfl rfl ?_
      refine LR.v (Y.assign rfl rfl) (Wd.u rfl) rfl rfl ?_
      refine LR.nil ?_
      refine hK22 _ _ ?_
      refine CW.seq (fun K23 hK23 hE23 => ?_)
      refine CW.region ?_
      refine LR.v (Y.move rfl rfl) (Wd.u rfl) rfl rfl ?_
      refine LR.v (Y.mki rfl Try.runUnderlying25 (by intro ms h; cases h) rfl) (Wd.u rfl) rfl rfl ?_
      refine LR.v (Y.move rfl rfl) (Wd.u rfl) rfl rfl ?_
      -- call selvage/selvagelaw11.Id
      refine LR.call rfl Try.call12 rfl (Wd.u rfl) rfl rfl (idn_ct kk w0 _ (by omega)) (fun v71 H71 r71 => ?_)
      obtain ⟨rfl, hs71⟩ := r71
      replace hl := hl.nw hs71
      replace hlx := fun x h_ => (hlx x h_).nw hs71
      replace hsr := hsr.nw hs71
      replace hv := hv.nw hs71
      replace oa := oa.nw hs71
      replace ow41 := ow41.nw hs71
      replace ow63 := ow63.nw hs71
      replace ow64 := ow64.nw hs71
      replace hm0 := hm0.tr hs71
      have hz13 := hs71.size
      refine LR.z (Z.litw _ ([idn kk]) rfl inf28 rfl rfl rfl (by decide) (by decide) fA_len fA_one (rfl)) (Wd.u rfl) rfl rfl (fun v72 H72 r72 => ?_)
      obtain ⟨ow72, hs72, ob72, hH72⟩ := r72
      have hzs72 : H72.size = H71.size + 1 := by rw [hH72]; simp
      have df52 := (DF.new (bf_hl.mono hm0.size) : DF _ (H71.size + 1))
      have df53 := (DF.new (bf_hlx.mono hm0.size) : DF _ (H71.size + 1))
      have df54 := (DF.new (bf_hsr.mono (by omega)) : DF _ (H71.size + 1))
      have dj55 : Dj (H19.size + 1) (H71.size + 1) := Dj.new hv.lt
      have dj56 : Dj ko (H71.size + 1) := Dj.new oa.le
      have dj57 : Dj k41 (H71.size + 1) := Dj.new ow41.le
      have dj58 : Dj (H62.size + 1) (H71.size + 1) := Dj.new ow63.le
      have dj59 : Dj k64 (H71.size + 1) := Dj.new ow64.le
      have nx60 : Nx 0 H0.size (H71.size + 1) := Nx.new hm0.size
      replace hl := hl.nw hs72
      replace hlx := fun x h_ => (hlx x h_).nw hs72
      replace hsr := hsr.nw hs72
      replace hv := hv.nw hs72
      replace oa := oa.nw hs72
      replace ow41 := ow41.nw hs72
      replace ow63 := ow63.nw hs72
      replace ow64 := ow64.nw hs72
      replace hm0 := hm0.tr hs72
      have hz14 := hs72.size
      obtain ⟨s72, rfl⟩ : ∃ s : SV, v72 = s.v := ⟨toSV v72, ow72.sv.symm⟩
      -- call selvage/graph.Order
      refine LR.call rfl Try.call13 rfl (Wd.u rfl) rfl rfl (ord_ct (Sou.rows sR out) H19.size _ _ s72 ⟨none, 0, 0⟩ [idn kk] [] (rkL (out.map Rw.l)) w0 _ hv hsr (bf_hsr.mono (by omega)) (df3) hR.ok (by omega) (Ow.ne ow72 (dj55)) (Rd.nil _ _ _ _) (by first | (simp; done) | (simp; omega)) hg.ac) (fun v73 H73 r73 => ?_)
      have ql61 := hv.lt
      have ql62 := oa.le
      have ql63 := ow41.le
      have ql64 := ow63.le
      have ql65 := ow64.le
      have ql66 := ow72.le
      obtain ⟨s73, k73, o73, e73, q73, rfl, ow73, hk73, hv, hR73, hq73, hs73⟩ := r73
      have df67 := DF.app (DF.z) (bf_hl.mono hm0.size) hk73
      have df68 := DF.app (DF.z) (bf_hlx.mono hm0.size) hk73
      have df69 := DF.app (DF.z) (bf_hsr.mono (by omega)) hk73
      have dj70 : Dj (H19.size + 1) k73 := Dj.app (Dj.z) ql61 hk73
      have dj71 : Dj ko k73 := Dj.app (Dj.z) ql62 hk73
      have dj72 : Dj k41 k73 := Dj.app (Dj.z) ql63 hk73
      have dj73 : Dj (H62.size + 1) k73 := Dj.app (Dj.z) ql64 hk73
      have dj74 : Dj k64 k73 := Dj.app (Dj.z) ql65 hk73
      have dj75 : Dj (H71.size + 1) k73 := Dj.app (Dj.z) ql66 hk73
      have nx76 : Nx 0 H0.size k73 := Nx.tr (Nx.refl 0 _) hk73 hm0.size
      replace hl := hl.upL hs73 (DFL.cons df1 DFL.nil)
      replace hlx := fun x h_ => (hlx x h_).upL hs73 (DFL.cons df2 DFL.nil)
      replace hsr := hsr.upL hs73 (DFL.cons df3 DFL.nil)
      replace oa := oa.upL hs73 (DL.cons dj8.symm DL.nil)
      replace ow41 := ow41.upL hs73 (DL.cons dj30.symm DL.nil)
      replace ow63 := ow63.upL hs73 (DL.cons dj36.symm DL.nil)
      replace ow64 := ow64.upL hs73 (DL.cons dj47.symm DL.nil)
      replace ow72 := ow72.upL hs73 (DL.cons dj55.symm DL.nil)
      replace hm0 := (Mo.trL (ks := []) (hm0.mdn []) hs73 (MIL.cons (MI.app MI.z (nx4) (Nat.le_refl _)) MIL.nil)).nil
      have hz15 := hs73.size
      have hle_ow73 := ow73.le
      obtain ⟨he73, ho73⟩ := ord_ok hR73 (fun K h => hg.ok (fun i hi => by
        simp only [List.mem_append, List.mem_map, List.mem_range, List.mem_singleton, List.not_mem_nil, or_false] at hi
        subst hi
        exact ⟨kk, by omega, rfl⟩) h)
      obtain ⟨hspl, hdis⟩ := GOk.split hg (List.mem_map.2 ⟨kk, by simp; omega, rfl⟩) ho64 ho73
      obtain ⟨hlp, hlast⟩ := ord_last ho73
      refine LR.v (Y.move rfl rfl) (Wd.u rfl) rfl rfl ?_
      refine LR.v (Y.extract rfl rfl rfl) (Wd.u rfl) rfl rfl ?_
      refine LR.v (Y.extract rfl rfl rfl) (Wd.u rfl) rfl rfl ?_
      refine LR.v (Y.assign rfl rfl) (Wd.u rfl) rfl rfl ?_
      refine LR.v (Y.assign rfl rfl) (Wd.u rfl) rfl rfl ?_
      refine LR.nil ?_
      refine hK23 _ _ ?_
      refine CW.seq (fun K24 hK24 hE24 => ?_)
      refine CW.seq (fun K25 hK25 hE25 => ?_)
      refine CW.region ?_
      refine LR.v (Y.move rfl rfl) (Wd.u rfl) rfl rfl ?_
      refine LR.v ((Y.ene rfl Try.underlying33 rfl).isF (fun h => h he64)) (Wd.u rfl) rfl rfl ?_
      refine LR.v (Y.move rfl rfl) (Wd.u rfl) rfl rfl ?_
      refine LR.v (Y.move rfl rfl) (Wd.g rfl rfl rfl) rfl rfl ?_
      refine LR.v ((Y.ene rfl Try.underlying33 rfl).isF (fun h => h he73)) (Wd.g rfl rfl rfl) rfl rfl ?_
      refine LR.v (Y.pick_f rfl rfl rfl) (Wd.u rfl) rfl rfl ?_
      refine LR.v (Y.move rfl rfl) (Wd.u rfl) rfl rfl ?_
      refine LR.v (Y.move rfl rfl) (Wd.g rfl rfl rfl) rfl rfl ?_
      refine LR.v (Y.len ow64.rd rfl Try.runUnderlying28 rfl) (Wd.g rfl rfl rfl) rfl rfl ?_
      refine LR.v (Y.move rfl rfl) (Wd.g rfl rfl rfl) rfl rfl ?_
      refine LR.v (Y.len ow73.rd rfl Try.runUnderlying28 rfl) (Wd.g rfl rfl rfl) rfl rfl ?_
      refine LR.v (Y.addi rfl rfl rfl (by omega)) (Wd.g rfl rfl rfl) rfl rfl ?_
      refine LR.v (Y.cast (v2 := sa.v) (Y.move rfl rfl) (hsa)) (Wd.g rfl rfl rfl) rfl rfl ?_
      refine LR.v (Y.len oa.rd rfl Try.runUnderlying28 rfl) (Wd.g rfl rfl rfl) rfl rfl ?_
      refine LR.v ((Y.neq rfl rfl rfl).isF (fun h => h (by rw [← Int.natCast_add, hspl]; simp))) (Wd.g rfl rfl rfl) rfl rfl ?_
      refine LR.v (Y.pick_f rfl rfl rfl) (Wd.u rfl) rfl rfl ?_
      refine LR.nil ?_
      refine hK25 _ _ ?_
      refine CW.cond_f rfl ?_
      refine CW.skip ?_
      refine hK24 _ _ ?_
      refine CW.seq (fun K26 hK26 hE26 => ?_)
      refine CW.seq (fun K27 hK27 hE27 => ?_)
      refine CW.region ?_
      refine LR.v (Y.assign rfl rfl) (Wd.u rfl) rfl rfl ?_
      refine LR.nil ?_
      refine hK27 _ _ ?_
      refine CW.block (fun K28 hK28 hX28 hE28 => ?_)
      refine CW.loop (fun (i2 : (Nat)) => [(10, .int .i64 (kk : Int)), (11, s64.v), (12, s73.v), (14, .int .i64 (i2 : Int))])
        (fun (i2 : (Nat)) (H : Heap) => (i2 ≤ o64.length) ∧ Nw H73 H)
        (fun (i2 : (Nat)) => o64.length - i2) 0 ⟨rfl, rfl, rfl, rfl, trivial⟩ ?_ ?_
      ·
        exact ⟨(by omega), Mo.refl _ _⟩
      intro i2 HL2 hI2 K29 hN29 hE29
      obtain ⟨hi2, hlm2⟩ := hI2
      replace hl := hl.nw hlm2
      replace hlx := fun x h_ => (hlx x h_).nw hlm2
      replace hsr := hsr.nw hlm2
      replace hv := hv.nw hlm2
      replace oa := oa.nw hlm2
      replace ow41 := ow41.nw hlm2
      replace ow63 := ow63.nw hlm2
      replace ow64 := ow64.nw hlm2
      replace ow72 := ow72.nw hlm2
      replace ow73 := ow73.nw hlm2
      replace hm0 := hm0.tr hlm2
      have hz16 := hlm2.size
      refine CW.seq (fun K30 hK30 hE30 => ?_)
      refine CW.seq (fun K31 hK31 hE31 => ?_)
      refine CW.region ?_
      refine LR.v (Y.move rfl rfl) (Wd.u rfl) rfl rfl ?_
      refine LR.v (Y.move rfl rfl) (Wd.u rfl) rfl rfl ?_
      refine LR.v (Y.len ow64.rd rfl Try.runUnderlying28 rfl) (Wd.u rfl) rfl rfl ?_
      refine LR.v (Y.lss rfl rfl rfl) (Wd.u rfl) rfl rfl ?_
      refine LR.nil ?_
      refine hK31 _ _ ?_
      refine CW.condp rfl (fun c95 => ?_) (fun c95 => ?_)
      ·
        have hi2l : i2 < o64.length := by omega
        refine CW.skip ?_
        refine hK30 _ _ ?_
        refine CW.seq (fun K32 hK32 hE32 => ?_)
        refine CW.block (fun K33 hK33 hX33 hE33 => ?_)
        refine CW.seq (fun K34 hK34 hE34 => ?_)
        refine CW.region ?_
        refine LR.v (Y.assign rfl rfl) (Wd.u rfl) rfl rfl ?_
        refine LR.nil ?_
        refine hK34 _ _ ?_
        refine CW.block (fun K35 hK35 hX35 hE35 => ?_)
        refine CW.loop (fun (j : (Nat)) => [(10, .int .i64 (kk : Int)), (11, s64.v), (12, s73.v), (14, .int .i64 (i2 : Int)), (15, .int .i64 (j : Int))])
          (fun (j : (Nat)) (H : Heap) => (j ≤ o73.length) ∧ Nw HL2 H)
          (fun (j : (Nat)) => o73.length - j) 0 ⟨rfl, rfl, rfl, rfl, rfl, trivial⟩ ?_ ?_
        ·
          exact ⟨(by omega), Mo.refl _ _⟩
        intro j HL3 hI3 K36 hN36 hE36
        obtain ⟨hj, hlm3⟩ := hI3
        replace hl := hl.nw hlm3
        replace hlx := fun x h_ => (hlx x h_).nw hlm3
        replace hsr := hsr.nw hlm3
        replace hv := hv.nw hlm3
        replace oa := oa.nw hlm3
        replace ow41 := ow41.nw hlm3
        replace ow63 := ow63.nw hlm3
        replace ow64 := ow64.nw hlm3
        replace ow72 := ow72.nw hlm3
        replace ow73 := ow73.nw hlm3
        replace hm0 := hm0.tr hlm3
        replace hlm2 := hlm2.tr hlm3
        have hz17 := hlm3.size
        refine CW.seq (fun K37 hK37 hE37 => ?_)
        refine CW.seq (fun K38 hK38 hE38 => ?_)
        refine CW.region ?_
        refine LR.v (Y.move rfl rfl) (Wd.u rfl) rfl rfl ?_
        refine LR.v (Y.move rfl rfl) (Wd.u rfl) rfl rfl ?_
        refine LR.v (Y.len ow73.rd rfl Try.runUnderlying28 rfl) (Wd.u rfl) rfl rfl ?_
        refine LR.v (Y.lss rfl rfl rfl) (Wd.u rfl) rfl rfl ?_
        refine LR.nil ?_
        refine hK38 _ _ ?_
        refine CW.condp rfl (fun c101 => ?_) (fun c101 => ?_)
        ·
          have hjl : j < o73.length := by omega
          obtain ⟨x1, hx1⟩ : ∃ x, x = o64[i2] := ⟨_, rfl⟩
          obtain ⟨x2, hx2⟩ : ∃ x, x = o73[j] := ⟨_, rfl⟩
          have hne1 : ¬ x1.1 = x2.1 := fun h => hdis x1 (by rw [hx1]; exact List.getElem_mem hi2l) (by rw [Subtype.ext h, hx2]; exact List.getElem_mem hjl)
          refine CW.skip ?_
          refine hK37 _ _ ?_
          refine CW.seq (fun K39 hK39 hE39 => ?_)
          refine CW.block (fun K40 hK40 hX40 hE40 => ?_)
          refine CW.seq (fun K41 hK41 hE41 => ?_)
          refine CW.region_draw rfl (by kernel_rfl) ?_
          refine LR.v (Y.move rfl rfl) (Wd.u rfl) rfl rfl ?_
          refine LR.v (Y.move rfl rfl) (Wd.u rfl) rfl rfl ?_
          refine LR.v (Y.owAddr ow64 (i2) rfl Try.runUnderlying28 Try.sizeOf30 rfl rfl (by first | rfl | omega) (by omega)) (Wd.u rfl) rfl rfl ?_
          refine LR.v (Y.cast (v2 := vA x1) (Y.loadN (ow64.pt (j := i2) (by omega)) rfl Try.isAgg30 Try.sizeOf30 (fA_len _) rfl) (by rw [hx1]; rfl)) (Wd.u rfl) rfl rfl ?_
          refine LR.v (Y.move rfl rfl) (Wd.u rfl) rfl rfl ?_
          refine LR.v (Y.move rfl rfl) (Wd.u rfl) rfl rfl ?_
          refine LR.v (Y.owAddr ow73 (j) rfl Try.runUnderlying28 Try.sizeOf30 rfl rfl (by first | rfl | omega) (by omega)) (Wd.u rfl) rfl rfl ?_
          refine LR.v (Y.cast (v2 := vA x2) (Y.loadN (ow73.pt (j := j) (by omega)) rfl Try.isAgg30 Try.sizeOf30 (fA_len _) rfl) (by rw [hx2]; rfl)) (Wd.u rfl) rfl rfl ?_
          refine LR.v ((Y.aeql rfl Try.eqGuardType30 (fun w => run_equalIn_id 9998 Try.underlying30 Try.underlying5 Try.sizeOf5 Try.isAgg5 (x1.2) (x2.2) w) rfl rfl).isF (hne1)) (Wd.u rfl) rfl rfl ?_
          refine LR.nil ?_
          refine hK41 _ _ ?_
          refine CW.cond_f rfl ?_
          refine CW.skip ?_
          refine hK40 _ _ ?_
          refine hK39 _ _ ?_
          refine CW.region ?_
          refine LR.v (Y.move rfl rfl) (Wd.u rfl) rfl rfl ?_
          refine LR.v (Y.addi rfl rfl rfl (by omega)) (Wd.u rfl) rfl rfl ?_
          refine LR.v (Y.assign rfl rfl) (Wd.u rfl) rfl rfl ?_
          refine LR.nil ?_
          refine QN.sub (hN36 (j + 1) _ ?_ ?_) ⟨(iv (by omega)), rfl, rfl, (iv (by omega)), (iv (by omega)), trivial⟩
          · exact ⟨(by omega), hlm3⟩
          · first | omega | (simp only; omega) | (simp; omega)
        ·
          refine CW.exit (hE37 (.exit 4) nofun _ _ (hE36 (.exit 4) nofun _ _ (hX35 _ _ ?_)))
          refine hK33 _ _ ?_
          refine hK32 _ _ ?_
          refine CW.region ?_
          refine LR.v (Y.move rfl rfl) (Wd.u rfl) rfl rfl ?_
          refine LR.v (Y.addi rfl rfl rfl (by omega)) (Wd.u rfl) rfl rfl ?_
          refine LR.v (Y.assign rfl rfl) (Wd.u rfl) rfl rfl ?_
          refine LR.nil ?_
          refine QN.sub (hN29 (i2 + 1) _ ?_ ?_) ⟨(iv (by omega)), rfl, rfl, (iv (by omega)), trivial⟩
          · exact ⟨(by omega), hlm2⟩
          · first | omega | (simp only; omega) | (simp; omega)
      ·
        refine CW.exit (hE30 (.exit 2) nofun _ _ (hE29 (.exit 2) nofun _ _ (hX28 _ _ ?_)))
        refine hK26 _ _ ?_
        refine CW.seq (fun K42 hK42 hE42 => ?_)
        refine CW.region_any (fun Hq => Nw HL2 Hq) [] rfl ?_
        have hqs := Nw.refl HL2
        refine LH.take 0 (by kernel_rfl) rfl (by kernel_rfl) (by kernel_rfl) (by kernel_rfl) (fun Hq hq => Y.move rfl rfl) (Wd.u rfl) rfl rfl hqs ?_
        refine LH.take 1 (by kernel_rfl) rfl (by kernel_rfl) (by kernel_rfl) (by kernel_rfl) (fun Hq hq => Y.len (ow73.rd.nw hq) rfl Try.runUnderlying28 rfl) (Wd.u rfl) rfl rfl hqs ?_
        refine LH.take 2 (by kernel_rfl) rfl (by kernel_rfl) (by kernel_rfl) (by kernel_rfl) (fun Hq hq => (Y.gtr rfl rfl rfl).isT (by omega)) (Wd.u rfl) rfl rfl hqs ?_
        refine LH.take 3 (by kernel_rfl) rfl (by kernel_rfl) (by kernel_rfl) (by kernel_rfl) (fun Hq hq => Y.move rfl rfl) (Wd.u rfl) rfl rfl hqs ?_
        refine LH.take 4 (by kernel_rfl) rfl (by kernel_rfl) (by kernel_rfl) (by kernel_rfl) (fun Hq hq => Y.move rfl rfl) (Wd.g rfl rfl rfl) rfl rfl hqs ?_
        refine LH.take 5 (by kernel_rfl) rfl (by kernel_rfl) (by kernel_rfl) (by kernel_rfl) (fun Hq hq => Y.move rfl rfl) (Wd.g rfl rfl rfl) rfl rfl hqs ?_
        refine LH.take 6 (by kernel_rfl) rfl (by kernel_rfl) (by kernel_rfl) (by kernel_rfl) (fun Hq hq => Y.len (ow73.rd.nw hq) rfl Try.runUnderlying28 rfl) (Wd.g rfl rfl rfl) rfl rfl hqs ?_
        refine LH.take 7 (by kernel_rfl) rfl (by kernel_rfl) (by kernel_rfl) (by kernel_rfl) (fun Hq hq => Y.cast (v2 := .int .i64 ((o73.length - 1 : Nat) : Int)) (Y.subi rfl rfl rfl (by omega)) (ivv (by omega))) (Wd.g rfl rfl rfl) rfl rfl hqs ?_
        refine LH.take 8 (by kernel_rfl) rfl (by kernel_rfl) (by kernel_rfl) (by kernel_rfl) (fun Hq hq => Y.owAddr (ow73.nw hq) (o73.length - 1) rfl Try.runUnderlying28 Try.sizeOf30 rfl rfl (by first | rfl | omega) (by omega)) (Wd.g rfl rfl rfl) rfl rfl hqs ?_
        refine LH.take 9 (by kernel_rfl) rfl (by kernel_rfl) (by kernel_rfl) (by kernel_rfl) (fun Hq hq => Y.cast (v2 := vA (idn kk)) (Y.loadN ((ow73.pt (j := o73.length - 1) (by omega)).nw hq) rfl Try.isAgg30 Try.sizeOf30 (fA_len _) rfl) (el0 rfl (by omega) hlast)) (Wd.g rfl rfl rfl) rfl rfl hqs ?_
        refine LH.take 10 (by kernel_rfl) rfl (by kernel_rfl) (by kernel_rfl) (by kernel_rfl) (fun Hq hq => Y.move rfl rfl) (Wd.g rfl rfl rfl) rfl rfl hqs ?_
        refine LH.one (i := 11) (by kernel_rfl) ?_
        -- call selvage/selvagelaw11.Id
        refine LO.call rfl rfl Try.call12 rfl (Wd.g rfl rfl rfl) rfl rfl (idn_ct kk w0 _ (by omega)) (fun v124 H124 r124 => ?_)
        obtain ⟨rfl, hs124⟩ := r124
        replace hl := hl.nw hs124
        replace hlx := fun x h_ => (hlx x h_).nw hs124
        replace hsr := hsr.nw hs124
        replace hv := hv.nw hs124
        replace oa := oa.nw hs124
        replace ow41 := ow41.nw hs124
        replace ow63 := ow63.nw hs124
        replace ow64 := ow64.nw hs124
        replace ow72 := ow72.nw hs124
        replace ow73 := ow73.nw hs124
        replace hm0 := hm0.tr hs124
        have hz18 := hs124.size
        have hq124 := hqs.tr hs124
        refine ⟨.inr hq124, LH.narrow (SH2 := fun Hq => Nw H124 Hq) (fun Hq hq => hq124.tr hq) ?_⟩
        have hqn124 := Nw.refl H124
        refine LH.take 12 (by kernel_rfl) rfl (by kernel_rfl) (by kernel_rfl) (by kernel_rfl) (fun Hq hq => (Y.aeql rfl Try.eqGuardType30 (fun w => run_equalIn_id 9998 Try.underlying30 Try.underlying5 Try.sizeOf5 Try.isAgg5 ((idn kk).2) ((idn kk).2) w) rfl rfl).isT (rfl)) (Wd.g rfl rfl rfl) rfl rfl hqn124 ?_
        refine LH.take 13 (by kernel_rfl) rfl (by kernel_rfl) (by kernel_rfl) (by kernel_rfl) (fun Hq hq => Y.pick_t rfl rfl rfl) (Wd.u rfl) rfl rfl hqn124 ?_
        refine LH.take 14 (by kernel_rfl) rfl (by kernel_rfl) (by kernel_rfl) (by kernel_rfl) (fun Hq hq => Y.assign rfl rfl) (Wd.u rfl) rfl rfl hqn124 ?_
        refine LH.done (by kernel_rfl) ?_
        have hqe := hqn124
        refine hK42 _ _ ?_
        refine CW.ret (hret .ret (.inr rfl) _ _ _ (res1 rfl rfl) ?_)
        exact ⟨rfl, hm0⟩

end Go.Proofs.Ytepdhokpfecdnaa.GraS
