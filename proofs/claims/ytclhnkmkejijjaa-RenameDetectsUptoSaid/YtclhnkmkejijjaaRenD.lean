/-
  Pairs that have the same bytes.
-/
import Derived.Test.YtclhnkmkejijjaaRenC
namespace Go.Proofs.Ytclhnkmkejijjaa.RenD
open Go.Proofs.Ytclhnkmkejijjaa.E Go.RowKit Go.Proofs.Ytclhnkmkejijjaa.RenA Go.Proofs.Ytclhnkmkejijjaa.RenB Go.Proofs.Ytclhnkmkejijjaa.RenC
set_option maxRecDepth 20000
set_option linter.unusedVariables false
set_option linter.unusedSimpArgs false
set_option linter.unusedSectionVars false
set_option maxRecDepth 100000 in
theorem inf26 : Inf Try.prog 26 35 3 48 := ⟨Try.underlying26, _, _, rfl, rfl, rfl, rfl, rfl⟩
set_option maxRecDepth 100000 in
theorem inf31 : Inf Try.prog 31 38 3 40 := ⟨Try.underlying31, _, _, rfl, rfl, rfl, rfl, rfl⟩
/-- the row's place at which f's partner stands, of the first k -/
def pst (f : Fl) (l : List Fl) : Nat → Int
  | 0 => -1
  | k + 1 => match l[k]? with
    | none => pst f l k
    | some g => if f.d = g.d ∧ (pst f l k < 0 ∨ ∃ x, l[(pst f l k).toNat]? = some x ∧ nearL f.p g.p < nearL f.p x.p) then k else pst f l k
theorem pst_rng (f : Fl) (l : List Fl) : ∀ k, -1 ≤ pst f l k ∧ pst f l k < k
  | 0 => by simp [pst]
  | k + 1 => by
    have h := pst_rng f l k
    rw [pst]
    split
    · omega
    · split <;> omega
theorem pst_lt (f : Fl) (l : List Fl) : ∀ k, pst f l k < l.length
  | 0 => by simp [pst]; omega
  | k + 1 => by
    have h := pst_lt f l k
    rw [pst]
    split
    · omega
    · rename_i g hg
      have := (List.getElem?_eq_some_iff.1 hg).1
      split <;> omega
theorem pst_hit {f : Fl} {l : List Fl} {k : Nat} (hk : k < l.length) (h1 : f.d = l[k].d) (h2 : pst f l k < 0 ∨ ∃ h : (pst f l k).toNat < l.length, nearL f.p l[k].p < nearL f.p (l[(pst f l k).toNat]).p) : pst f l (k + 1) = k := by
  rw [pst, List.getElem?_eq_getElem hk]
  simp only
  rw [if_pos ⟨h1, h2.imp id (fun ⟨h, h3⟩ => ⟨_, List.getElem?_eq_getElem h, h3⟩)⟩]
theorem pst_miss {f : Fl} {l : List Fl} {k : Nat} (hk : k < l.length) (h : ¬ (f.d = l[k].d ∧ (pst f l k < 0 ∨ ∃ h : (pst f l k).toNat < l.length, nearL f.p l[k].p < nearL f.p (l[(pst f l k).toNat]).p))) : pst f l (k + 1) = pst f l k := by
  rw [pst, List.getElem?_eq_getElem hk]
  simp only
  rw [if_neg]
  rintro ⟨h1, h2⟩
  refine h ⟨h1, h2.imp id ?_⟩
  rintro ⟨x, h3, h4⟩
  obtain ⟨h5, h6⟩ := List.getElem?_eq_some_iff.1 h3
  exact ⟨h5, by rw [h6]; exact h4⟩
/-- one that is gone -/
def exStep (s : List Pr × List Fl × List Fl) (f : Fl) : List Pr × List Fl × List Fl :=
  match s.2.2[(pst f s.2.2 s.2.2.length).toNat]? with
  | none => (s.1, s.2.1 ++ [f], s.2.2)
  | some g => if pst f s.2.2 s.2.2.length < 0 then (s.1, s.2.1 ++ [f], s.2.2) else (s.1 ++ [⟨f.p, g.p, 100⟩], s.2.1, s.2.2.eraseIdx (pst f s.2.2 s.2.2.length).toNat)
def exL (gone come : List Fl) : List Pr × List Fl × List Fl := gone.foldl exStep ([], [], come)
theorem exL_step {gone come : List Fl} {i : Nat} (hi : i < gone.length) : exL (gone.take (i + 1)) come = exStep (exL (gone.take i) come) gone[i] := by
  unfold exL
  rw [List.take_succ_eq_append_getElem hi, List.foldl_append]; rfl
theorem exStep_no {s : List Pr × List Fl × List Fl} {f : Fl} (h : pst f s.2.2 s.2.2.length < 0) : exStep s f = (s.1, s.2.1 ++ [f], s.2.2) := by
  unfold exStep
  split
  · rfl
  · rw [if_pos h]
theorem exStep_yes {s : List Pr × List Fl × List Fl} {f : Fl} {q : Nat} (h : pst f s.2.2 s.2.2.length = q) (hq : q < s.2.2.length) : exStep s f = (s.1 ++ [⟨f.p, s.2.2[q].p, 100⟩], s.2.1, s.2.2.eraseIdx q) := by
  unfold exStep
  rw [h, Int.toNat_natCast, List.getElem?_eq_getElem hq]
  simp only
  rw [if_neg (by omega)]
theorem exL_len (come : List Fl) : ∀ (gone : List Fl) (i : Nat), (exL (gone.take i) come).1.length ≤ i ∧ (exL (gone.take i) come).2.1.length ≤ i ∧ (exL (gone.take i) come).2.2.length ≤ come.length
  | gone, 0 => by simp [exL]
  | gone, i + 1 => by
    have ih := exL_len come gone i
    rcases Nat.lt_or_ge i gone.length with hi | hi
    · rw [exL_step hi]
      unfold exStep
      split
      · simp; omega
      · split
        · simp; omega
        · have := List.length_eraseIdx_le (exL (gone.take i) come).2.2 ((pst gone[i] (exL (gone.take i) come).2.2 (exL (gone.take i) come).2.2.length).toNat)
          simp; omega
    · rw [show gone.take (i + 1) = gone.take i by rw [List.take_of_length_le (by omega), List.take_of_length_le hi]]; omega
theorem exL_mem {gone come : List Fl} : (∀ x ∈ (exL gone come).2.1, x ∈ gone) ∧ ∀ x ∈ (exL gone come).2.2, x ∈ come := by
  have key : ∀ (g : List Fl) (s : List Pr × List Fl × List Fl), (∀ x ∈ (g.foldl exStep s).2.1, x ∈ s.2.1 ∨ x ∈ g) ∧ ∀ x ∈ (g.foldl exStep s).2.2, x ∈ s.2.2 := by
    intro g
    induction g with
    | nil => intro s; exact ⟨fun x h => .inl h, fun x h => h⟩
    | cons f g ih =>
      intro s
      have h := ih (exStep s f)
      have h1 : (∀ x ∈ (exStep s f).2.1, x ∈ s.2.1 ∨ x = f) ∧ ∀ x ∈ (exStep s f).2.2, x ∈ s.2.2 := by
        unfold exStep
        split
        · exact ⟨fun x hx => by simpa using hx, fun x hx => hx⟩
        · split
          · exact ⟨fun x hx => by simpa using hx, fun x hx => hx⟩
          · exact ⟨fun x hx => .inl hx, fun x hx => List.mem_of_mem_eraseIdx hx⟩
      refine ⟨fun x hx => ?_, fun x hx => h1.2 x (h.2 x hx)⟩
      rcases h.1 x hx with hx | hx
      · rcases h1.1 x hx with hx | rfl
        · exact .inl hx
        · exact .inr (by simp)
      · exact .inr (List.mem_cons_of_mem _ hx)
  have h := key gone ([], [], come)
  exact ⟨fun x hx => (h.1 x hx).resolve_left (by simp), h.2⟩

theorem fclone_ct (v1 : Value) (a : List Fl) (w0 : World) (H0 : Heap)
    (ha : RdT H0 fFl 3 v1 a) (hal : a.length ≤ 1048576) :
    Ct Try.prog w0 43 #[v1] H0 (fun r H2 => ∃ s : SV, ∃ k : Nat, r = s.v ∧ (Ow k 35 H2 fFl 3 s.v a) ∧ (Nx 0 H0.size k) ∧ Nw H0 H2) := by
  refine Ct.enter (args := [v1]) Try.func43 rfl rfl rfl ?_
  intro Q0 hret
  have hm0 : Nw H0 H0 := Mo.refl _ _
  replace ha := ha.bnd
  have bf_ha := Rd.bf ha
  obtain ⟨p, cp, rfl, _, _, hne⟩ := id ha.ex
  refine CW.seq (fun K1 hK1 hE1 => ?_)
  refine CW.region ?_
  refine LR.v (Y.assign rfl rfl) (Wd.u rfl) rfl rfl ?_
  refine LR.nil ?_
  refine hK1 _ _ ?_
  refine CW.seq (fun K2 hK2 hE2 => ?_)
  refine CW.seq (fun K3 hK3 hE3 => ?_)
  refine CW.region ?_
  refine LR.v (Y.move rfl rfl) (Wd.u rfl) rfl rfl ?_
  refine LR.v (Y.sleq rfl Try.underlying26 rfl rfl) (Wd.u rfl) rfl rfl ?_
  refine LR.nil ?_
  refine hK3 _ _ ?_
  refine CW.cond rfl (fun c4 => ?_) (fun c4 => ?_)
  ·
    obtain rfl : a = [] := by
      apply Decidable.byContradiction
      intro h
      obtain ⟨ad, h1, _⟩ := hne h
      rw [h1] at c4; cases c4
    refine CW.seq (fun K4 hK4 hE4 => ?_)
    refine CW.region ?_
    refine LR.v (Y.assign rfl rfl) (Wd.u rfl) rfl rfl ?_
    refine LR.nil ?_
    refine hK4 _ _ ?_
    refine CW.ret (hE2 .ret nofun _ _ (hret .ret (.inr rfl) _ _ _ (res1 rfl rfl) ?_))
    exact ⟨⟨none, 0, 0⟩, 0, rfl, Ow.nil fFl_len fFl_one, Nx.refl _ _, hm0⟩
  ·
    
    refine CW.skip ?_
    refine hK2 _ _ ?_
    refine CW.seq (fun K5 hK5 hE5 => ?_)
    refine CW.region ?_
    refine LR.z (Z.litw _ (([] : List Fl)) rfl inf26 rfl rfl rfl (by decide) (by decide) fFl_len fFl_one (rfl)) (Wd.u rfl) rfl rfl (fun v5 H5 r5 => ?_)
    obtain ⟨ow5, hs5, ob5, hH5⟩ := r5
    have hzs5 : H5.size = H0.size + 1 := by rw [hH5]; simp
    have df1 := (DF.new (bf_ha.mono hm0.size) : DF _ (H0.size + 1))
    have nx2 : Nx 0 H0.size (H0.size + 1) := Nx.new hm0.size
    replace ha := ha.nw hs5
    replace hm0 := hm0.tr hs5
    have hz1 := hs5.size
    refine LR.v (Y.move rfl rfl) (Wd.u rfl) rfl rfl ?_
    refine LR.z (Z.apnd ow5 ha rfl inf26 rfl rfl (by first | omega | (simp; omega)) (by first | omega | (simp; omega))) (Wd.u rfl) rfl rfl (fun v7 H7 r7 => ?_)
    obtain ⟨k7, ow7, hk7, hs7⟩ := r7
    replace hk7 : Nx (H0.size + 1) H5.size k7 := hk7
    replace hs7 := hs7.md
    have df3 := DF.app (df1) (bf_ha.mono hm0.size) hk7
    have nx4 : Nx 0 H0.size k7 := Nx.tr (nx2) hk7 hm0.size
    replace ha := ha.upL hs7 (DFL.cons df1 DFL.nil)
    replace hm0 := (Mo.trL (ks := []) (hm0.mdn []) hs7 (MIL.cons (MI.app MI.z (nx2) (Nat.le_refl _)) MIL.nil)).nil
    have hz2 := hs7.size
    have hle_ow7 := ow7.le
    refine LR.v (Y.assign rfl rfl) (Wd.u rfl) rfl rfl ?_
    refine LR.nil ?_
    refine hK5 _ _ ?_
    refine CW.ret (hret .ret (.inr rfl) _ _ _ (res1 rfl rfl) ?_)
    obtain ⟨s7, rfl⟩ : ∃ s : SV, v7 = s.v := ⟨toSV v7, ow7.sv.symm⟩
    exact ⟨s7, k7, rfl, by simpa using ow7, nx4, hm0⟩

set_option maxHeartbeats 4000000 in
theorem exact_ct (v1 v2 : Value) (gone come : List Fl) (w0 : World) (H0 : Heap)
    (hg : RdT H0 fFl 3 v1 gone) (hc : RdT H0 fFl 3 v2 come) (hx : ∀ x ∈ gone, FlR (fun _ => True) H0 x) (hy : ∀ x ∈ come, FlR (fun _ => True) H0 x) (hgl : gone.length ≤ 1048576) (hcl : come.length ≤ 1048576) (hpg : ∀ x ∈ gone, x.p.length ≤ 9223372036854775806) (hpc : ∀ x ∈ come, x.p.length ≤ 9223372036854775806) :
    Ct Try.prog w0 30 #[v1, v2] H0 (fun r H2 => ∃ vp : Value, ∃ kp : Nat, ∃ vl : Value, ∃ kl : Nat, ∃ vr : Value, ∃ kr : Nat, r = .tuple #[vp, vl, vr] ∧ (Ow kp 38 H2 fPr 3 vp (exL gone come).1) ∧ (Ow kl 35 H2 fFl 3 vl (exL gone come).2.1) ∧ (Ow kr 35 H2 fFl 3 vr (exL gone come).2.2) ∧ (Nx 0 H0.size kp) ∧ (Nx 0 H0.size kl) ∧ (Nx 0 H0.size kr) ∧ (Dj kp kl) ∧ (Dj kp kr) ∧ (Dj kl kr) ∧ Nw H0 H2) := by
  refine Ct.enter (args := [v1, v2]) Try.func30 rfl rfl rfl ?_
  intro Q0 hret
  have hm0 : Nw H0 H0 := Mo.refl _ _
  replace hg := hg.bnd
  have bf_hg := Rd.bf hg
  replace hc := hc.bnd
  have bf_hc := Rd.bf hc
  replace hx := fun x hx0 => (hx x hx0).bnd
  have bf_hx : BF (fun b => True ∧ b < H0.size) H0.size := fun b h => h.2
  replace hy := fun x hy0 => (hy x hy0).bnd
  have bf_hy : BF (fun b => True ∧ b < H0.size) H0.size := fun b h => h.2
  refine CW.seq (fun K1 hK1 hE1 => ?_)
  refine CW.region ?_
  refine LR.v (Y.assign rfl rfl) (Wd.u rfl) rfl rfl ?_
  refine LR.v (Y.assign rfl rfl) (Wd.u rfl) rfl rfl ?_
  refine LR.v (Y.assign rfl rfl) (Wd.u rfl) rfl rfl ?_
  refine LR.nil ?_
  refine hK1 _ _ ?_
  refine CW.seq (fun K2 hK2 hE2 => ?_)
  refine CW.region ?_
  refine LR.v (Y.move rfl rfl) (Wd.u rfl) rfl rfl ?_
  -- call slices.Clone[[]selvage/api.File,selvage/api.File]
  refine LR.call rfl Try.call43 rfl (Wd.u rfl) rfl rfl (fclone_ct _ come w0 _ hc.any hcl) (fun v13 H13 r13 => ?_)
  obtain ⟨s13, kr0, rfl, orr, hk13, hs13⟩ := r13
  have df1 := DF.app (DF.z) (bf_hg.mono hm0.size) hk13
  have df2 := DF.app (DF.z) (bf_hc.mono hm0.size) hk13
  have df3 := DF.app (DF.z) (bf_hx.mono hm0.size) hk13
  have df4 := DF.app (DF.z) (bf_hy.mono hm0.size) hk13
  have nx5 : Nx 0 H0.size kr0 := Nx.tr (Nx.refl 0 _) hk13 hm0.size
  replace hg := hg.nw hs13
  replace hc := hc.nw hs13
  replace hx := fun x hx0 => (hx x hx0).nw hs13
  replace hy := fun x hy0 => (hy x hy0).nw hs13
  replace hm0 := hm0.tr hs13
  have hz1 := hs13.size
  have hle_orr := orr.le
  refine LR.v (Y.assign rfl rfl) (Wd.u rfl) rfl rfl ?_
  refine LR.nil ?_
  refine hK2 _ _ ?_
  refine CW.seq (fun K3 hK3 hE3 => ?_)
  refine CW.seq (fun K4 hK4 hE4 => ?_)
  refine CW.region ?_
  refine LR.v (Y.move rfl rfl) (Wd.u rfl) rfl rfl ?_
  refine LR.v (Y.len hg rfl Try.runUnderlying26 rfl) (Wd.u rfl) rfl rfl ?_
  refine LR.v (Y.move rfl rfl) (Wd.u rfl) rfl rfl ?_
  refine LR.nil ?_
  refine hK4 _ _ ?_
  refine CW.block (fun K5 hK5 hX5 hE5 => ?_)
  refine CW.loop (fun (s_ : (Nat) × (Value) × (Nat) × (Value) × (Nat) × (Value) × (Nat) × (List Pr) × (List Fl) × (List Fl)) => match s_ with | (i, vp, kp, vl, kl, vr, kr, ps, left, rest) => [(4, vp), (5, vl), (6, vr), (14, v1), (15, .int .i64 gone.length), (16, .int .i64 i)])
    (fun (s_ : (Nat) × (Value) × (Nat) × (Value) × (Nat) × (Value) × (Nat) × (List Pr) × (List Fl) × (List Fl)) (H : Heap) => match s_ with | (i, vp, kp, vl, kl, vr, kr, ps, left, rest) => (i ≤ gone.length) ∧ (Ow kp 38 H fPr 3 vp ps) ∧ (Ow kl 35 H fFl 3 vl left) ∧ (Ow kr 35 H fFl 3 vr rest) ∧ (exL (gone.take i) come = (ps, left, rest)) ∧ (Nx 0 H13.size kp) ∧ (Nx 0 H13.size kl) ∧ (Nx kr0 H13.size kr) ∧ (Dj kp kl) ∧ (Dj kp kr) ∧ (Dj kl kr) ∧ Mo (Ms [kr0]) H13 H)
    (fun (s_ : (Nat) × (Value) × (Nat) × (Value) × (Nat) × (Value) × (Nat) × (List Pr) × (List Fl) × (List Fl)) => match s_ with | (i, vp, kp, vl, kl, vr, kr, ps, left, rest) => gone.length - i) (0, .slice none 0 0, 0, .slice none 0 0, 0, s13.v, kr0, [], [], come) ⟨rfl, rfl, rfl, rfl, rfl, rfl, trivial⟩ ?_ ?_
  ·
    exact ⟨(by omega), Ow.nil fPr_len fPr_one, Ow.nil fFl_len fFl_one, orr, rfl, Nx.refl _ _, Nx.refl _ _, Nx.refl _ _, Dj.z, Dj.z2, Dj.z2, Mo.refl _ _⟩
  rintro ⟨i, vp, kp, vl, kl, vr, kr, ps, left, rest⟩ HL1 hI1 K6 hN6 hE6
  obtain ⟨hi, op, ol, orr, he, nxl_op, nxl_ol, nxl_orr, dj_op_ol, dj_op_orr, dj_ol_orr, hlm1⟩ := hI1
  have df6 := DF.app (DF.z) (bf_hg.mono hm0.size) nxl_op
  have df7 := DF.app (DF.z) (bf_hc.mono hm0.size) nxl_op
  have df8 := DF.app (DF.z) (bf_hx.mono hm0.size) nxl_op
  have df9 := DF.app (DF.z) (bf_hy.mono hm0.size) nxl_op
  have nx10 : Nx 0 H0.size kp := Nx.tr (Nx.refl 0 _) nxl_op hm0.size
  have df11 := DF.app (DF.z) (bf_hg.mono hm0.size) nxl_ol
  have df12 := DF.app (DF.z) (bf_hc.mono hm0.size) nxl_ol
  have df13 := DF.app (DF.z) (bf_hx.mono hm0.size) nxl_ol
  have df14 := DF.app (DF.z) (bf_hy.mono hm0.size) nxl_ol
  have nx15 : Nx 0 H0.size kl := Nx.tr (Nx.refl 0 _) nxl_ol hm0.size
  have df16 := DF.app (df1) (bf_hg.mono hm0.size) nxl_orr
  have df17 := DF.app (df2) (bf_hc.mono hm0.size) nxl_orr
  have df18 := DF.app (df3) (bf_hx.mono hm0.size) nxl_orr
  have df19 := DF.app (df4) (bf_hy.mono hm0.size) nxl_orr
  have nx20 : Nx 0 H0.size kr := Nx.tr (nx5) nxl_orr hm0.size
  replace hg := hg.upL hlm1 (DFL.cons df1 DFL.nil)
  replace hc := hc.upL hlm1 (DFL.cons df2 DFL.nil)
  replace hx := fun x hx0 => (hx x hx0).upL hlm1 (DFL.cons df3 DFL.nil)
  replace hy := fun x hy0 => (hy x hy0).upL hlm1 (DFL.cons df4 DFL.nil)
  replace hm0 := (Mo.trL (ks := []) (hm0.mdn []) hlm1 (MIL.cons (MI.app MI.z (nx5) (Nat.le_refl _)) MIL.nil)).nil
  have hz2 := hlm1.size
  have hle_op := op.le
  have hle_ol := ol.le
  have hle_orr := orr.le
  have dj21 := dj_op_ol
  have dj22 := dj_op_orr
  have dj23 := dj_ol_orr
  have nx24 := nxl_op
  have nx25 := nxl_ol
  have nx26 := nxl_orr
  refine CW.seq (fun K7 hK7 hE7 => ?_)
  refine CW.region ?_
  refine LR.v (Y.lss rfl rfl rfl) (Wd.u rfl) rfl rfl ?_
  refine LR.nil ?_
  refine hK7 _ _ ?_
  refine CW.seq (fun K8 hK8 hE8 => ?_)
  refine CW.condp rfl (fun c17 => ?_) (fun c17 => ?_)
  ·
    refine CW.skip ?_
    refine hK8 _ _ ?_
    refine CW.seq (fun K9 hK9 hE9 => ?_)
    refine CW.block (fun K10 hK10 hX10 hE10 => ?_)
    refine CW.seq (fun K11 hK11 hE11 => ?_)
    refine CW.region ?_
    have hil : i < gone.length := by omega
    have hln := exL_len come gone i
    rw [he] at hln
    obtain ⟨hln1, hln2, hln3⟩ := hln
    simp only at hln1 hln2 hln3
    have hri : ∀ x ∈ rest, x ∈ come := by have h9 := (exL_mem (gone := gone.take i) (come := come)).2; rw [he] at h9; exact h9
    have hmi := hx gone[i] (List.getElem_mem hil)
    have hpi := hpg gone[i] (List.getElem_mem hil)
    refine LR.e (g := fun ad => .pointer (some ad)) (Y.indexAddrF hg (i) rfl Try.runUnderlying26 Try.sizeOf35 rfl rfl (by first | rfl | omega) (by first | omega | (simp; omega) | (simp; done))) (Wd.u rfl) rfl rfl (fun ad18 pt18 => ?_)
    have bf_pt18 := bf_hg
    refine LR.v (Y.loadN pt18.pt rfl Try.isAgg35 Try.sizeOf35 (rfl) rfl) (Wd.u rfl) rfl rfl ?_
    refine LR.z (Z.allocv rfl Try.zeroValue35) (Wd.u rfl) rfl rfl (fun v8 H8 r8 => ?_)
    obtain ⟨rfl, vf, hs8, ob8, hH8⟩ := r8
    have hzs8 : H8.size = HL1.size + 1 := by rw [hH8]; simp
    have df27 := (DF.new (bf_hg.mono hm0.size) : DF _ (HL1.size + 1))
    have df28 := (DF.new (bf_hc.mono hm0.size) : DF _ (HL1.size + 1))
    have df29 := (DF.new (bf_hx.mono hm0.size) : DF _ (HL1.size + 1))
    have df30 := (DF.new (bf_hy.mono hm0.size) : DF _ (HL1.size + 1))
    have dj31 : Dj kr (HL1.size + 1) := Dj.new orr.le
    have dj32 : Dj kp (HL1.size + 1) := Dj.new op.le
    have dj33 : Dj kl (HL1.size + 1) := Dj.new ol.le
    have df34 := (DF.new (bf_pt18.mono hm0.size) : DF _ (HL1.size + 1))
    have nx35 : Nx 0 H0.size (HL1.size + 1) := Nx.new hm0.size
    have nx36 : Nx 0 H13.size (HL1.size + 1) := Nx.new hlm1.size
    replace hg := hg.nw hs8
    replace hc := hc.nw hs8
    replace hx := fun x hx0 => (hx x hx0).nw hs8
    replace hy := fun x hy0 => (hy x hy0).nw hs8
    replace orr := orr.nw hs8
    replace op := op.nw hs8
    replace ol := ol.nw hs8
    replace pt18 := pt18.nw hs8
    replace hm0 := hm0.tr hs8
    replace hlm1 := hlm1.trN hs8
    have hz3 := hs8.size
    refine LR.s (S.var vf (_) (fFl gone[i]) rfl rfl rfl rfl (fFl_one gone[i]) Try.sizeOf35 (rfl) (Nat.le_of_ble_eq_true rfl) (rfl)) (Wd.u rfl) rfl (fun H4_3 r4_3 => ?_)
    obtain ⟨vf, hs4_3⟩ := r4_3
    replace hs4_3 := hs4_3.md1
    replace hg := hg.upL hs4_3 (DFL.cons df27 DFL.nil)
    replace hc := hc.upL hs4_3 (DFL.cons df28 DFL.nil)
    replace hx := fun x hx0 => (hx x hx0).upL hs4_3 (DFL.cons df29 DFL.nil)
    replace hy := fun x hy0 => (hy x hy0).upL hs4_3 (DFL.cons df30 DFL.nil)
    replace orr := orr.upL hs4_3 (DL.cons dj31 DL.nil)
    replace op := op.upL hs4_3 (DL.cons dj32 DL.nil)
    replace ol := ol.upL hs4_3 (DL.cons dj33 DL.nil)
    replace pt18 := pt18.upL hs4_3 (DFL.cons df34 DFL.nil)
    replace hm0 := (Mo.trL (ks := []) (hm0.mdn []) hs4_3 (MIL.cons (MI.app MI.z (nx35) (Nat.le_refl _)) MIL.nil)).nil
    replace hlm1 := hlm1.trL hs4_3 (MIL.cons (MI.app MI.z (nx36) (Nat.le_refl _)) MIL.nil)
    have hz4 := hs4_3.size
    refine LR.nil ?_
    refine hK11 _ _ ?_
    refine CW.seq (fun K12 hK12 hE12 => ?_)
    refine CW.region ?_
    refine LR.v (Y.assign rfl rfl) (Wd.u rfl) rfl rfl ?_
    refine LR.nil ?_
    refine hK12 _ _ ?_
    refine CW.seq (fun K13 hK13 hE13 => ?_)
    refine CW.seq (fun K14 hK14 hE14 => ?_)
    refine CW.region ?_
    refine LR.v (Y.move rfl rfl) (Wd.u rfl) rfl rfl ?_
    refine LR.v (Y.len orr.rd rfl Try.runUnderlying26 rfl) (Wd.u rfl) rfl rfl ?_
    refine LR.v (Y.move rfl rfl) (Wd.u rfl) rfl rfl ?_
    refine LR.nil ?_
    refine hK14 _ _ ?_
    refine CW.block (fun K15 hK15 hX15 hE15 => ?_)
    refine CW.loop (fun (k : (Nat)) => [(4, vp), (5, vl), (6, vr), (8, .pointer (some ⟨HL1.size, 0, none⟩)), (9, .int .i64 (pst gone[i] rest k)), (14, v1), (15, .int .i64 gone.length), (16, .int .i64 i), (20, vr), (21, .int .i64 rest.length), (22, .int .i64 k)])
      (fun (k : (Nat)) (H : Heap) => (k ≤ rest.length) ∧ Nw H4_3 H)
      (fun (k : (Nat)) => rest.length - k) 0 ⟨rfl, rfl, rfl, rfl, rfl, rfl, rfl, rfl, rfl, rfl, rfl, trivial⟩ ?_ ?_
    ·
      exact ⟨(by omega), Mo.refl _ _⟩
    intro k HL2 hI2 K16 hN16 hE16
    obtain ⟨hk, hlm2⟩ := hI2
    replace hg := hg.nw hlm2
    replace hc := hc.nw hlm2
    replace hx := fun x hx0 => (hx x hx0).nw hlm2
    replace hy := fun x hy0 => (hy x hy0).nw hlm2
    replace orr := orr.nw hlm2
    replace op := op.nw hlm2
    replace ol := ol.nw hlm2
    replace vf := vf.nw hlm2
    replace hm0 := hm0.tr hlm2
    replace hlm1 := hlm1.trN hlm2
    have hz5 := hlm2.size
    refine CW.seq (fun K17 hK17 hE17 => ?_)
    refine CW.region ?_
    refine LR.v (Y.lss rfl rfl rfl) (Wd.u rfl) rfl rfl ?_
    refine LR.nil ?_
    refine hK17 _ _ ?_
    refine CW.seq (fun K18 hK18 hE18 => ?_)
    refine CW.condp rfl (fun c23 => ?_) (fun c23 => ?_)
    ·
      refine CW.skip ?_
      refine hK18 _ _ ?_
      refine CW.seq (fun K19 hK19 hE19 => ?_)
      refine CW.block (fun K20 hK20 hX20 hE20 => ?_)
      refine CW.seq (fun K21 hK21 hE21 => ?_)
      refine CW.region ?_
      refine LR.v (Y.move rfl rfl) (Wd.u rfl) rfl rfl ?_
      have hkl2 : k < rest.length := by omega
      have hmk := hy rest[k] (hri _ (List.getElem_mem hkl2))
      have hpk := hpc rest[k] (hri _ (List.getElem_mem hkl2))
      have hpr := pst_rng gone[i] rest k
      have hpl := pst_lt gone[i] rest k
      refine LR.v (Y.owAddr orr (k) rfl Try.runUnderlying26 Try.sizeOf35 rfl rfl (by first | rfl | omega) (by first | omega | (simp; omega) | (simp; done))) (Wd.u rfl) rfl rfl ?_
      refine LR.v (Y.loadN (orr.pt (j := k) (by first | omega | (simp; omega) | (simp; done))) rfl Try.isAgg35 Try.sizeOf35 (rfl) rfl) (Wd.u rfl) rfl rfl ?_
      refine LR.z (Z.allocv rfl Try.zeroValue35) (Wd.u rfl) rfl rfl (fun v11 H11 r11 => ?_)
      obtain ⟨rfl, vg, hs11, ob11, hH11⟩ := r11
      have hzs11 : H11.size = HL2.size + 1 := by rw [hH11]; simp
      have df37 := (DF.new (bf_hg.mono hm0.size) : DF _ (HL2.size + 1))
      have df38 := (DF.new (bf_hc.mono hm0.size) : DF _ (HL2.size + 1))
      have df39 := (DF.new (bf_hx.mono hm0.size) : DF _ (HL2.size + 1))
      have df40 := (DF.new (bf_hy.mono hm0.size) : DF _ (HL2.size + 1))
      have dj41 : Dj kr (HL2.size + 1) := Dj.new orr.le
      have dj42 : Dj kp (HL2.size + 1) := Dj.new op.le
      have dj43 : Dj kl (HL2.size + 1) := Dj.new ol.le
      have dj44 : Dj (HL1.size + 1) (HL2.size + 1) := Dj.new vf.lt
      have nx45 : Nx 0 H0.size (HL2.size + 1) := Nx.new hm0.size
      have nx46 : Nx 0 H13.size (HL2.size + 1) := Nx.new hlm1.size
      have nx47 : Nx 0 H4_3.size (HL2.size + 1) := Nx.new hlm2.size
      replace hg := hg.nw hs11
      replace hc := hc.nw hs11
      replace hx := fun x hx0 => (hx x hx0).nw hs11
      replace hy := fun x hy0 => (hy x hy0).nw hs11
      replace orr := orr.nw hs11
      replace op := op.nw hs11
      replace ol := ol.nw hs11
      replace vf := vf.nw hs11
      replace hm0 := hm0.tr hs11
      replace hlm1 := hlm1.trN hs11
      replace hlm2 := hlm2.tr hs11
      have hz6 := hs11.size
      refine LR.v (Y.assign rfl rfl) (Wd.u rfl) rfl rfl ?_
      refine LR.s (S.var vg (_) (fFl rest[k]) rfl rfl rfl rfl (fFl_one rest[k]) Try.sizeOf35 (rfl) (Nat.le_of_ble_eq_true rfl) (rfl)) (Wd.u rfl) rfl (fun H8_5 r8_5 => ?_)
      obtain ⟨vg, hs8_5⟩ := r8_5
      replace hs8_5 := hs8_5.md1
      replace hg := hg.upL hs8_5 (DFL.cons df37 DFL.nil)
      replace hc := hc.upL hs8_5 (DFL.cons df38 DFL.nil)
      replace hx := fun x hx0 => (hx x hx0).upL hs8_5 (DFL.cons df39 DFL.nil)
      replace hy := fun x hy0 => (hy x hy0).upL hs8_5 (DFL.cons df40 DFL.nil)
      replace orr := orr.upL hs8_5 (DL.cons dj41 DL.nil)
      replace op := op.upL hs8_5 (DL.cons dj42 DL.nil)
      replace ol := ol.upL hs8_5 (DL.cons dj43 DL.nil)
      replace vf := vf.upL hs8_5 (DL.cons dj44 DL.nil)
      replace hm0 := (Mo.trL (ks := []) (hm0.mdn []) hs8_5 (MIL.cons (MI.app MI.z (nx45) (Nat.le_refl _)) MIL.nil)).nil
      replace hlm1 := hlm1.trL hs8_5 (MIL.cons (MI.app MI.z (nx46) (Nat.le_refl _)) MIL.nil)
      replace hlm2 := (Mo.trL (ks := []) (hlm2.mdn []) hs8_5 (MIL.cons (MI.app MI.z (nx47) (Nat.le_refl _)) MIL.nil)).nil
      have hz7 := hs8_5.size
      refine LR.nil ?_
      refine hK21 _ _ ?_
      refine CW.seq (fun K22 hK22 hE22 => ?_)
      refine CW.region_any (fun Hq => Nw H8_5 Hq) [] rfl ?_
      have hqs := Nw.refl H8_5
      refine LH.take 0 (by kernel_rfl) rfl (by kernel_rfl) (by kernel_rfl) (by kernel_rfl) (fun Hq hq => Y.fieldAddr (vf.pt.nw hq) rfl Try.runUnderlying35 rfl rfl Try.sizeOf22 (by decide) rfl) (Wd.u rfl) rfl rfl hqs ?_
      refine LH.take 1 (by kernel_rfl) rfl (by kernel_rfl) (by kernel_rfl) (by kernel_rfl) (fun Hq hq => Y.load1 ((vf.pt.drop 2).nw hq) rfl Try.isAgg22 rfl) (Wd.u rfl) rfl rfl hqs ?_
      refine LH.take 2 (by kernel_rfl) rfl (by kernel_rfl) (by kernel_rfl) (by kernel_rfl) (fun Hq hq => Y.fieldAddr (vg.pt.nw hq) rfl Try.runUnderlying35 rfl rfl Try.sizeOf22 (by decide) rfl) (Wd.u rfl) rfl rfl hqs ?_
      refine LH.take 3 (by kernel_rfl) rfl (by kernel_rfl) (by kernel_rfl) (by kernel_rfl) (fun Hq hq => Y.load1 ((vg.pt.drop 2).nw hq) rfl Try.isAgg22 rfl) (Wd.u rfl) rfl rfl hqs ?_
      refine LH.one (i := 4) (by kernel_rfl) ?_
      -- call bytes.Equal
      refine LO.call rfl rfl Try.call22 rfl (Wd.u rfl) rfl rfl (bequal_ct _ _ gone[i].d rest[k].d w0 _ (hx gone[i] (List.getElem_mem hil)).d.any (hy rest[k] (hri _ (List.getElem_mem hkl2))).d.any) (fun v31 H31 r31 => ?_)
      obtain ⟨rfl, hs31⟩ := r31
      replace hg := hg.nw hs31
      replace hc := hc.nw hs31
      replace hx := fun x hx0 => (hx x hx0).nw hs31
      replace hy := fun x hy0 => (hy x hy0).nw hs31
      replace orr := orr.nw hs31
      replace op := op.nw hs31
      replace ol := ol.nw hs31
      replace vf := vf.nw hs31
      replace vg := vg.nw hs31
      replace hm0 := hm0.tr hs31
      replace hlm1 := hlm1.trN hs31
      replace hlm2 := hlm2.tr hs31
      have hz8 := hs31.size
      have hq31 := hqs.tr hs31
      refine ⟨.inr hq31, LH.narrow (SH2 := fun Hq => Nw H31 Hq) (fun Hq hq => hq31.tr hq) ?_⟩
      have hqn31 := Nw.refl H31
      refine LH.take 5 (by kernel_rfl) rfl (by kernel_rfl) (by kernel_rfl) (by kernel_rfl) (fun Hq hq => Y.move rfl rfl) (Wd.u rfl) rfl rfl hqn31 ?_
      refine LH.splitp (d := 32) rfl (fun g32 => ?_) (fun g32 => ?_)
      ·
        refine LH.take 6 (by kernel_rfl) rfl (by kernel_rfl) (by kernel_rfl) (by kernel_rfl) (fun Hq hq => Y.move rfl rfl) (Wd.g rfl rfl rfl) rfl rfl hqn31 ?_
        refine LH.take 7 (by kernel_rfl) rfl (by kernel_rfl) (by kernel_rfl) (by kernel_rfl) (fun Hq hq => Y.lss rfl rfl rfl) (Wd.g rfl rfl rfl) rfl rfl hqn31 ?_
        refine LH.take 8 (by kernel_rfl) rfl (by kernel_rfl) (by kernel_rfl) (by kernel_rfl) (fun Hq hq => Y.move rfl rfl) (Wd.g rfl rfl rfl) rfl rfl hqn31 ?_
        refine LH.splitp (d := 35) rfl (fun g35 => ?_) (fun g35 => ?_)
        ·
          refine LH.gs 9 (by kernel_rfl) rfl (by kernel_rfl) (by kernel_rfl) (by kernel_rfl) rfl rfl rfl rfl rfl rfl hqn31 ?_
          refine LH.gs 10 (by kernel_rfl) rfl (by kernel_rfl) (by kernel_rfl) (by kernel_rfl) rfl rfl rfl rfl rfl rfl hqn31 ?_
          refine LH.gs 11 (by kernel_rfl) rfl (by kernel_rfl) (by kernel_rfl) (by kernel_rfl) rfl rfl rfl rfl rfl rfl hqn31 ?_
          refine LH.gs 12 (by kernel_rfl) rfl (by kernel_rfl) (by kernel_rfl) (by kernel_rfl) rfl rfl rfl rfl rfl rfl hqn31 ?_
          refine LH.gs 13 (by kernel_rfl) rfl (by kernel_rfl) (by kernel_rfl) (by kernel_rfl) rfl rfl rfl rfl rfl rfl hqn31 ?_
          refine LH.gs 14 (by kernel_rfl) rfl (by kernel_rfl) (by kernel_rfl) (by kernel_rfl) rfl rfl rfl rfl rfl rfl hqn31 ?_
          refine LH.gs 15 (by kernel_rfl) rfl (by kernel_rfl) (by kernel_rfl) (by kernel_rfl) rfl rfl rfl rfl rfl rfl hqn31 ?_
          refine LH.gs 16 (by kernel_rfl) rfl (by kernel_rfl) (by kernel_rfl) (by kernel_rfl) rfl rfl rfl rfl rfl rfl hqn31 ?_
          refine LH.gs 17 (by kernel_rfl) rfl (by kernel_rfl) (by kernel_rfl) (by kernel_rfl) rfl rfl rfl rfl rfl rfl hqn31 ?_
          refine LH.gs 18 (by kernel_rfl) rfl (by kernel_rfl) (by kernel_rfl) (by kernel_rfl) rfl rfl rfl rfl rfl rfl hqn31 ?_
          refine LH.gs 19 (by kernel_rfl) rfl (by kernel_rfl) (by kernel_rfl) (by kernel_rfl) rfl rfl rfl rfl rfl rfl hqn31 ?_
          refine LH.gs 20 (by kernel_rfl) rfl (by kernel_rfl) (by kernel_rfl) (by kernel_rfl) rfl rfl rfl rfl rfl rfl hqn31 ?_
          refine LH.gs 21 (by kernel_rfl) rfl (by kernel_rfl) (by kernel_rfl) (by kernel_rfl) rfl rfl rfl rfl rfl rfl hqn31 ?_
          refine LH.gs 22 (by kernel_rfl) rfl (by kernel_rfl) (by kernel_rfl) (by kernel_rfl) rfl rfl rfl rfl rfl rfl hqn31 ?_
          refine LH.take 23 (by kernel_rfl) rfl (by kernel_rfl) (by kernel_rfl) (by kernel_rfl) (fun Hq hq => Y.pick_t rfl rfl rfl) (Wd.g rfl rfl rfl) rfl rfl hqn31 ?_
          refine LH.take 24 (by kernel_rfl) rfl (by kernel_rfl) (by kernel_rfl) (by kernel_rfl) (fun Hq hq => Y.pick_t rfl rfl rfl) (Wd.u rfl) rfl rfl hqn31 ?_
          refine LH.done (by kernel_rfl) ?_
          have hqe := hqn31
          refine hK22 _ _ ?_
          refine CW.cond_t rfl ?_
          refine CW.region ?_
          refine LR.v (Y.move rfl rfl) (Wd.u rfl) rfl rfl ?_
          refine LR.v (Y.assign rfl rfl) (Wd.u rfl) rfl rfl ?_
          refine LR.nil ?_
          refine hK20 _ _ ?_
          refine hK19 _ _ ?_
          refine CW.region ?_
          refine LR.v (Y.addi rfl rfl rfl (by omega)) (Wd.u rfl) rfl rfl ?_
          refine LR.v (Y.move rfl rfl) (Wd.u rfl) rfl rfl ?_
          refine LR.nil ?_
          have hps := pst_hit hkl2 (by assumption) (by first | exact .inl (by assumption) | exact .inr ⟨by omega, by assumption⟩)
          refine QN.sub (hN16 (k + 1) _ ?_ ?_) ⟨rfl, rfl, rfl, rfl, (iv (by omega)), rfl, (iv (by omega)), (iv (by omega)), rfl, (iv (by omega)), (iv (by omega)), trivial⟩
          · exact ⟨(by omega), hlm2⟩
          · first | omega | (simp only; omega) | (simp; omega)
        ·
          refine LH.take 9 (by kernel_rfl) rfl (by kernel_rfl) (by kernel_rfl) (by kernel_rfl) (fun Hq hq => Y.fieldAddr (vf.pt.nw hq) rfl Try.runUnderlying35 rfl rfl Try.sizeOf9 (by decide) rfl) (Wd.g rfl rfl rfl) rfl rfl hqn31 ?_
          refine LH.take 10 (by kernel_rfl) rfl (by kernel_rfl) (by kernel_rfl) (by kernel_rfl) (fun Hq hq => Y.load1 (vf.pt.nw hq) rfl Try.isAgg9 rfl) (Wd.g rfl rfl rfl) rfl rfl hqn31 ?_
          refine LH.take 11 (by kernel_rfl) rfl (by kernel_rfl) (by kernel_rfl) (by kernel_rfl) (fun Hq hq => Y.move rfl rfl) (Wd.g rfl rfl rfl) rfl rfl hqn31 ?_
          refine LH.take 12 (by kernel_rfl) rfl (by kernel_rfl) (by kernel_rfl) (by kernel_rfl) (fun Hq hq => Y.move rfl rfl) (Wd.g rfl rfl rfl) rfl rfl hqn31 ?_
          refine LH.take 13 (by kernel_rfl) rfl (by kernel_rfl) (by kernel_rfl) (by kernel_rfl) (fun Hq hq => Y.owAddr (orr.nw hq) ((pst gone[i] rest k).toNat) rfl Try.runUnderlying26 Try.sizeOf35 rfl rfl (Int.toNat_of_nonneg (Int.not_lt.1 g35)).symm (by omega)) (Wd.g rfl rfl rfl) rfl rfl hqn31 ?_
          refine LH.take 14 (by kernel_rfl) rfl (by kernel_rfl) (by kernel_rfl) (by kernel_rfl) (fun Hq hq => Y.fieldAddr ((orr.pt (j := (pst gone[i] rest k).toNat) (by omega)).nw hq) rfl Try.runUnderlying35 rfl rfl Try.sizeOf9 (by decide) rfl) (Wd.g rfl rfl rfl) rfl rfl hqn31 ?_
          refine LH.take 15 (by kernel_rfl) rfl (by kernel_rfl) (by kernel_rfl) (by kernel_rfl) (fun Hq hq => Y.load1 (((orr.pt (j := (pst gone[i] rest k).toNat) (by omega)).drop 0).nw hq) rfl Try.isAgg9 rfl) (Wd.g rfl rfl rfl) rfl rfl hqn31 ?_
          refine LH.take 17 (by kernel_rfl) rfl (by kernel_rfl) (by kernel_rfl) (by kernel_rfl) (fun Hq hq => Y.fieldAddr (vf.pt.nw hq) rfl Try.runUnderlying35 rfl rfl Try.sizeOf9 (by decide) rfl) (Wd.g rfl rfl rfl) rfl rfl hqn31 ?_
          refine LH.take 18 (by kernel_rfl) rfl (by kernel_rfl) (by kernel_rfl) (by kernel_rfl) (fun Hq hq => Y.load1 (vf.pt.nw hq) rfl Try.isAgg9 rfl) (Wd.g rfl rfl rfl) rfl rfl hqn31 ?_
          refine LH.take 19 (by kernel_rfl) rfl (by kernel_rfl) (by kernel_rfl) (by kernel_rfl) (fun Hq hq => Y.fieldAddr (vg.pt.nw hq) rfl Try.runUnderlying35 rfl rfl Try.sizeOf9 (by decide) rfl) (Wd.g rfl rfl rfl) rfl rfl hqn31 ?_
          refine LH.take 20 (by kernel_rfl) rfl (by kernel_rfl) (by kernel_rfl) (by kernel_rfl) (fun Hq hq => Y.load1 (vg.pt.nw hq) rfl Try.isAgg9 rfl) (Wd.g rfl rfl rfl) rfl rfl hqn31 ?_
          refine LH.one (i := 16) (by kernel_rfl) ?_
          -- call selvage/rename.near
          refine LO.call rfl rfl Try.call31 rfl (Wd.g rfl rfl rfl) rfl rfl (near_ct gone[i].p (rest[(pst gone[i] rest k).toNat]'(by omega)).p w0 _ hpi (hpc _ (hri _ (List.getElem_mem _)))) (fun v43 H43 r43 => ?_)
          obtain ⟨rfl, hs43⟩ := r43
          replace hg := hg.nw hs43
          replace hc := hc.nw hs43
          replace hx := fun x hx0 => (hx x hx0).nw hs43
          replace hy := fun x hy0 => (hy x hy0).nw hs43
          replace orr := orr.nw hs43
          replace op := op.nw hs43
          replace ol := ol.nw hs43
          replace vf := vf.nw hs43
          replace vg := vg.nw hs43
          replace hm0 := hm0.tr hs43
          replace hlm1 := hlm1.trN hs43
          replace hlm2 := hlm2.tr hs43
          have hz9 := hs43.size
          have hq43 := hqn31.tr hs43
          refine ⟨.inr hq43, LH.narrow (SH2 := fun Hq => Nw H43 Hq) (fun Hq hq => hq43.tr hq) ?_⟩
          have hqn43 := Nw.refl H43
          refine LH.one (i := 21) (by kernel_rfl) ?_
          -- call selvage/rename.near
          refine LO.call rfl rfl Try.call31 rfl (Wd.g rfl rfl rfl) rfl rfl (near_ct gone[i].p rest[k].p w0 _ hpi hpk) (fun v48 H48 r48 => ?_)
          obtain ⟨rfl, hs48⟩ := r48
          replace hg := hg.nw hs48
          replace hc := hc.nw hs48
          replace hx := fun x hx0 => (hx x hx0).nw hs48
          replace hy := fun x hy0 => (hy x hy0).nw hs48
          replace orr := orr.nw hs48
          replace op := op.nw hs48
          replace ol := ol.nw hs48
          replace vf := vf.nw hs48
          replace vg := vg.nw hs48
          replace hm0 := hm0.tr hs48
          replace hlm1 := hlm1.trN hs48
          replace hlm2 := hlm2.tr hs48
          have hz10 := hs48.size
          have hq48 := hqn43.tr hs48
          refine ⟨.inr hq48, LH.narrow (SH2 := fun Hq => Nw H48 Hq) (fun Hq hq => hq48.tr hq) ?_⟩
          have hqn48 := Nw.refl H48
          refine LH.take 22 (by kernel_rfl) rfl (by kernel_rfl) (by kernel_rfl) (by kernel_rfl) (fun Hq hq => Y.gtr rfl rfl rfl) (Wd.g rfl rfl rfl) rfl rfl hqn48 ?_
          refine LH.take 23 (by kernel_rfl) rfl (by kernel_rfl) (by kernel_rfl) (by kernel_rfl) (fun Hq hq => Y.pick_f rfl rfl rfl) (Wd.g rfl rfl rfl) rfl rfl hqn48 ?_
          refine LH.take 24 (by kernel_rfl) rfl (by kernel_rfl) (by kernel_rfl) (by kernel_rfl) (fun Hq hq => Y.pick_t rfl rfl rfl) (Wd.u rfl) rfl rfl hqn48 ?_
          refine LH.done (by kernel_rfl) ?_
          have hqe := hqn48
          refine hK22 _ _ ?_
          refine CW.condp rfl (fun c51 => ?_) (fun c51 => ?_)
          ·
            refine CW.region ?_
            refine LR.v (Y.move rfl rfl) (Wd.u rfl) rfl rfl ?_
            refine LR.v (Y.assign rfl rfl) (Wd.u rfl) rfl rfl ?_
            refine LR.nil ?_
            refine hK20 _ _ ?_
            refine hK19 _ _ ?_
            refine CW.region ?_
            refine LR.v (Y.addi rfl rfl rfl (by omega)) (Wd.u rfl) rfl rfl ?_
            refine LR.v (Y.move rfl rfl) (Wd.u rfl) rfl rfl ?_
            refine LR.nil ?_
            have hps := pst_hit hkl2 (by assumption) (by first | exact .inl (by assumption) | exact .inr ⟨by omega, by assumption⟩)
            refine QN.sub (hN16 (k + 1) _ ?_ ?_) ⟨rfl, rfl, rfl, rfl, (iv (by omega)), rfl, (iv (by omega)), (iv (by omega)), rfl, (iv (by omega)), (iv (by omega)), trivial⟩
            · exact ⟨(by omega), hlm2⟩
            · first | omega | (simp only; omega) | (simp; omega)
          ·
            refine CW.skip ?_
            refine hK20 _ _ ?_
            refine hK19 _ _ ?_
            refine CW.region ?_
            refine LR.v (Y.addi rfl rfl rfl (by omega)) (Wd.u rfl) rfl rfl ?_
            refine LR.v (Y.move rfl rfl) (Wd.u rfl) rfl rfl ?_
            refine LR.nil ?_
            have hps := pst_miss (f := gone[i]) hkl2 (by rintro ⟨h1, h2 | ⟨h2, h3⟩⟩ <;> first | contradiction | exact absurd h3 c51)
            refine QN.sub (hN16 (k + 1) _ ?_ ?_) ⟨rfl, rfl, rfl, rfl, (iv (by omega)), rfl, (iv (by omega)), (iv (by omega)), rfl, (iv (by omega)), (iv (by omega)), trivial⟩
            · exact ⟨(by omega), hlm2⟩
            · first | omega | (simp only; omega) | (simp; omega)
      ·
        refine LH.gs 6 (by kernel_rfl) rfl (by kernel_rfl) (by kernel_rfl) (by kernel_rfl) rfl rfl rfl rfl rfl rfl hqn31 ?_
        refine LH.gs 7 (by kernel_rfl) rfl (by kernel_rfl) (by kernel_rfl) (by kernel_rfl) rfl rfl rfl rfl rfl rfl hqn31 ?_
        refine LH.gs 8 (by kernel_rfl) rfl (by kernel_rfl) (by kernel_rfl) (by kernel_rfl) rfl rfl rfl rfl rfl rfl hqn31 ?_
        refine LH.gsu 9 (by kernel_rfl) rfl (by kernel_rfl) (by kernel_rfl) (by kernel_rfl) rfl rfl rfl rfl rfl hqn31 ?_
        refine LH.gsu 10 (by kernel_rfl) rfl (by kernel_rfl) (by kernel_rfl) (by kernel_rfl) rfl rfl rfl rfl rfl hqn31 ?_
        refine LH.gsu 11 (by kernel_rfl) rfl (by kernel_rfl) (by kernel_rfl) (by kernel_rfl) rfl rfl rfl rfl rfl hqn31 ?_
        refine LH.gsu 12 (by kernel_rfl) rfl (by kernel_rfl) (by kernel_rfl) (by kernel_rfl) rfl rfl rfl rfl rfl hqn31 ?_
        refine LH.gsu 13 (by kernel_rfl) rfl (by kernel_rfl) (by kernel_rfl) (by kernel_rfl) rfl rfl rfl rfl rfl hqn31 ?_
        refine LH.gsu 14 (by kernel_rfl) rfl (by kernel_rfl) (by kernel_rfl) (by kernel_rfl) rfl rfl rfl rfl rfl hqn31 ?_
        refine LH.gsu 15 (by kernel_rfl) rfl (by kernel_rfl) (by kernel_rfl) (by kernel_rfl) rfl rfl rfl rfl rfl hqn31 ?_
        refine LH.gsu 16 (by kernel_rfl) rfl (by kernel_rfl) (by kernel_rfl) (by kernel_rfl) rfl rfl rfl rfl rfl hqn31 ?_
        refine LH.gsu 17 (by kernel_rfl) rfl (by kernel_rfl) (by kernel_rfl) (by kernel_rfl) rfl rfl rfl rfl rfl hqn31 ?_
        refine LH.gsu 18 (by kernel_rfl) rfl (by kernel_rfl) (by kernel_rfl) (by kernel_rfl) rfl rfl rfl rfl rfl hqn31 ?_
        refine LH.gsu 19 (by kernel_rfl) rfl (by kernel_rfl) (by kernel_rfl) (by kernel_rfl) rfl rfl rfl rfl rfl hqn31 ?_
        refine LH.gsu 20 (by kernel_rfl) rfl (by kernel_rfl) (by kernel_rfl) (by kernel_rfl) rfl rfl rfl rfl rfl hqn31 ?_
        refine LH.gsu 21 (by kernel_rfl) rfl (by kernel_rfl) (by kernel_rfl) (by kernel_rfl) rfl rfl rfl rfl rfl hqn31 ?_
        refine LH.gsu 22 (by kernel_rfl) rfl (by kernel_rfl) (by kernel_rfl) (by kernel_rfl) rfl rfl rfl rfl rfl hqn31 ?_
        refine LH.gs 23 (by kernel_rfl) rfl (by kernel_rfl) (by kernel_rfl) (by kernel_rfl) rfl rfl rfl rfl rfl rfl hqn31 ?_
        refine LH.take 24 (by kernel_rfl) rfl (by kernel_rfl) (by kernel_rfl) (by kernel_rfl) (fun Hq hq => Y.pick_f rfl rfl rfl) (Wd.u rfl) rfl rfl hqn31 ?_
        refine LH.done (by kernel_rfl) ?_
        have hqe := hqn31
        refine hK22 _ _ ?_
        refine CW.cond_f rfl ?_
        refine CW.skip ?_
        refine hK20 _ _ ?_
        refine hK19 _ _ ?_
        refine CW.region ?_
        refine LR.v (Y.addi rfl rfl rfl (by omega)) (Wd.u rfl) rfl rfl ?_
        refine LR.v (Y.move rfl rfl) (Wd.u rfl) rfl rfl ?_
        refine LR.nil ?_
        have hps := pst_miss (f := gone[i]) hkl2 (by rintro ⟨h1, h2 | ⟨h2, h3⟩⟩ <;> first | contradiction | exact absurd h3 c51)
        refine QN.sub (hN16 (k + 1) _ ?_ ?_) ⟨rfl, rfl, rfl, rfl, (iv (by omega)), rfl, (iv (by omega)), (iv (by omega)), rfl, (iv (by omega)), (iv (by omega)), trivial⟩
        · exact ⟨(by omega), hlm2⟩
        · first | omega | (simp only; omega) | (simp; omega)
    ·
      have hkr2 : k = rest.length := by omega
      have hpr := pst_rng gone[i] rest k
      have hpl := pst_lt gone[i] rest k
      refine CW.exit (hE18 (.exit 2) nofun _ _ (hE16 (.exit 2) nofun _ _ (hX15 _ _ ?_)))
      refine hK13 _ _ ?_
      refine CW.seq (fun K23 hK23 hE23 => ?_)
      refine CW.seq (fun K24 hK24 hE24 => ?_)
      refine CW.region ?_
      refine LR.v (Y.move rfl rfl) (Wd.u rfl) rfl rfl ?_
      refine LR.v (Y.lss rfl rfl rfl) (Wd.u rfl) rfl rfl ?_
      refine LR.nil ?_
      refine hK24 _ _ ?_
      refine CW.condp rfl (fun c55 => ?_) (fun c55 => ?_)
      ·
        refine CW.seq (fun K25 hK25 hE25 => ?_)
        refine CW.region ?_
        refine LR.v (Y.move rfl rfl) (Wd.u rfl) rfl rfl ?_
        refine LR.v (Y.loadN (vf.pt) rfl Try.isAgg35 Try.sizeOf35 (rfl) rfl) (Wd.u rfl) rfl rfl ?_
        refine LR.z (Z.litw _ ([gone[i]]) rfl inf26 rfl rfl rfl (by decide) (by decide) fFl_len fFl_one (rfl)) (Wd.u rfl) rfl rfl (fun v58 H58 r58 => ?_)
        obtain ⟨nw58, hs58, ob58, hH58⟩ := r58
        have hzs58 : H58.size = HL2.size + 1 := by rw [hH58]; simp
        have df48 := (DF.new (bf_hg.mono hm0.size) : DF _ (HL2.size + 1))
        have df49 := (DF.new (bf_hc.mono hm0.size) : DF _ (HL2.size + 1))
        have df50 := (DF.new (bf_hx.mono hm0.size) : DF _ (HL2.size + 1))
        have df51 := (DF.new (bf_hy.mono hm0.size) : DF _ (HL2.size + 1))
        have dj52 : Dj kr (HL2.size + 1) := Dj.new orr.le
        have dj53 : Dj kp (HL2.size + 1) := Dj.new op.le
        have dj54 : Dj kl (HL2.size + 1) := Dj.new ol.le
        have dj55 : Dj (HL1.size + 1) (HL2.size + 1) := Dj.new vf.lt
        have nx56 : Nx 0 H0.size (HL2.size + 1) := Nx.new hm0.size
        have nx57 : Nx 0 H13.size (HL2.size + 1) := Nx.new hlm1.size
        replace hg := hg.nw hs58
        replace hc := hc.nw hs58
        replace hx := fun x hx0 => (hx x hx0).nw hs58
        replace hy := fun x hy0 => (hy x hy0).nw hs58
        replace orr := orr.nw hs58
        replace op := op.nw hs58
        replace ol := ol.nw hs58
        replace vf := vf.nw hs58
        replace hm0 := hm0.tr hs58
        replace hlm1 := hlm1.trN hs58
        have hz11 := hs58.size
        refine LR.z (Z.apnd ol nw58.rd rfl inf26 rfl rfl (by simp; omega) (by simp; omega)) (Wd.u rfl) rfl rfl (fun v59 H59 r59 => ?_)
        obtain ⟨k59, ol, hk59, hs59⟩ := r59
        replace hk59 : Nx kl H58.size k59 := hk59
        replace hs59 := hs59.md
        have df58 := DF.app (df11) (bf_hg.mono hm0.size) hk59
        have df59 := DF.app (df12) (bf_hc.mono hm0.size) hk59
        have df60 := DF.app (df13) (bf_hx.mono hm0.size) hk59
        have df61 := DF.app (df14) (bf_hy.mono hm0.size) hk59
        have dj62 : Dj kr k59 := Dj.app (dj23.symm) orr.le hk59
        have dj63 : Dj kp k59 := Dj.app (dj21) op.le hk59
        have dj64 : Dj (HL1.size + 1) k59 := Dj.app (dj33.symm) vf.lt hk59
        have dj65 : Dj (HL2.size + 1) k59 := Dj.app (dj54.symm) nw58.le hk59
        have nx66 : Nx 0 H0.size k59 := Nx.tr (nx15) hk59 hm0.size
        have nx67 : Nx 0 H13.size k59 := Nx.tr (nx25) hk59 hlm1.size
        replace hg := hg.upL hs59 (DFL.cons df11 DFL.nil)
        replace hc := hc.upL hs59 (DFL.cons df12 DFL.nil)
        replace hx := fun x hx0 => (hx x hx0).upL hs59 (DFL.cons df13 DFL.nil)
        replace hy := fun x hy0 => (hy x hy0).upL hs59 (DFL.cons df14 DFL.nil)
        replace orr := orr.upL hs59 (DL.cons dj23.symm DL.nil)
        replace op := op.upL hs59 (DL.cons dj21 DL.nil)
        replace vf := vf.upL hs59 (DL.cons dj33.symm DL.nil)
        replace nw58 := nw58.upL hs59 (DL.cons dj54.symm DL.nil)
        replace hm0 := (Mo.trL (ks := []) (hm0.mdn []) hs59 (MIL.cons (MI.app MI.z (nx15) (Nat.le_refl _)) MIL.nil)).nil
        replace hlm1 := hlm1.trL hs59 (MIL.cons (MI.app MI.z (nx25) (Nat.le_refl _)) MIL.nil)
        have hz12 := hs59.size
        have hle_ol := ol.le
        refine LR.v (Y.assign rfl rfl) (Wd.u rfl) rfl rfl ?_
        refine LR.nil ?_
        refine hK25 _ _ ?_
        refine CW.exit (hE23 (.exit 1) nofun _ _ (hX10 _ _ ?_))
        refine hK9 _ _ ?_
        refine CW.region ?_
        refine LR.v (Y.addi rfl rfl rfl (by omega)) (Wd.u rfl) rfl rfl ?_
        refine LR.v (Y.move rfl rfl) (Wd.u rfl) rfl rfl ?_
        refine LR.nil ?_
        refine QN.sub (hN6 (i + 1, vp, kp, v59, k59, vr, kr, ps, left ++ [gone[i]], rest) _ ?_ ?_) ⟨rfl, rfl, rfl, rfl, (iv (by omega)), (iv (by omega)), trivial⟩
        · exact ⟨(by omega), op, ol, orr, by rw [exL_step hil, he, exStep_no (by simp only [← hkr2]; exact c55)], nx24, nx67, nx26, dj63, dj22, dj62.symm, hlm1⟩
        · first | omega | (simp only; omega) | (simp; omega)
      ·
        obtain ⟨q, hqq⟩ : ∃ q : Nat, pst gone[i] rest k = q := ⟨(pst gone[i] rest k).toNat, by omega⟩
        have hql : q < rest.length := by omega
        refine CW.skip ?_
        refine hK23 _ _ ?_
        refine CW.seq (fun K26 hK26 hE26 => ?_)
        refine CW.region_any (fun Hq => Mo (Ms [kp]) HL2 Hq) [] rfl ?_
        have hq14 : Mo (Ms [kp]) HL2 HL2 := Mo.refl _ _
        have nx68 := Nx.refl kp HL2.size
        refine LH.take 0 (by kernel_rfl) rfl (by kernel_rfl) (by kernel_rfl) (by kernel_rfl) (fun Hq hq => Y.move rfl rfl) (Wd.u rfl) rfl rfl hq14 ?_
        refine LH.take 1 (by kernel_rfl) rfl (by kernel_rfl) (by kernel_rfl) (by kernel_rfl) (fun Hq hq => Y.fieldAddr (vf.upL hq (DL.cons dj32.symm DL.nil)).pt rfl Try.runUnderlying35 rfl rfl Try.sizeOf9 (by decide) rfl) (Wd.u rfl) rfl rfl hq14 ?_
        refine LH.take 2 (by kernel_rfl) rfl (by kernel_rfl) (by kernel_rfl) (by kernel_rfl) (fun Hq hq => Y.load1 (vf.upL hq (DL.cons dj32.symm DL.nil)).pt rfl Try.isAgg9 rfl) (Wd.u rfl) rfl rfl hq14 ?_
        refine LH.take 3 (by kernel_rfl) rfl (by kernel_rfl) (by kernel_rfl) (by kernel_rfl) (fun Hq hq => Y.move rfl rfl) (Wd.u rfl) rfl rfl hq14 ?_
        refine LH.take 4 (by kernel_rfl) rfl (by kernel_rfl) (by kernel_rfl) (by kernel_rfl) (fun Hq hq => Y.move rfl rfl) (Wd.u rfl) rfl rfl hq14 ?_
        refine LH.take 5 (by kernel_rfl) rfl (by kernel_rfl) (by kernel_rfl) (by kernel_rfl) (fun Hq hq => Y.owAddr (orr.upL hq (DL.cons dj22.symm DL.nil)) (q) rfl Try.runUnderlying26 Try.sizeOf35 rfl rfl hqq (by first | omega | (simp; omega) | (simp; done))) (Wd.u rfl) rfl rfl hq14 ?_
        refine LH.take 6 (by kernel_rfl) rfl (by kernel_rfl) (by kernel_rfl) (by kernel_rfl) (fun Hq hq => Y.fieldAddr ((orr.upL hq (DL.cons dj22.symm DL.nil)).pt (j := q) (by first | omega | (simp; omega) | (simp; done))) rfl Try.runUnderlying35 rfl rfl Try.sizeOf9 (by decide) rfl) (Wd.u rfl) rfl rfl hq14 ?_
        refine LH.take 7 (by kernel_rfl) rfl (by kernel_rfl) (by kernel_rfl) (by kernel_rfl) (fun Hq hq => Y.load1 (((orr.upL hq (DL.cons dj22.symm DL.nil)).pt (j := q) (by first | omega | (simp; omega) | (simp; done))).drop 0) rfl Try.isAgg9 rfl) (Wd.u rfl) rfl rfl hq14 ?_
        refine LH.take 8 (by kernel_rfl) rfl (by kernel_rfl) (by kernel_rfl) (by kernel_rfl) (fun Hq hq => Y.build (v := .agg (fPr ⟨gone[i].p, rest[q].p, 100⟩).toArray) rfl rfl (by intro w; kernel_rfl)) (Wd.u rfl) rfl rfl hq14 ?_
        refine LH.one (i := 9) (by kernel_rfl) ?_
        refine LO.z rfl (Z.litw _ ([(⟨gone[i].p, rest[q].p, 100⟩ : Pr)]) rfl inf31 rfl rfl rfl (by decide) (by decide) fPr_len fPr_one (rfl)) (Wd.u rfl) rfl rfl (fun v69 H69 r69 => ?_)
        obtain ⟨nw69, hs69, ob69, hH69⟩ := r69
        have hzs69 : H69.size = HL2.size + 1 := by rw [hH69]; simp
        have df69 := (DF.new (bf_hg.mono hm0.size) : DF _ (HL2.size + 1))
        have df70 := (DF.new (bf_hc.mono hm0.size) : DF _ (HL2.size + 1))
        have df71 := (DF.new (bf_hx.mono hm0.size) : DF _ (HL2.size + 1))
        have df72 := (DF.new (bf_hy.mono hm0.size) : DF _ (HL2.size + 1))
        have dj73 : Dj kr (HL2.size + 1) := Dj.new orr.le
        have dj74 : Dj kp (HL2.size + 1) := Dj.new op.le
        have dj75 : Dj kl (HL2.size + 1) := Dj.new ol.le
        have dj76 : Dj (HL1.size + 1) (HL2.size + 1) := Dj.new vf.lt
        have nx77 : Nx 0 H0.size (HL2.size + 1) := Nx.new hm0.size
        have nx78 : Nx 0 H13.size (HL2.size + 1) := Nx.new hlm1.size
        have nx79 : Nx 0 HL2.size (HL2.size + 1) := Nx.new hq14.size
        replace hg := hg.nw hs69
        replace hc := hc.nw hs69
        replace hx := fun x hx0 => (hx x hx0).nw hs69
        replace hy := fun x hy0 => (hy x hy0).nw hs69
        replace orr := orr.nw hs69
        replace op := op.nw hs69
        replace ol := ol.nw hs69
        replace vf := vf.nw hs69
        replace hm0 := hm0.tr hs69
        replace hlm1 := hlm1.trN hs69
        replace hq14 := hq14.trN hs69
        have hz13 := hs69.size
        refine ⟨.inr hq14, LH.narrow (SH2 := fun Hq => Mo (Ms [kp, (HL2.size + 1)]) H69 Hq) (fun Hq hq => hq14.trL hq (MIL.cons (MI.app (MI.root (by simp)) (nx68) (Nat.le_refl _)) (MIL.cons (MI.app MI.z (nx79) (Nat.le_refl _)) MIL.nil))) ?_⟩
        have hq14 : Mo (Ms [kp, (HL2.size + 1)]) H69 H69 := Mo.refl _ _
        have nx80 := Nx.refl kp H69.size
        have nx81 := Nx.refl (HL2.size + 1) H69.size
        refine LH.one (i := 10) (by kernel_rfl) ?_
        refine LO.z rfl (Z.apnd op nw69.rd rfl inf31 rfl rfl (by simp; omega) (by simp; omega)) (Wd.u rfl) rfl rfl (fun v70 H70 r70 => ?_)
        obtain ⟨k70, op, hk70, hs70⟩ := r70
        replace hk70 : Nx kp H69.size k70 := hk70
        replace hs70 := hs70.md
        have df82 := DF.app (df6) (bf_hg.mono hm0.size) hk70
        have df83 := DF.app (df7) (bf_hc.mono hm0.size) hk70
        have df84 := DF.app (df8) (bf_hx.mono hm0.size) hk70
        have df85 := DF.app (df9) (bf_hy.mono hm0.size) hk70
        have dj86 : Dj kr k70 := Dj.app (dj22.symm) orr.le hk70
        have dj87 : Dj kl k70 := Dj.app (dj21.symm) ol.le hk70
        have dj88 : Dj (HL1.size + 1) k70 := Dj.app (dj32.symm) vf.lt hk70
        have dj89 : Dj (HL2.size + 1) k70 := Dj.app (dj74.symm) nw69.le hk70
        have nx90 : Nx 0 H0.size k70 := Nx.tr (nx10) hk70 hm0.size
        have nx91 : Nx 0 H13.size k70 := Nx.tr (nx24) hk70 hlm1.size
        have nx92 : Nx kp H69.size k70 := Nx.tr (nx80) hk70 hq14.size
        replace hg := hg.upL hs70 (DFL.cons df6 DFL.nil)
        replace hc := hc.upL hs70 (DFL.cons df7 DFL.nil)
        replace hx := fun x hx0 => (hx x hx0).upL hs70 (DFL.cons df8 DFL.nil)
        replace hy := fun x hy0 => (hy x hy0).upL hs70 (DFL.cons df9 DFL.nil)
        replace orr := orr.upL hs70 (DL.cons dj22.symm DL.nil)
        replace ol := ol.upL hs70 (DL.cons dj21.symm DL.nil)
        replace vf := vf.upL hs70 (DL.cons dj32.symm DL.nil)
        replace nw69 := nw69.upL hs70 (DL.cons dj74.symm DL.nil)
        replace hm0 := (Mo.trL (ks := []) (hm0.mdn []) hs70 (MIL.cons (MI.app MI.z (nx10) (Nat.le_refl _)) MIL.nil)).nil
        replace hlm1 := hlm1.trL hs70 (MIL.cons (MI.app MI.z (nx24) (Nat.le_refl _)) MIL.nil)
        replace hq14 := hq14.trL hs70 (MIL.cons (MI.app (MI.root (by simp)) (nx80) (Nat.le_refl _)) MIL.nil)
        have hz14 := hs70.size
        have hle_op := op.le
        refine ⟨.inr hq14, LH.narrow (SH2 := fun Hq => Mo (Ms [k70, (HL2.size + 1)]) H70 Hq) (fun Hq hq => hq14.trL hq (MIL.cons (MI.app (MI.root (by simp)) (nx92) (Nat.le_refl _)) (MIL.cons (MI.app (MI.root (by simp)) (nx81) (Nat.le_refl _)) MIL.nil))) ?_⟩
        have hq14 : Mo (Ms [k70, (HL2.size + 1)]) H70 H70 := Mo.refl _ _
        have nx93 := Nx.refl k70 H70.size
        have nx94 := Nx.refl (HL2.size + 1) H70.size
        refine LH.take 11 (by kernel_rfl) rfl (by kernel_rfl) (by kernel_rfl) (by kernel_rfl) (fun Hq hq => Y.assign rfl rfl) (Wd.u rfl) rfl rfl hq14 ?_
        refine LH.done (by kernel_rfl) ?_
        refine hK26 _ _ ?_
        refine CW.region ?_
        refine LR.v (Y.move rfl rfl) (Wd.u rfl) rfl rfl ?_
        refine LR.v (Y.cast (v2 := .int .i64 q) (Y.move rfl rfl) (by rw [hqq])) (Wd.u rfl) rfl rfl ?_
        refine LR.v (Y.cast (v2 := .int .i64 q) (Y.move rfl rfl) (by rw [hqq])) (Wd.u rfl) rfl rfl ?_
        refine LR.v (Y.addi rfl rfl rfl (by omega)) (Wd.u rfl) rfl rfl ?_
        -- call slices.Delete[[]selvage/api.File,selvage/api.File]
        refine LR.call rfl Try.call44 rfl (Wd.u rfl) rfl rfl (delete_ct kr vr rest q w0 _ orr hql) (fun v75 H75 r75 => ?_)
        have ql95 := orr.le
        have ql96 := op.le
        have ql97 := ol.le
        obtain ⟨v75, kr75, rfl, orr, hk75, hs75⟩ := r75
        have df98 := DF.app (df16) (bf_hg.mono hm0.size) hk75
        have df99 := DF.app (df17) (bf_hc.mono hm0.size) hk75
        have df100 := DF.app (df18) (bf_hx.mono hm0.size) hk75
        have df101 := DF.app (df19) (bf_hy.mono hm0.size) hk75
        have dj102 : Dj k70 kr75 := Dj.app (dj86.symm) ql96 hk75
        have dj103 : Dj kl kr75 := Dj.app (dj23) ql97 hk75
        have nx104 : Nx 0 H0.size kr75 := Nx.tr (nx20) hk75 hm0.size
        have nx105 : Nx kr0 H13.size kr75 := Nx.tr (nx26) hk75 hlm1.size
        replace hg := hg.upL hs75 (DFL.cons df16 DFL.nil)
        replace hc := hc.upL hs75 (DFL.cons df17 DFL.nil)
        replace hx := fun x hx0 => (hx x hx0).upL hs75 (DFL.cons df18 DFL.nil)
        replace hy := fun x hy0 => (hy x hy0).upL hs75 (DFL.cons df19 DFL.nil)
        replace op := op.upL hs75 (DL.cons dj86.symm DL.nil)
        replace ol := ol.upL hs75 (DL.cons dj23 DL.nil)
        replace hm0 := (Mo.trL (ks := []) (hm0.mdn []) hs75 (MIL.cons (MI.app MI.z (nx20) (Nat.le_refl _)) MIL.nil)).nil
        replace hlm1 := hlm1.trL hs75 (MIL.cons (MI.app (MI.root (by simp)) (nx26) (Nat.le_refl _)) MIL.nil)
        have hz15 := hs75.size
        have hle_orr := orr.le
        refine LR.v (Y.assign rfl rfl) (Wd.u rfl) rfl rfl ?_
        refine LR.nil ?_
        refine hK10 _ _ ?_
        refine hK9 _ _ ?_
        refine CW.region ?_
        refine LR.v (Y.addi rfl rfl rfl (by omega)) (Wd.u rfl) rfl rfl ?_
        refine LR.v (Y.move rfl rfl) (Wd.u rfl) rfl rfl ?_
        refine LR.nil ?_
        refine QN.sub (hN6 (i + 1, v70, k70, vl, kl, v75, kr75, ps ++ [⟨gone[i].p, rest[q].p, 100⟩], left, rest.eraseIdx q) _ ?_ ?_) ⟨rfl, rfl, rfl, rfl, (iv (by omega)), (iv (by omega)), trivial⟩
        · exact ⟨(by omega), op, ol, orr, by rw [exL_step hil, he, exStep_yes (by simp only [← hkr2]; exact hqq) hql], nx91, nx25, nx105, dj87.symm, dj102, dj103, hlm1⟩
        · first | omega | (simp only; omega) | (simp; omega)
  ·
    have hil : i = gone.length := by omega
    rw [hil, List.take_length] at he
    refine CW.exit (hE8 (.exit 0) nofun _ _ (hE6 (.exit 0) nofun _ _ (hX5 _ _ ?_)))
    refine hK3 _ _ ?_
    refine CW.seq (fun K27 hK27 hE27 => ?_)
    refine CW.region ?_
    refine LR.v (Y.move rfl rfl) (Wd.u rfl) rfl rfl ?_
    refine LR.v (Y.move rfl rfl) (Wd.u rfl) rfl rfl ?_
    refine LR.v (Y.move rfl rfl) (Wd.u rfl) rfl rfl ?_
    refine LR.v (Y.assign rfl rfl) (Wd.u rfl) rfl rfl ?_
    refine LR.v (Y.assign rfl rfl) (Wd.u rfl) rfl rfl ?_
    refine LR.v (Y.assign rfl rfl) (Wd.u rfl) rfl rfl ?_
    refine LR.nil ?_
    refine hK27 _ _ ?_
    refine CW.ret (hret .ret (.inr rfl) _ _ _ (res3 rfl rfl rfl rfl) ?_)
    exact ⟨vp, kp, vl, kl, vr, kr, rfl, by rw [he]; exact op, by rw [he]; exact ol, by rw [he]; exact orr, nx10, nx15, nx20, dj21, dj22, dj23, hm0⟩

end Go.Proofs.Ytclhnkmkejijjaa.RenD
