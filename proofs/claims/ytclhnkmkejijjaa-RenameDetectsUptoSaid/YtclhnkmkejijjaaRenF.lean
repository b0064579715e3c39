/-
  The pairs of some changes, as the program tells them: the walk.
-/
import Derived.Test.YtclhnkmkejijjaaRenE
namespace Go.Proofs.Ytclhnkmkejijjaa.RenF
open Go.Proofs.Ytclhnkmkejijjaa.E Go.RowKit Go.Proofs.Ytclhnkmkejijjaa.RenA Go.Proofs.Ytclhnkmkejijjaa.RenB Go.Proofs.Ytclhnkmkejijjaa.RenC Go.Proofs.Ytclhnkmkejijjaa.RenD Go.Proofs.Ytclhnkmkejijjaa.RenE
set_option maxRecDepth 20000
set_option linter.unusedVariables false
set_option linter.unusedSimpArgs false
set_option linter.unusedSectionVars false
set_option maxRecDepth 100000 in
theorem inf26 : Inf Try.prog 26 35 3 48 := ⟨Try.underlying26, _, _, rfl, rfl, rfl, rfl, rfl⟩
set_option maxRecDepth 100000 in
theorem inf31 : Inf Try.prog 31 38 3 40 := ⟨Try.underlying31, _, _, rfl, rfl, rfl, rfl, rfl⟩
set_option maxRecDepth 100000 in
theorem inf58 : Inf Try.prog 58 61 4 48 := ⟨Try.underlying58, _, _, rfl, rfl, rfl, rfl, rfl⟩

theorem exL_left {cs : List Ch} {ps : List Pr} {left rest : List Fl} {F : Nat → Prop} {H : Heap} (hE : exL (goneL cs) (comeL cs) = (ps, left, rest)) (h : ∀ c ∈ cs, FlR F H c.o) {x : Fl} (hx : x ∈ left) : FlR (fun _ => True) H x := by
  have h1 := (exL_mem (gone := goneL cs) (come := comeL cs)).1
  rw [hE] at h1
  obtain ⟨c, hc, rfl, _⟩ := goneL_mem (h1 x hx)
  exact (h c hc).any
theorem exL_rest {cs : List Ch} {ps : List Pr} {left rest : List Fl} {F : Nat → Prop} {H : Heap} (hE : exL (goneL cs) (comeL cs) = (ps, left, rest)) (h : ∀ c ∈ cs, FlR F H c.n) {x : Fl} (hx : x ∈ rest) : FlR (fun _ => True) H x := by
  have h1 := (exL_mem (gone := goneL cs) (come := comeL cs)).2
  rw [hE] at h1
  obtain ⟨c, hc, rfl, _⟩ := comeL_mem (h1 x hx)
  exact (h c hc).any
theorem exL_leftP {cs : List Ch} {ps : List Pr} {left rest : List Fl} {Q : Fl → Prop} (hE : exL (goneL cs) (comeL cs) = (ps, left, rest)) (h : ∀ c ∈ cs, Q c.o ∧ Q c.n) : (∀ x ∈ left, Q x) ∧ ∀ x ∈ rest, Q x := by
  have h1 := exL_mem (gone := goneL cs) (come := comeL cs)
  rw [hE] at h1
  refine ⟨fun x hx => ?_, fun x hx => ?_⟩
  · obtain ⟨c, hc, rfl, _⟩ := goneL_mem (h1.1 x hx); exact (h c hc).1
  · obtain ⟨c, hc, rfl, _⟩ := comeL_mem (h1.2 x hx); exact (h c hc).2
theorem map_in {m : List (List UInt8 × Int)} {F : List (List UInt8)} {x : List UInt8} (h : ∀ s, (mget m s).getD 0 = 0 ↔ ¬ s ∈ F) : ∀ s, (mget (mput m x 1) s).getD 0 = 0 ↔ ¬ s ∈ x :: F := by
  intro s
  rw [mget_put]
  by_cases e : s = x
  · simp [e]
  · rw [if_neg e, h s]; simp [e]

set_option maxHeartbeats 8000000 in
theorem detect_ct (v : Value) (cs : List Ch) (w0 : World) (H0 : Heap)
    (hl : RdT H0 fCh 6 v cs) (hxo : ∀ c ∈ cs, FlR (fun _ => True) H0 c.o) (hxn : ∀ c ∈ cs, FlR (fun _ => True) H0 c.n) (hcl : cs.length ≤ 1048576) (hbd : ∀ c ∈ cs, (c.o.p.length ≤ 9223372036854775806 ∧ c.o.d.length ≤ 1048576) ∧ (c.n.p.length ≤ 9223372036854775806 ∧ c.n.d.length ≤ 1048576)) :
    Ct Try.prog w0 17 #[v] H0 (fun r H2 => ∃ vr : Value, ∃ kr : Nat, ∃ out : List Pr, r = vr ∧ (Ow kr 38 H2 fPr 3 vr out) ∧ (Nx 0 H0.size kr) ∧ (DetP cs out) ∧ Nw H0 H2) := by
  refine Ct.enter (args := [v]) Try.func17 rfl rfl rfl ?_
  intro Q0 hret
  have hm0 : Nw H0 H0 := Mo.refl _ _
  replace hl := hl.bnd
  have bf_hl := Rd.bf hl
  replace hxo := fun c hx0 => (hxo c hx0).bnd
  have bf_hxo : BF (fun b => True ∧ b < H0.size) H0.size := fun b h => h.2
  replace hxn := fun c hx1 => (hxn c hx1).bnd
  have bf_hxn : BF (fun b => True ∧ b < H0.size) H0.size := fun b h => h.2
  refine CW.seq (fun K1 hK1 hE1 => ?_)
  refine CW.region ?_
  refine LR.v (Y.assign rfl rfl) (Wd.u rfl) rfl rfl ?_
  refine LR.nil ?_
  refine hK1 _ _ ?_
  refine CW.seq (fun K2 hK2 hE2 => ?_)
  refine CW.region ?_
  refine LR.v (Y.assign rfl rfl) (Wd.u rfl) rfl rfl ?_
  refine LR.v (Y.assign rfl rfl) (Wd.u rfl) rfl rfl ?_
  refine LR.nil ?_
  refine hK2 _ _ ?_
  refine CW.seq (fun K3 hK3 hE3 => ?_)
  refine CW.seq (fun K4 hK4 hE4 => ?_)
  refine CW.region ?_
  refine LR.v (Y.move rfl rfl) (Wd.u rfl) rfl rfl ?_
  refine LR.v (Y.len hl rfl Try.runUnderlying28 rfl) (Wd.u rfl) rfl rfl ?_
  refine LR.v (Y.move rfl rfl) (Wd.u rfl) rfl rfl ?_
  refine LR.nil ?_
  refine hK4 _ _ ?_
  refine CW.block (fun K5 hK5 hX5 hE5 => ?_)
  refine CW.loop (fun (s_ : (Nat) × (Value) × (Nat) × (Value) × (Nat) × (List Fl) × (List Fl)) => match s_ with | (i, vg, kg, vc, kc, gone, come) => [(3, vg), (4, vc), (18, v), (19, .int .i64 cs.length), (20, .int .i64 i)])
    (fun (s_ : (Nat) × (Value) × (Nat) × (Value) × (Nat) × (List Fl) × (List Fl)) (H : Heap) => match s_ with | (i, vg, kg, vc, kc, gone, come) => (i ≤ cs.length) ∧ (Ow kg 35 H fFl 3 vg gone) ∧ (Ow kc 35 H fFl 3 vc come) ∧ (goneL (cs.take i) = gone) ∧ (comeL (cs.take i) = come) ∧ (Nx 0 H0.size kg) ∧ (Nx 0 H0.size kc) ∧ (Dj kg kc) ∧ Nw H0 H)
    (fun (s_ : (Nat) × (Value) × (Nat) × (Value) × (Nat) × (List Fl) × (List Fl)) => match s_ with | (i, vg, kg, vc, kc, gone, come) => cs.length - i) (0, .slice none 0 0, 0, .slice none 0 0, 0, [], []) ⟨rfl, rfl, rfl, rfl, rfl, trivial⟩ ?_ ?_
  ·
    exact ⟨(by omega), Ow.nil fFl_len fFl_one, Ow.nil fFl_len fFl_one, rfl, rfl, Nx.refl _ _, Nx.refl _ _, Dj.z, Mo.refl _ _⟩
  rintro ⟨i, vg, kg, vc, kc, gone, come⟩ HL1 hI1 K6 hN6 hE6
  obtain ⟨hi, og, oc, hg, hc, nxl_og, nxl_oc, dj_og_oc, hlm1⟩ := hI1
  have df1 := DF.app (DF.z) (bf_hl.mono hm0.size) nxl_og
  have df2 := DF.app (DF.z) (bf_hxo.mono hm0.size) nxl_og
  have df3 := DF.app (DF.z) (bf_hxn.mono hm0.size) nxl_og
  have nx4 : Nx 0 H0.size kg := Nx.tr (Nx.refl 0 _) nxl_og hm0.size
  have df5 := DF.app (DF.z) (bf_hl.mono hm0.size) nxl_oc
  have df6 := DF.app (DF.z) (bf_hxo.mono hm0.size) nxl_oc
  have df7 := DF.app (DF.z) (bf_hxn.mono hm0.size) nxl_oc
  have nx8 : Nx 0 H0.size kc := Nx.tr (Nx.refl 0 _) nxl_oc hm0.size
  replace hl := hl.nw hlm1
  replace hxo := fun c hx0 => (hxo c hx0).nw hlm1
  replace hxn := fun c hx1 => (hxn c hx1).nw hlm1
  replace hm0 := hm0.tr hlm1
  have hz1 := hlm1.size
  have hle_og := og.le
  have hle_oc := oc.le
  have dj9 := dj_og_oc
  have nx10 := nxl_og
  have nx11 := nxl_oc
  refine CW.seq (fun K7 hK7 hE7 => ?_)
  refine CW.region ?_
  refine LR.v (Y.lss rfl rfl rfl) (Wd.u rfl) rfl rfl ?_
  refine LR.nil ?_
  refine hK7 _ _ ?_
  refine CW.seq (fun K8 hK8 hE8 => ?_)
  refine CW.condp rfl (fun c21 => ?_) (fun c21 => ?_)
  ·
    refine CW.skip ?_
    refine hK8 _ _ ?_
    refine CW.seq (fun K9 hK9 hE9 => ?_)
    refine CW.block (fun K10 hK10 hX10 hE10 => ?_)
    refine CW.seq (fun K11 hK11 hE11 => ?_)
    refine CW.region ?_
    have hil : i < cs.length := by omega
    have hgl : gone.length ≤ i := by rw [← hg]; have h9 := goneL_len (cs.take i); rw [List.length_take] at h9; omega
    have hcl2 : come.length ≤ i := by rw [← hc]; have h9 := comeL_len (cs.take i); rw [List.length_take] at h9; omega
    refine LR.e (g := fun ad => .pointer (some ad)) (Y.indexAddrF hl (i) rfl Try.runUnderlying28 Try.sizeOf49 rfl rfl (by first | rfl | omega) (by first | omega | (simp; omega) | (simp; done))) (Wd.u rfl) rfl rfl (fun ad22 pt22 => ?_)
    have bf_pt22 := bf_hl
    refine LR.v (Y.loadN pt22.pt rfl Try.isAgg49 Try.sizeOf49 (rfl) rfl) (Wd.u rfl) rfl rfl ?_
    refine LR.z (Z.allocv rfl Try.zeroValue49) (Wd.u rfl) rfl rfl (fun v6 H6 r6 => ?_)
    obtain ⟨rfl, vf, hs6, ob6, hH6⟩ := r6
    have hzs6 : H6.size = HL1.size + 1 := by rw [hH6]; simp
    have df12 := (DF.new (bf_hl.mono hm0.size) : DF _ (HL1.size + 1))
    have df13 := (DF.new (bf_hxo.mono hm0.size) : DF _ (HL1.size + 1))
    have df14 := (DF.new (bf_hxn.mono hm0.size) : DF _ (HL1.size + 1))
    have dj15 : Dj kg (HL1.size + 1) := Dj.new og.le
    have dj16 : Dj kc (HL1.size + 1) := Dj.new oc.le
    have df17 := (DF.new (bf_pt22.mono hm0.size) : DF _ (HL1.size + 1))
    have nx18 : Nx 0 H0.size (HL1.size + 1) := Nx.new hm0.size
    have nx19 : Nx 0 H0.size (HL1.size + 1) := Nx.new hlm1.size
    replace hl := hl.nw hs6
    replace hxo := fun c hx0 => (hxo c hx0).nw hs6
    replace hxn := fun c hx1 => (hxn c hx1).nw hs6
    replace og := og.nw hs6
    replace oc := oc.nw hs6
    replace pt22 := pt22.nw hs6
    replace hm0 := hm0.tr hs6
    replace hlm1 := hlm1.tr hs6
    have hz2 := hs6.size
    refine LR.s (S.var vf (_) (fCh cs[i]) rfl rfl rfl rfl (fCh_one cs[i]) Try.sizeOf49 (rfl) (Nat.le_of_ble_eq_true rfl) (rfl)) (Wd.u rfl) rfl (fun H4_3 r4_3 => ?_)
    obtain ⟨vf, hs4_3⟩ := r4_3
    replace hs4_3 := hs4_3.md1
    replace hl := hl.upL hs4_3 (DFL.cons df12 DFL.nil)
    replace hxo := fun c hx0 => (hxo c hx0).upL hs4_3 (DFL.cons df13 DFL.nil)
    replace hxn := fun c hx1 => (hxn c hx1).upL hs4_3 (DFL.cons df14 DFL.nil)
    replace og := og.upL hs4_3 (DL.cons dj15 DL.nil)
    replace oc := oc.upL hs4_3 (DL.cons dj16 DL.nil)
    replace pt22 := pt22.upL hs4_3 (DFL.cons df17 DFL.nil)
    replace hm0 := (Mo.trL (ks := []) (hm0.mdn []) hs4_3 (MIL.cons (MI.app MI.z (nx18) (Nat.le_refl _)) MIL.nil)).nil
    replace hlm1 := (Mo.trL (ks := []) (hlm1.mdn []) hs4_3 (MIL.cons (MI.app MI.z (nx19) (Nat.le_refl _)) MIL.nil)).nil
    have hz3 := hs4_3.size
    refine LR.nil ?_
    refine hK11 _ _ ?_
    refine CW.block (fun K12 hK12 hX12 hE12 => ?_)
    refine CW.seq (fun K13 hK13 hE13 => ?_)
    refine CW.region ?_
    refine LR.v (Y.fieldAddr vf.pt rfl Try.runUnderlying49 rfl rfl Try.sizeOf35 (by decide) rfl) (Wd.u rfl) rfl rfl ?_
    refine LR.v (Y.fieldAddr (vf.pt.drop 3) rfl Try.runUnderlying35 rfl rfl Try.sizeOf3 (by decide) rfl) (Wd.u rfl) rfl rfl ?_
    refine LR.v (Y.load1 (vf.pt.drop 4) rfl Try.isAgg3 rfl) (Wd.u rfl) rfl rfl ?_
    refine LR.v (Y.eql rfl rfl rfl) (Wd.u rfl) rfl rfl ?_
    refine LR.v (Y.move rfl rfl) (Wd.u rfl) rfl rfl ?_
    refine LR.splitp (d := 29) rfl (fun g29 => ?_) (fun g29 => ?_)
    ·
      refine LR.v (Y.fieldAddr vf.pt rfl Try.runUnderlying49 rfl rfl Try.sizeOf35 (by decide) rfl) (Wd.g rfl rfl rfl) rfl rfl ?_
      refine LR.v (Y.cast (v2 := .agg (fFl cs[i].o).toArray) (Y.loadN (vf.pt.take 3) rfl Try.isAgg35 Try.sizeOf35 (rfl) rfl) (rfl)) (Wd.g rfl rfl rfl) rfl rfl ?_
      -- call selvage/rename.counts
      refine LR.call rfl Try.call29 rfl (Wd.g rfl rfl rfl) rfl rfl (cnt_ct cs[i].o w0 _ (hxo cs[i] (List.getElem_mem hil)).any) (fun v32 H32 r32 => ?_)
      obtain ⟨rfl, hs32⟩ := r32
      replace hl := hl.nw hs32
      replace hxo := fun c hx0 => (hxo c hx0).nw hs32
      replace hxn := fun c hx1 => (hxn c hx1).nw hs32
      replace og := og.nw hs32
      replace oc := oc.nw hs32
      replace vf := vf.nw hs32
      replace hm0 := hm0.tr hs32
      replace hlm1 := hlm1.tr hs32
      have hz4 := hs32.size
      refine LR.v (Y.pick_t rfl rfl rfl) (Wd.u rfl) rfl rfl ?_
      refine LR.v (Y.assign rfl rfl) (Wd.u rfl) rfl rfl ?_
      refine LR.nil ?_
      refine hK13 _ _ ?_
      refine CW.cond rfl (fun c24 => ?_) (fun c24 => ?_)
      ·
        refine CW.region ?_
        refine LR.v (Y.move rfl rfl) (Wd.u rfl) rfl rfl ?_
        refine LR.v (Y.fieldAddr vf.pt rfl Try.runUnderlying49 rfl rfl Try.sizeOf35 (by decide) rfl) (Wd.u rfl) rfl rfl ?_
        refine LR.v (Y.cast (v2 := .agg (fFl cs[i].o).toArray) (Y.loadN (vf.pt.take 3) rfl Try.isAgg35 Try.sizeOf35 (rfl) rfl) (rfl)) (Wd.u rfl) rfl rfl ?_
        refine LR.z (Z.litw _ ([cs[i].o]) rfl inf26 rfl rfl rfl (by decide) (by decide) fFl_len fFl_one (rfl)) (Wd.u rfl) rfl rfl (fun v37 H37 r37 => ?_)
        obtain ⟨nw37, hs37, ob37, hH37⟩ := r37
        have hzs37 : H37.size = H32.size + 1 := by rw [hH37]; simp
        have df20 := (DF.new (bf_hl.mono hm0.size) : DF _ (H32.size + 1))
        have df21 := (DF.new (bf_hxo.mono hm0.size) : DF _ (H32.size + 1))
        have df22 := (DF.new (bf_hxn.mono hm0.size) : DF _ (H32.size + 1))
        have dj23 : Dj kg (H32.size + 1) := Dj.new og.le
        have dj24 : Dj kc (H32.size + 1) := Dj.new oc.le
        have dj25 : Dj (HL1.size + 1) (H32.size + 1) := Dj.new vf.lt
        have nx26 : Nx 0 H0.size (H32.size + 1) := Nx.new hm0.size
        have nx27 : Nx 0 H0.size (H32.size + 1) := Nx.new hlm1.size
        replace hl := hl.nw hs37
        replace hxo := fun c hx0 => (hxo c hx0).nw hs37
        replace hxn := fun c hx1 => (hxn c hx1).nw hs37
        replace og := og.nw hs37
        replace oc := oc.nw hs37
        replace vf := vf.nw hs37
        replace hm0 := hm0.tr hs37
        replace hlm1 := hlm1.tr hs37
        have hz5 := hs37.size
        refine LR.z (Z.apnd og nw37.rd rfl inf26 rfl rfl (by simp; omega) (by simp; omega)) (Wd.u rfl) rfl rfl (fun v38 H38 r38 => ?_)
        obtain ⟨k38, og, hk38, hs38⟩ := r38
        replace hk38 : Nx kg H37.size k38 := hk38
        replace hs38 := hs38.md
        have df28 := DF.app (df1) (bf_hl.mono hm0.size) hk38
        have df29 := DF.app (df2) (bf_hxo.mono hm0.size) hk38
        have df30 := DF.app (df3) (bf_hxn.mono hm0.size) hk38
        have dj31 : Dj kc k38 := Dj.app (dj9.symm) oc.le hk38
        have dj32 : Dj (HL1.size + 1) k38 := Dj.app (dj15.symm) vf.lt hk38
        have dj33 : Dj (H32.size + 1) k38 := Dj.app (dj23.symm) nw37.le hk38
        have nx34 : Nx 0 H0.size k38 := Nx.tr (nx4) hk38 hm0.size
        have nx35 : Nx 0 H0.size k38 := Nx.tr (nx10) hk38 hlm1.size
        replace hl := hl.upL hs38 (DFL.cons df1 DFL.nil)
        replace hxo := fun c hx0 => (hxo c hx0).upL hs38 (DFL.cons df2 DFL.nil)
        replace hxn := fun c hx1 => (hxn c hx1).upL hs38 (DFL.cons df3 DFL.nil)
        replace oc := oc.upL hs38 (DL.cons dj9.symm DL.nil)
        replace vf := vf.upL hs38 (DL.cons dj15.symm DL.nil)
        replace nw37 := nw37.upL hs38 (DL.cons dj23.symm DL.nil)
        replace hm0 := (Mo.trL (ks := []) (hm0.mdn []) hs38 (MIL.cons (MI.app MI.z (nx4) (Nat.le_refl _)) MIL.nil)).nil
        replace hlm1 := (Mo.trL (ks := []) (hlm1.mdn []) hs38 (MIL.cons (MI.app MI.z (nx10) (Nat.le_refl _)) MIL.nil)).nil
        have hz6 := hs38.size
        have hle_og := og.le
        refine LR.v (Y.assign rfl rfl) (Wd.u rfl) rfl rfl ?_
        refine LR.nil ?_
        refine hK12 _ _ ?_
        refine hK10 _ _ ?_
        refine hK9 _ _ ?_
        refine CW.region ?_
        refine LR.v (Y.addi rfl rfl rfl (by omega)) (Wd.u rfl) rfl rfl ?_
        refine LR.v (Y.move rfl rfl) (Wd.u rfl) rfl rfl ?_
        refine LR.nil ?_
        refine QN.sub (hN6 (i + 1, v38, k38, vc, kc, gone ++ [cs[i].o], come) _ ?_ ?_) ⟨rfl, rfl, rfl, (iv (by omega)), (iv (by omega)), trivial⟩
        · exact ⟨(by omega), og, oc, by rw [goneL_step hil, if_pos ⟨g29, c24⟩, hg], by rw [comeL_step hil, if_neg (fun h => cntF_k c24 h.1), hc], nx35, nx11, dj31.symm, hlm1⟩
        · first | omega | (simp only; omega) | (simp; omega)
      ·
        refine CW.seq (fun K14 hK14 hE14 => ?_)
        refine CW.region ?_
        refine LR.v (Y.fieldAddr vf.pt rfl Try.runUnderlying49 rfl rfl Try.sizeOf35 (by decide) rfl) (Wd.u rfl) rfl rfl ?_
        refine LR.v (Y.fieldAddr vf.pt rfl Try.runUnderlying35 rfl rfl Try.sizeOf3 (by decide) rfl) (Wd.u rfl) rfl rfl ?_
        refine LR.v (Y.load1 (vf.pt.drop 1) rfl Try.isAgg3 rfl) (Wd.u rfl) rfl rfl ?_
        refine LR.v (Y.eql rfl rfl rfl) (Wd.u rfl) rfl rfl ?_
        refine LR.v (Y.move rfl rfl) (Wd.u rfl) rfl rfl ?_
        refine LR.splitp (d := 44) rfl (fun g44 => ?_) (fun g44 => ?_)
        ·
          refine LR.v (Y.fieldAddr vf.pt rfl Try.runUnderlying49 rfl rfl Try.sizeOf35 (by decide) rfl) (Wd.g rfl rfl rfl) rfl rfl ?_
          refine LR.v (Y.cast (v2 := .agg (fFl cs[i].n).toArray) (Y.loadN (vf.pt.drop 3) rfl Try.isAgg35 Try.sizeOf35 (rfl) rfl) (rfl)) (Wd.g rfl rfl rfl) rfl rfl ?_
          -- call selvage/rename.counts
          refine LR.call rfl Try.call29 rfl (Wd.g rfl rfl rfl) rfl rfl (cnt_ct cs[i].n w0 _ (hxn cs[i] (List.getElem_mem hil)).any) (fun v47 H47 r47 => ?_)
          obtain ⟨rfl, hs47⟩ := r47
          replace hl := hl.nw hs47
          replace hxo := fun c hx0 => (hxo c hx0).nw hs47
          replace hxn := fun c hx1 => (hxn c hx1).nw hs47
          replace og := og.nw hs47
          replace oc := oc.nw hs47
          replace vf := vf.nw hs47
          replace hm0 := hm0.tr hs47
          replace hlm1 := hlm1.tr hs47
          have hz7 := hs47.size
          refine LR.v (Y.pick_t rfl rfl rfl) (Wd.u rfl) rfl rfl ?_
          refine LR.v (Y.assign rfl rfl) (Wd.u rfl) rfl rfl ?_
          refine LR.nil ?_
          refine hK14 _ _ ?_
          refine CW.cond rfl (fun c39 => ?_) (fun c39 => ?_)
          ·
            refine CW.region ?_
            refine LR.v (Y.move rfl rfl) (Wd.u rfl) rfl rfl ?_
            refine LR.v (Y.fieldAddr vf.pt rfl Try.runUnderlying49 rfl rfl Try.sizeOf35 (by decide) rfl) (Wd.u rfl) rfl rfl ?_
            refine LR.v (Y.cast (v2 := .agg (fFl cs[i].n).toArray) (Y.loadN (vf.pt.drop 3) rfl Try.isAgg35 Try.sizeOf35 (rfl) rfl) (rfl)) (Wd.u rfl) rfl rfl ?_
            refine LR.z (Z.litw _ ([cs[i].n]) rfl inf26 rfl rfl rfl (by decide) (by decide) fFl_len fFl_one (rfl)) (Wd.u rfl) rfl rfl (fun v52 H52 r52 => ?_)
            obtain ⟨nw52, hs52, ob52, hH52⟩ := r52
            have hzs52 : H52.size = H47.size + 1 := by rw [hH52]; simp
            have df36 := (DF.new (bf_hl.mono hm0.size) : DF _ (H47.size + 1))
            have df37 := (DF.new (bf_hxo.mono hm0.size) : DF _ (H47.size + 1))
            have df38 := (DF.new (bf_hxn.mono hm0.size) : DF _ (H47.size + 1))
            have dj39 : Dj kg (H47.size + 1) := Dj.new og.le
            have dj40 : Dj kc (H47.size + 1) := Dj.new oc.le
            have dj41 : Dj (HL1.size + 1) (H47.size + 1) := Dj.new vf.lt
            have nx42 : Nx 0 H0.size (H47.size + 1) := Nx.new hm0.size
            have nx43 : Nx 0 H0.size (H47.size + 1) := Nx.new hlm1.size
            replace hl := hl.nw hs52
            replace hxo := fun c hx0 => (hxo c hx0).nw hs52
            replace hxn := fun c hx1 => (hxn c hx1).nw hs52
            replace og := og.nw hs52
            replace oc := oc.nw hs52
            replace vf := vf.nw hs52
            replace hm0 := hm0.tr hs52
            replace hlm1 := hlm1.tr hs52
            have hz8 := hs52.size
            refine LR.z (Z.apnd oc nw52.rd rfl inf26 rfl rfl (by simp; omega) (by simp; omega)) (Wd.u rfl) rfl rfl (fun v53 H53 r53 => ?_)
            obtain ⟨k53, oc, hk53, hs53⟩ := r53
            replace hk53 : Nx kc H52.size k53 := hk53
            replace hs53 := hs53.md
            have df44 := DF.app (df5) (bf_hl.mono hm0.size) hk53
            have df45 := DF.app (df6) (bf_hxo.mono hm0.size) hk53
            have df46 := DF.app (df7) (bf_hxn.mono hm0.size) hk53
            have dj47 : Dj kg k53 := Dj.app (dj9) og.le hk53
            have dj48 : Dj (HL1.size + 1) k53 := Dj.app (dj16.symm) vf.lt hk53
            have dj49 : Dj (H47.size + 1) k53 := Dj.app (dj40.symm) nw52.le hk53
            have nx50 : Nx 0 H0.size k53 := Nx.tr (nx8) hk53 hm0.size
            have nx51 : Nx 0 H0.size k53 := Nx.tr (nx11) hk53 hlm1.size
            replace hl := hl.upL hs53 (DFL.cons df5 DFL.nil)
            replace hxo := fun c hx0 => (hxo c hx0).upL hs53 (DFL.cons df6 DFL.nil)
            replace hxn := fun c hx1 => (hxn c hx1).upL hs53 (DFL.cons df7 DFL.nil)
            replace og := og.upL hs53 (DL.cons dj9 DL.nil)
            replace vf := vf.upL hs53 (DL.cons dj16.symm DL.nil)
            replace nw52 := nw52.upL hs53 (DL.cons dj40.symm DL.nil)
            replace hm0 := (Mo.trL (ks := []) (hm0.mdn []) hs53 (MIL.cons (MI.app MI.z (nx8) (Nat.le_refl _)) MIL.nil)).nil
            replace hlm1 := (Mo.trL (ks := []) (hlm1.mdn []) hs53 (MIL.cons (MI.app MI.z (nx11) (Nat.le_refl _)) MIL.nil)).nil
            have hz9 := hs53.size
            have hle_oc := oc.le
            refine LR.v (Y.assign rfl rfl) (Wd.u rfl) rfl rfl ?_
            refine LR.nil ?_
            refine hK12 _ _ ?_
            refine hK10 _ _ ?_
            refine hK9 _ _ ?_
            refine CW.region ?_
            refine LR.v (Y.addi rfl rfl rfl (by omega)) (Wd.u rfl) rfl rfl ?_
            refine LR.v (Y.move rfl rfl) (Wd.u rfl) rfl rfl ?_
            refine LR.nil ?_
            refine QN.sub (hN6 (i + 1, vg, kg, v53, k53, gone, come ++ [cs[i].n]) _ ?_ ?_) ⟨rfl, rfl, rfl, (iv (by omega)), (iv (by omega)), trivial⟩
            · exact ⟨(by omega), og, oc, by rw [goneL_step hil, if_neg (by rintro ⟨h1, h2⟩; first | contradiction | (rw [h2] at c24; contradiction)), hg], by rw [comeL_step hil, if_pos ⟨g44, c39⟩, hc], nx10, nx51, dj47, hlm1⟩
            · first | omega | (simp only; omega) | (simp; omega)
          ·
            refine CW.skip ?_
            refine hK12 _ _ ?_
            refine hK10 _ _ ?_
            refine hK9 _ _ ?_
            refine CW.region ?_
            refine LR.v (Y.addi rfl rfl rfl (by omega)) (Wd.u rfl) rfl rfl ?_
            refine LR.v (Y.move rfl rfl) (Wd.u rfl) rfl rfl ?_
            refine LR.nil ?_
            refine QN.sub (hN6 (i + 1, vg, kg, vc, kc, gone, come) _ ?_ ?_) ⟨rfl, rfl, rfl, (iv (by omega)), (iv (by omega)), trivial⟩
            · exact ⟨(by omega), og, oc, by rw [goneL_step hil, if_neg (by rintro ⟨h1, h2⟩; first | contradiction | (rw [h2] at c24; contradiction)), hg], by rw [comeL_step hil, if_neg (by rintro ⟨h1, h2⟩; first | contradiction | (rw [h2] at c39; contradiction)), hc], nx10, nx11, dj9, hlm1⟩
            · first | omega | (simp only; omega) | (simp; omega)
        ·
          refine LR.gs rfl rfl rfl rfl rfl rfl ?_
          refine LR.gs rfl rfl rfl rfl rfl rfl ?_
          refine LR.gs rfl rfl rfl rfl rfl rfl ?_
          refine LR.v (Y.pick_f rfl rfl rfl) (Wd.u rfl) rfl rfl ?_
          refine LR.v (Y.assign rfl rfl) (Wd.u rfl) rfl rfl ?_
          refine LR.nil ?_
          refine hK14 _ _ ?_
          refine CW.cond_f rfl ?_
          refine CW.skip ?_
          refine hK12 _ _ ?_
          refine hK10 _ _ ?_
          refine hK9 _ _ ?_
          refine CW.region ?_
          refine LR.v (Y.addi rfl rfl rfl (by omega)) (Wd.u rfl) rfl rfl ?_
          refine LR.v (Y.move rfl rfl) (Wd.u rfl) rfl rfl ?_
          refine LR.nil ?_
          refine QN.sub (hN6 (i + 1, vg, kg, vc, kc, gone, come) _ ?_ ?_) ⟨rfl, rfl, rfl, (iv (by omega)), (iv (by omega)), trivial⟩
          · exact ⟨(by omega), og, oc, by rw [goneL_step hil, if_neg (by rintro ⟨h1, h2⟩; first | contradiction | (rw [h2] at c24; contradiction)), hg], by rw [comeL_step hil, if_neg (by rintro ⟨h1, h2⟩; first | contradiction | (rw [h2] at c39; contradiction)), hc], nx10, nx11, dj9, hlm1⟩
          · first | omega | (simp only; omega) | (simp; omega)
    ·
      refine LR.gs rfl rfl rfl rfl rfl rfl ?_
      refine LR.gs rfl rfl rfl rfl rfl rfl ?_
      refine LR.gs rfl rfl rfl rfl rfl rfl ?_
      refine LR.v (Y.pick_f rfl rfl rfl) (Wd.u rfl) rfl rfl ?_
      refine LR.v (Y.assign rfl rfl) (Wd.u rfl) rfl rfl ?_
      refine LR.nil ?_
      refine hK13 _ _ ?_
      refine CW.cond_f rfl ?_
      refine CW.seq (fun K15 hK15 hE15 => ?_)
      refine CW.region ?_
      refine LR.v (Y.fieldAddr vf.pt rfl Try.runUnderlying49 rfl rfl Try.sizeOf35 (by decide) rfl) (Wd.u rfl) rfl rfl ?_
      refine LR.v (Y.fieldAddr vf.pt rfl Try.runUnderlying35 rfl rfl Try.sizeOf3 (by decide) rfl) (Wd.u rfl) rfl rfl ?_
      refine LR.v (Y.load1 (vf.pt.drop 1) rfl Try.isAgg3 rfl) (Wd.u rfl) rfl rfl ?_
      refine LR.v (Y.eql rfl rfl rfl) (Wd.u rfl) rfl rfl ?_
      refine LR.v (Y.move rfl rfl) (Wd.u rfl) rfl rfl ?_
      refine LR.splitp (d := 44) rfl (fun g44 => ?_) (fun g44 => ?_)
      ·
        refine LR.v (Y.fieldAddr vf.pt rfl Try.runUnderlying49 rfl rfl Try.sizeOf35 (by decide) rfl) (Wd.g rfl rfl rfl) rfl rfl ?_
        refine LR.v (Y.cast (v2 := .agg (fFl cs[i].n).toArray) (Y.loadN (vf.pt.drop 3) rfl Try.isAgg35 Try.sizeOf35 (rfl) rfl) (rfl)) (Wd.g rfl rfl rfl) rfl rfl ?_
        -- call selvage/rename.counts
        refine LR.call rfl Try.call29 rfl (Wd.g rfl rfl rfl) rfl rfl (cnt_ct cs[i].n w0 _ (hxn cs[i] (List.getElem_mem hil)).any) (fun v47 H47 r47 => ?_)
        obtain ⟨rfl, hs47⟩ := r47
        replace hl := hl.nw hs47
        replace hxo := fun c hx0 => (hxo c hx0).nw hs47
        replace hxn := fun c hx1 => (hxn c hx1).nw hs47
        replace og := og.nw hs47
        replace oc := oc.nw hs47
        replace vf := vf.nw hs47
        replace hm0 := hm0.tr hs47
        replace hlm1 := hlm1.tr hs47
        have hz10 := hs47.size
        refine LR.v (Y.pick_t rfl rfl rfl) (Wd.u rfl) rfl rfl ?_
        refine LR.v (Y.assign rfl rfl) (Wd.u rfl) rfl rfl ?_
        refine LR.nil ?_
        refine hK15 _ _ ?_
        refine CW.cond rfl (fun c39 => ?_) (fun c39 => ?_)
        ·
          refine CW.region ?_
          refine LR.v (Y.move rfl rfl) (Wd.u rfl) rfl rfl ?_
          refine LR.v (Y.fieldAddr vf.pt rfl Try.runUnderlying49 rfl rfl Try.sizeOf35 (by decide) rfl) (Wd.u rfl) rfl rfl ?_
          refine LR.v (Y.cast (v2 := .agg (fFl cs[i].n).toArray) (Y.loadN (vf.pt.drop 3) rfl Try.isAgg35 Try.sizeOf35 (rfl) rfl) (rfl)) (Wd.u rfl) rfl rfl ?_
          refine LR.z (Z.litw _ ([cs[i].n]) rfl inf26 rfl rfl rfl (by decide) (by decide) fFl_len fFl_one (rfl)) (Wd.u rfl) rfl rfl (fun v52 H52 r52 => ?_)
          obtain ⟨nw52, hs52, ob52, hH52⟩ := r52
          have hzs52 : H52.size = H47.size + 1 := by rw [hH52]; simp
          have df52 := (DF.new (bf_hl.mono hm0.size) : DF _ (H47.size + 1))
          have df53 := (DF.new (bf_hxo.mono hm0.size) : DF _ (H47.size + 1))
          have df54 := (DF.new (bf_hxn.mono hm0.size) : DF _ (H47.size + 1))
          have dj55 : Dj kg (H47.size + 1) := Dj.new og.le
          have dj56 : Dj kc (H47.size + 1) := Dj.new oc.le
          have dj57 : Dj (HL1.size + 1) (H47.size + 1) := Dj.new vf.lt
          have nx58 : Nx 0 H0.size (H47.size + 1) := Nx.new hm0.size
          have nx59 : Nx 0 H0.size (H47.size + 1) := Nx.new hlm1.size
          replace hl := hl.nw hs52
          replace hxo := fun c hx0 => (hxo c hx0).nw hs52
          replace hxn := fun c hx1 => (hxn c hx1).nw hs52
          replace og := og.nw hs52
          replace oc := oc.nw hs52
          replace vf := vf.nw hs52
          replace hm0 := hm0.tr hs52
          replace hlm1 := hlm1.tr hs52
          have hz11 := hs52.size
          refine LR.z (Z.apnd oc nw52.rd rfl inf26 rfl rfl (by simp; omega) (by simp; omega)) (Wd.u rfl) rfl rfl (fun v53 H53 r53 => ?_)
          obtain ⟨k53, oc, hk53, hs53⟩ := r53
          replace hk53 : Nx kc H52.size k53 := hk53
          replace hs53 := hs53.md
          have df60 := DF.app (df5) (bf_hl.mono hm0.size) hk53
          have df61 := DF.app (df6) (bf_hxo.mono hm0.size) hk53
          have df62 := DF.app (df7) (bf_hxn.mono hm0.size) hk53
          have dj63 : Dj kg k53 := Dj.app (dj9) og.le hk53
          have dj64 : Dj (HL1.size + 1) k53 := Dj.app (dj16.symm) vf.lt hk53
          have dj65 : Dj (H47.size + 1) k53 := Dj.app (dj56.symm) nw52.le hk53
          have nx66 : Nx 0 H0.size k53 := Nx.tr (nx8) hk53 hm0.size
          have nx67 : Nx 0 H0.size k53 := Nx.tr (nx11) hk53 hlm1.size
          replace hl := hl.upL hs53 (DFL.cons df5 DFL.nil)
          replace hxo := fun c hx0 => (hxo c hx0).upL hs53 (DFL.cons df6 DFL.nil)
          replace hxn := fun c hx1 => (hxn c hx1).upL hs53 (DFL.cons df7 DFL.nil)
          replace og := og.upL hs53 (DL.cons dj9 DL.nil)
          replace vf := vf.upL hs53 (DL.cons dj16.symm DL.nil)
          replace nw52 := nw52.upL hs53 (DL.cons dj56.symm DL.nil)
          replace hm0 := (Mo.trL (ks := []) (hm0.mdn []) hs53 (MIL.cons (MI.app MI.z (nx8) (Nat.le_refl _)) MIL.nil)).nil
          replace hlm1 := (Mo.trL (ks := []) (hlm1.mdn []) hs53 (MIL.cons (MI.app MI.z (nx11) (Nat.le_refl _)) MIL.nil)).nil
          have hz12 := hs53.size
          have hle_oc := oc.le
          refine LR.v (Y.assign rfl rfl) (Wd.u rfl) rfl rfl ?_
          refine LR.nil ?_
          refine hK12 _ _ ?_
          refine hK10 _ _ ?_
          refine hK9 _ _ ?_
          refine CW.region ?_
          refine LR.v (Y.addi rfl rfl rfl (by omega)) (Wd.u rfl) rfl rfl ?_
          refine LR.v (Y.move rfl rfl) (Wd.u rfl) rfl rfl ?_
          refine LR.nil ?_
          refine QN.sub (hN6 (i + 1, vg, kg, v53, k53, gone, come ++ [cs[i].n]) _ ?_ ?_) ⟨rfl, rfl, rfl, (iv (by omega)), (iv (by omega)), trivial⟩
          · exact ⟨(by omega), og, oc, by rw [goneL_step hil, if_neg (by rintro ⟨h1, h2⟩; first | contradiction | (rw [h2] at c24; contradiction)), hg], by rw [comeL_step hil, if_pos ⟨g44, c39⟩, hc], nx10, nx67, dj63, hlm1⟩
          · first | omega | (simp only; omega) | (simp; omega)
        ·
          refine CW.skip ?_
          refine hK12 _ _ ?_
          refine hK10 _ _ ?_
          refine hK9 _ _ ?_
          refine CW.region ?_
          refine LR.v (Y.addi rfl rfl rfl (by omega)) (Wd.u rfl) rfl rfl ?_
          refine LR.v (Y.move rfl rfl) (Wd.u rfl) rfl rfl ?_
          refine LR.nil ?_
          refine QN.sub (hN6 (i + 1, vg, kg, vc, kc, gone, come) _ ?_ ?_) ⟨rfl, rfl, rfl, (iv (by omega)), (iv (by omega)), trivial⟩
          · exact ⟨(by omega), og, oc, by rw [goneL_step hil, if_neg (by rintro ⟨h1, h2⟩; first | contradiction | (rw [h2] at c24; contradiction)), hg], by rw [comeL_step hil, if_neg (by rintro ⟨h1, h2⟩; first | contradiction | (rw [h2] at c39; contradiction)), hc], nx10, nx11, dj9, hlm1⟩
          · first | omega | (simp only; omega) | (simp; omega)
      ·
        refine LR.gs rfl rfl rfl rfl rfl rfl ?_
        refine LR.gs rfl rfl rfl rfl rfl rfl ?_
        refine LR.gs rfl rfl rfl rfl rfl rfl ?_
        refine LR.v (Y.pick_f rfl rfl rfl) (Wd.u rfl) rfl rfl ?_
        refine LR.v (Y.assign rfl rfl) (Wd.u rfl) rfl rfl ?_
        refine LR.nil ?_
        refine hK15 _ _ ?_
        refine CW.cond_f rfl ?_
        refine CW.skip ?_
        refine hK12 _ _ ?_
        refine hK10 _ _ ?_
        refine hK9 _ _ ?_
        refine CW.region ?_
        refine LR.v (Y.addi rfl rfl rfl (by omega)) (Wd.u rfl) rfl rfl ?_
        refine LR.v (Y.move rfl rfl) (Wd.u rfl) rfl rfl ?_
        refine LR.nil ?_
        refine QN.sub (hN6 (i + 1, vg, kg, vc, kc, gone, come) _ ?_ ?_) ⟨rfl, rfl, rfl, (iv (by omega)), (iv (by omega)), trivial⟩
        · exact ⟨(by omega), og, oc, by rw [goneL_step hil, if_neg (by rintro ⟨h1, h2⟩; first | contradiction | (rw [h2] at c24; contradiction)), hg], by rw [comeL_step hil, if_neg (by rintro ⟨h1, h2⟩; first | contradiction | (rw [h2] at c39; contradiction)), hc], nx10, nx11, dj9, hlm1⟩
        · first | omega | (simp only; omega) | (simp; omega)
  ·
    have hil : i = cs.length := by omega
    rw [hil, List.take_length] at hg hc
    have hgl : gone.length ≤ cs.length := by rw [← hg]; exact goneL_len cs
    have hcl2 : come.length ≤ cs.length := by rw [← hc]; exact comeL_len cs
    refine CW.exit (hE8 (.exit 0) nofun _ _ (hE6 (.exit 0) nofun _ _ (hX5 _ _ ?_)))
    refine hK3 _ _ ?_
    refine CW.seq (fun K16 hK16 hE16 => ?_)
    refine CW.region ?_
    refine LR.v (Y.move rfl rfl) (Wd.u rfl) rfl rfl ?_
    refine LR.v (Y.move rfl rfl) (Wd.u rfl) rfl rfl ?_
    -- call selvage/rename.exact
    refine LR.call rfl Try.call30 rfl (Wd.u rfl) rfl rfl (exact_ct vg vc gone come w0 _ og.rd.any oc.rd.any (by rw [← hg]; intro x hx; obtain ⟨c, h1, rfl, _⟩ := goneL_mem hx; exact (hxo c h1).any) (by rw [← hc]; intro x hx; obtain ⟨c, h1, rfl, _⟩ := comeL_mem hx; exact (hxn c h1).any) (by omega) (by omega) (by rw [← hg]; intro x hx; obtain ⟨c, h1, rfl, _⟩ := goneL_mem hx; exact (hbd c h1).1.1) (by rw [← hc]; intro x hx; obtain ⟨c, h1, rfl, _⟩ := comeL_mem hx; exact (hbd c h1).2.1)) (fun v58 H58 r58 => ?_)
    obtain ⟨vp, kp, vl, kl, vr, kr, rfl, op, ol, orr, hkp58, hkl58, hkr58, d158, d258, d358, hs58⟩ := r58
    have df68 := DF.app (DF.z) (bf_hl.mono hm0.size) hkp58
    have df69 := DF.app (DF.z) (bf_hxo.mono hm0.size) hkp58
    have df70 := DF.app (DF.z) (bf_hxn.mono hm0.size) hkp58
    have dj71 : Dj kg kp := Dj.app (Dj.z) og.le hkp58
    have dj72 : Dj kc kp := Dj.app (Dj.z) oc.le hkp58
    have nx73 : Nx 0 H0.size kp := Nx.tr (Nx.refl 0 _) hkp58 hm0.size
    have df74 := DF.app (DF.z) (bf_hl.mono hm0.size) hkl58
    have df75 := DF.app (DF.z) (bf_hxo.mono hm0.size) hkl58
    have df76 := DF.app (DF.z) (bf_hxn.mono hm0.size) hkl58
    have dj77 : Dj kg kl := Dj.app (Dj.z) og.le hkl58
    have dj78 : Dj kc kl := Dj.app (Dj.z) oc.le hkl58
    have nx79 : Nx 0 H0.size kl := Nx.tr (Nx.refl 0 _) hkl58 hm0.size
    have df80 := DF.app (DF.z) (bf_hl.mono hm0.size) hkr58
    have df81 := DF.app (DF.z) (bf_hxo.mono hm0.size) hkr58
    have df82 := DF.app (DF.z) (bf_hxn.mono hm0.size) hkr58
    have dj83 : Dj kg kr := Dj.app (Dj.z) og.le hkr58
    have dj84 : Dj kc kr := Dj.app (Dj.z) oc.le hkr58
    have nx85 : Nx 0 H0.size kr := Nx.tr (Nx.refl 0 _) hkr58 hm0.size
    replace hl := hl.nw hs58
    replace hxo := fun c hx0 => (hxo c hx0).nw hs58
    replace hxn := fun c hx1 => (hxn c hx1).nw hs58
    replace og := og.nw hs58
    replace oc := oc.nw hs58
    replace hm0 := hm0.tr hs58
    have hz13 := hs58.size
    have hle_op := op.le
    have hle_ol := ol.le
    have hle_orr := orr.le
    obtain ⟨ps, left, rest, hE⟩ : ∃ a b c, exL gone come = (a, b, c) := ⟨_, _, _, rfl⟩
    rw [hE] at op ol orr
    simp only at op ol orr
    rw [← hg, ← hc] at hE
    have hln := exL_len (comeL cs) (goneL cs) (goneL cs).length
    rw [List.take_length, hE] at hln
    obtain ⟨hln1, hln2, hln3⟩ := hln
    simp only at hln1 hln2 hln3
    rw [hg] at hln1 hln2
    rw [hc] at hln3
    have hQ := exL_leftP (Q := fun x => x.p.length ≤ 9223372036854775806 ∧ x.d.length ≤ 1048576) hE hbd
    refine LR.v (Y.move rfl rfl) (Wd.u rfl) rfl rfl ?_
    refine LR.v (Y.extract rfl rfl rfl) (Wd.u rfl) rfl rfl ?_
    refine LR.v (Y.extract rfl rfl rfl) (Wd.u rfl) rfl rfl ?_
    refine LR.v (Y.extract rfl rfl rfl) (Wd.u rfl) rfl rfl ?_
    refine LR.v (Y.assign rfl rfl) (Wd.u rfl) rfl rfl ?_
    refine LR.v (Y.assign rfl rfl) (Wd.u rfl) rfl rfl ?_
    refine LR.v (Y.assign rfl rfl) (Wd.u rfl) rfl rfl ?_
    refine LR.nil ?_
    refine hK16 _ _ ?_
    refine CW.seq (fun K17 hK17 hE17 => ?_)
    refine CW.region ?_
    refine LR.v (Y.assign rfl rfl) (Wd.u rfl) rfl rfl ?_
    refine LR.nil ?_
    refine hK17 _ _ ?_
    refine CW.cut (fun (s_ : (Value) × (Nat) × (List Lk)) => match s_ with | (va, ka, all) => [(7, vp), (8, va)])
      (fun (s_ : (Value) × (Nat) × (List Lk)) (H : Heap) => match s_ with | (va, ka, all) => (Ow ka 61 H fLk 4 va all) ∧ (candG left rest = all) ∧ (all.length ≤ 20000) ∧ (Nx 0 H58.size ka) ∧ Nw H58 H) (fun K18 hK18 hE18 => ?_) ?_
    ·
      have hcm18 : Nw H58 H58 := Mo.refl _ _
      refine CW.cut (fun (b : (Bool)) => [(3, vl), (4, vr), (7, vp), (8, .slice none 0 0), (69, .bool b)])
        (fun (b : (Bool)) (H : Heap) => (b = decide (left.length ≤ 100 ∧ rest.length ≤ 100)) ∧ Nw H58 H) (fun K19 hK19 hE19 => ?_) ?_
      ·
        have hcm19 : Nw H58 H58 := Mo.refl _ _
        refine CW.region ?_
        refine LR.v (Y.move rfl rfl) (Wd.u rfl) rfl rfl ?_
        refine LR.v (Y.len ol.rd rfl Try.runUnderlying26 rfl) (Wd.u rfl) rfl rfl ?_
        refine LR.v (Y.leq rfl rfl rfl) (Wd.u rfl) rfl rfl ?_
        refine LR.v (Y.move rfl rfl) (Wd.u rfl) rfl rfl ?_
        refine LR.splitp (d := 65) rfl (fun g65 => ?_) (fun g65 => ?_)
        ·
          refine LR.v (Y.move rfl rfl) (Wd.g rfl rfl rfl) rfl rfl ?_
          refine LR.v (Y.len orr.rd rfl Try.runUnderlying26 rfl) (Wd.g rfl rfl rfl) rfl rfl ?_
          refine LR.v (Y.leq rfl rfl rfl) (Wd.g rfl rfl rfl) rfl rfl ?_
          refine LR.v (Y.pick_t rfl rfl rfl) (Wd.u rfl) rfl rfl ?_
          refine LR.nil ?_
          refine QN.sub (hK19 _ _ ?_) ⟨rfl, rfl, rfl, rfl, rfl, trivial⟩
          exact ⟨by by_cases h9 : rest.length ≤ 100 <;> simp [h9] <;> omega, hcm19⟩
        ·
          refine LR.gs rfl rfl rfl rfl rfl rfl ?_
          refine LR.gs rfl rfl rfl rfl rfl rfl ?_
          refine LR.gs rfl rfl rfl rfl rfl rfl ?_
          refine LR.v (Y.pick_f rfl rfl rfl) (Wd.u rfl) rfl rfl ?_
          refine LR.nil ?_
          refine QN.sub (hK19 false _ ?_) ⟨rfl, rfl, rfl, rfl, rfl, trivial⟩
          exact ⟨by simp; omega, hcm19⟩
      ·
        intro b Hcutr12 hIcutr12
        obtain ⟨hb, hlmcutr12⟩ := hIcutr12
        replace hl := hl.nw hlmcutr12
        replace hxo := fun c hx0 => (hxo c hx0).nw hlmcutr12
        replace hxn := fun c hx1 => (hxn c hx1).nw hlmcutr12
        replace og := og.nw hlmcutr12
        replace oc := oc.nw hlmcutr12
        replace op := op.nw hlmcutr12
        replace ol := ol.nw hlmcutr12
        replace orr := orr.nw hlmcutr12
        replace hm0 := hm0.tr hlmcutr12
        replace hcm18 := hcm18.tr hlmcutr12
        have hz14 := hlmcutr12.size
        refine CW.cond rfl (fun c69 => ?_) (fun c69 => ?_)
        ·
          have hLR : left.length ≤ 100 ∧ rest.length ≤ 100 := of_decide_eq_true (by rw [← hb]; exact c69)
          refine CW.seq (fun K20 hK20 hE20 => ?_)
          refine CW.region ?_
          refine LR.v (Y.move rfl rfl) (Wd.u rfl) rfl rfl ?_
          refine LR.v (Y.len ol.rd rfl Try.runUnderlying26 rfl) (Wd.u rfl) rfl rfl ?_
          refine LR.v (Y.move rfl rfl) (Wd.u rfl) rfl rfl ?_
          refine LR.nil ?_
          refine hK20 _ _ ?_
          refine CW.block (fun K21 hK21 hX21 hE21 => ?_)
          refine CW.loop (fun (s_ : (Nat) × (Value) × (Nat) × (List Lk)) => match s_ with | (i, va, ka, al) => [(4, vr), (7, vp), (8, va), (70, vl), (71, .int .i64 left.length), (72, .int .i64 i)])
            (fun (s_ : (Nat) × (Value) × (Nat) × (List Lk)) (H : Heap) => match s_ with | (i, va, ka, al) => (i ≤ left.length) ∧ (Ow ka 61 H fLk 4 va al) ∧ (candL (left.take i) rest = al) ∧ (al.length ≤ i * 100) ∧ (Nx 0 Hcutr12.size ka) ∧ Nw Hcutr12 H)
            (fun (s_ : (Nat) × (Value) × (Nat) × (List Lk)) => match s_ with | (i, va, ka, al) => left.length - i) (0, .slice none 0 0, 0, []) ⟨rfl, rfl, rfl, rfl, rfl, rfl, trivial⟩ ?_ ?_
          ·
            exact ⟨(by omega), Ow.nil fLk_len fLk_one, rfl, (by simp), Nx.refl _ _, Mo.refl _ _⟩
          rintro ⟨i, va, ka, al⟩ HL2 hI2 K22 hN22 hE22
          obtain ⟨hi, oa, he, hal, nxl_oa, hlm2⟩ := hI2
          have df86 := DF.app (DF.z) (bf_hl.mono hm0.size) nxl_oa
          have df87 := DF.app (DF.z) (bf_hxo.mono hm0.size) nxl_oa
          have df88 := DF.app (DF.z) (bf_hxn.mono hm0.size) nxl_oa
          have dj89 : Dj kg ka := Dj.app (Dj.z) og.le nxl_oa
          have dj90 : Dj kc ka := Dj.app (Dj.z) oc.le nxl_oa
          have dj91 : Dj kp ka := Dj.app (Dj.z) op.le nxl_oa
          have dj92 : Dj kl ka := Dj.app (Dj.z) ol.le nxl_oa
          have dj93 : Dj kr ka := Dj.app (Dj.z) orr.le nxl_oa
          have nx94 : Nx 0 H0.size ka := Nx.tr (Nx.refl 0 _) nxl_oa hm0.size
          have nx95 : Nx 0 H58.size ka := Nx.tr (Nx.refl 0 _) nxl_oa hcm18.size
          replace hl := hl.nw hlm2
          replace hxo := fun c hx0 => (hxo c hx0).nw hlm2
          replace hxn := fun c hx1 => (hxn c hx1).nw hlm2
          replace og := og.nw hlm2
          replace oc := oc.nw hlm2
          replace op := op.nw hlm2
          replace ol := ol.nw hlm2
          replace orr := orr.nw hlm2
          replace hm0 := hm0.tr hlm2
          replace hcm18 := hcm18.tr hlm2
          have hz15 := hlm2.size
          have hle_oa := oa.le
          have nx96 := nxl_oa
          refine CW.seq (fun K23 hK23 hE23 => ?_)
          refine CW.region ?_
          refine LR.v (Y.lss rfl rfl rfl) (Wd.u rfl) rfl rfl ?_
          refine LR.nil ?_
          refine hK23 _ _ ?_
          refine CW.seq (fun K24 hK24 hE24 => ?_)
          refine CW.condp rfl (fun c73 => ?_) (fun c73 => ?_)
          ·
            refine CW.skip ?_
            refine hK24 _ _ ?_
            refine CW.seq (fun K25 hK25 hE25 => ?_)
            refine CW.block (fun K26 hK26 hX26 hE26 => ?_)
            refine CW.seq (fun K27 hK27 hE27 => ?_)
            refine CW.region ?_
            have hil : i < left.length := by omega
            refine LR.v (Y.owAddr ol (i) rfl Try.runUnderlying26 Try.sizeOf35 rfl rfl (by first | rfl | omega) (by first | omega | (simp; omega) | (simp; done))) (Wd.u rfl) rfl rfl ?_
            refine LR.v (Y.loadN (ol.pt (j := i) (by first | omega | (simp; omega) | (simp; done))) rfl Try.isAgg35 Try.sizeOf35 (rfl) rfl) (Wd.u rfl) rfl rfl ?_
            refine LR.z (Z.allocv rfl Try.zeroValue35) (Wd.u rfl) rfl rfl (fun v10 H10 r10 => ?_)
            obtain ⟨rfl, vf, hs10, ob10, hH10⟩ := r10
            have hzs10 : H10.size = HL2.size + 1 := by rw [hH10]; simp
            have df97 := (DF.new (bf_hl.mono hm0.size) : DF _ (HL2.size + 1))
            have df98 := (DF.new (bf_hxo.mono hm0.size) : DF _ (HL2.size + 1))
            have df99 := (DF.new (bf_hxn.mono hm0.size) : DF _ (HL2.size + 1))
            have dj100 : Dj kg (HL2.size + 1) := Dj.new og.le
            have dj101 : Dj kc (HL2.size + 1) := Dj.new oc.le
            have dj102 : Dj kp (HL2.size + 1) := Dj.new op.le
            have dj103 : Dj kl (HL2.size + 1) := Dj.new ol.le
            have dj104 : Dj kr (HL2.size + 1) := Dj.new orr.le
            have dj105 : Dj ka (HL2.size + 1) := Dj.new oa.le
            have nx106 : Nx 0 H0.size (HL2.size + 1) := Nx.new hm0.size
            have nx107 : Nx 0 H58.size (HL2.size + 1) := Nx.new hcm18.size
            have nx108 : Nx 0 Hcutr12.size (HL2.size + 1) := Nx.new hlm2.size
            replace hl := hl.nw hs10
            replace hxo := fun c hx0 => (hxo c hx0).nw hs10
            replace hxn := fun c hx1 => (hxn c hx1).nw hs10
            replace og := og.nw hs10
            replace oc := oc.nw hs10
            replace op := op.nw hs10
            replace ol := ol.nw hs10
            replace orr := orr.nw hs10
            replace oa := oa.nw hs10
            replace hm0 := hm0.tr hs10
            replace hcm18 := hcm18.tr hs10
            replace hlm2 := hlm2.tr hs10
            have hz16 := hs10.size
            refine LR.s (S.var vf (_) (fFl left[i]) rfl rfl rfl rfl (fFl_one left[i]) Try.sizeOf35 (rfl) (Nat.le_of_ble_eq_true rfl) (rfl)) (Wd.u rfl) rfl (fun H15_3 r15_3 => ?_)
            obtain ⟨vf, hs15_3⟩ := r15_3
            replace hs15_3 := hs15_3.md1
            replace hl := hl.upL hs15_3 (DFL.cons df97 DFL.nil)
            replace hxo := fun c hx0 => (hxo c hx0).upL hs15_3 (DFL.cons df98 DFL.nil)
            replace hxn := fun c hx1 => (hxn c hx1).upL hs15_3 (DFL.cons df99 DFL.nil)
            replace og := og.upL hs15_3 (DL.cons dj100 DL.nil)
            replace oc := oc.upL hs15_3 (DL.cons dj101 DL.nil)
            replace op := op.upL hs15_3 (DL.cons dj102 DL.nil)
            replace ol := ol.upL hs15_3 (DL.cons dj103 DL.nil)
            replace orr := orr.upL hs15_3 (DL.cons dj104 DL.nil)
            replace oa := oa.upL hs15_3 (DL.cons dj105 DL.nil)
            replace hm0 := (Mo.trL (ks := []) (hm0.mdn []) hs15_3 (MIL.cons (MI.app MI.z (nx106) (Nat.le_refl _)) MIL.nil)).nil
            replace hcm18 := (Mo.trL (ks := []) (hcm18.mdn []) hs15_3 (MIL.cons (MI.app MI.z (nx107) (Nat.le_refl _)) MIL.nil)).nil
            replace hlm2 := (Mo.trL (ks := []) (hlm2.mdn []) hs15_3 (MIL.cons (MI.app MI.z (nx108) (Nat.le_refl _)) MIL.nil)).nil
            have hz17 := hs15_3.size
            refine LR.nil ?_
            refine hK27 _ _ ?_
            refine CW.seq (fun K28 hK28 hE28 => ?_)
            refine CW.region ?_
            refine LR.v (Y.move rfl rfl) (Wd.u rfl) rfl rfl ?_
            refine LR.v (Y.len orr.rd rfl Try.runUnderlying26 rfl) (Wd.u rfl) rfl rfl ?_
            refine LR.v (Y.move rfl rfl) (Wd.u rfl) rfl rfl ?_
            refine LR.nil ?_
            refine hK28 _ _ ?_
            refine CW.block (fun K29 hK29 hX29 hE29 => ?_)
            refine CW.loop (fun (s_ : (Nat) × (Value) × (Nat) × (List Lk)) => match s_ with | (j, vb, kb, bl) => [(4, vr), (7, vp), (8, vb), (10, .pointer (some ⟨HL2.size, 0, none⟩)), (70, vl), (71, .int .i64 left.length), (72, .int .i64 i), (76, vr), (77, .int .i64 rest.length), (78, .int .i64 j)])
              (fun (s_ : (Nat) × (Value) × (Nat) × (List Lk)) (H : Heap) => match s_ with | (j, vb, kb, bl) => (j ≤ rest.length) ∧ (Ow kb 61 H fLk 4 vb bl) ∧ (candL (left.take i) rest ++ cand1 left[i] (rest.take j) = bl) ∧ (bl.length ≤ i * 100 + j) ∧ (Nx ka H15_3.size kb) ∧ Mo (Ms [ka]) H15_3 H)
              (fun (s_ : (Nat) × (Value) × (Nat) × (List Lk)) => match s_ with | (j, vb, kb, bl) => rest.length - j) (0, va, ka, al) ⟨rfl, rfl, rfl, rfl, rfl, rfl, rfl, rfl, rfl, rfl, trivial⟩ ?_ ?_
            ·
              exact ⟨(by omega), oa, by rw [he]; simp [cand1], (by omega), Nx.refl _ _, Mo.refl _ _⟩
            rintro ⟨j, vb, kb, bl⟩ HL3 hI3 K30 hN30 hE30
            obtain ⟨hj, oa, he3, hbl, nxl_oa, hlm3⟩ := hI3
            have df109 := DF.app (df86) (bf_hl.mono hm0.size) nxl_oa
            have df110 := DF.app (df87) (bf_hxo.mono hm0.size) nxl_oa
            have df111 := DF.app (df88) (bf_hxn.mono hm0.size) nxl_oa
            have dj112 : Dj kg kb := Dj.app (dj89) og.le nxl_oa
            have dj113 : Dj kc kb := Dj.app (dj90) oc.le nxl_oa
            have dj114 : Dj kp kb := Dj.app (dj91) op.le nxl_oa
            have dj115 : Dj kl kb := Dj.app (dj92) ol.le nxl_oa
            have dj116 : Dj kr kb := Dj.app (dj93) orr.le nxl_oa
            have dj117 : Dj (HL2.size + 1) kb := Dj.app (dj105.symm) vf.lt nxl_oa
            have nx118 : Nx 0 H0.size kb := Nx.tr (nx94) nxl_oa hm0.size
            have nx119 : Nx 0 H58.size kb := Nx.tr (nx95) nxl_oa hcm18.size
            have nx120 : Nx 0 Hcutr12.size kb := Nx.tr (nx96) nxl_oa hlm2.size
            replace hl := hl.upL hlm3 (DFL.cons df86 DFL.nil)
            replace hxo := fun c hx0 => (hxo c hx0).upL hlm3 (DFL.cons df87 DFL.nil)
            replace hxn := fun c hx1 => (hxn c hx1).upL hlm3 (DFL.cons df88 DFL.nil)
            replace og := og.upL hlm3 (DL.cons dj89 DL.nil)
            replace oc := oc.upL hlm3 (DL.cons dj90 DL.nil)
            replace op := op.upL hlm3 (DL.cons dj91 DL.nil)
            replace ol := ol.upL hlm3 (DL.cons dj92 DL.nil)
            replace orr := orr.upL hlm3 (DL.cons dj93 DL.nil)
            replace vf := vf.upL hlm3 (DL.cons dj105.symm DL.nil)
            replace hm0 := (Mo.trL (ks := []) (hm0.mdn []) hlm3 (MIL.cons (MI.app MI.z (nx94) (Nat.le_refl _)) MIL.nil)).nil
            replace hcm18 := (Mo.trL (ks := []) (hcm18.mdn []) hlm3 (MIL.cons (MI.app MI.z (nx95) (Nat.le_refl _)) MIL.nil)).nil
            replace hlm2 := (Mo.trL (ks := []) (hlm2.mdn []) hlm3 (MIL.cons (MI.app MI.z (nx96) (Nat.le_refl _)) MIL.nil)).nil
            have hz18 := hlm3.size
            have hle_oa := oa.le
            have nx121 := nxl_oa
            refine CW.seq (fun K31 hK31 hE31 => ?_)
            refine CW.region ?_
            refine LR.v (Y.lss rfl rfl rfl) (Wd.u rfl) rfl rfl ?_
            refine LR.nil ?_
            refine hK31 _ _ ?_
            refine CW.seq (fun K32 hK32 hE32 => ?_)
            refine CW.condp rfl (fun c79 => ?_) (fun c79 => ?_)
            ·
              refine CW.skip ?_
              refine hK32 _ _ ?_
              refine CW.seq (fun K33 hK33 hE33 => ?_)
              refine CW.block (fun K34 hK34 hX34 hE34 => ?_)
              refine CW.seq (fun K35 hK35 hE35 => ?_)
              refine CW.region ?_
              have hjl : j < rest.length := by omega
              refine LR.v (Y.owAddr orr (j) rfl Try.runUnderlying26 Try.sizeOf35 rfl rfl (by first | rfl | omega) (by first | omega | (simp; omega) | (simp; done))) (Wd.u rfl) rfl rfl ?_
              refine LR.v (Y.loadN (orr.pt (j := j) (by first | omega | (simp; omega) | (simp; done))) rfl Try.isAgg35 Try.sizeOf35 (rfl) rfl) (Wd.u rfl) rfl rfl ?_
              refine LR.z (Z.allocv rfl Try.zeroValue35) (Wd.u rfl) rfl rfl (fun v12 H12 r12 => ?_)
              obtain ⟨rfl, vg2, hs12, ob12, hH12⟩ := r12
              have hzs12 : H12.size = HL3.size + 1 := by rw [hH12]; simp
              have df122 := (DF.new (bf_hl.mono hm0.size) : DF _ (HL3.size + 1))
              have df123 := (DF.new (bf_hxo.mono hm0.size) : DF _ (HL3.size + 1))
              have df124 := (DF.new (bf_hxn.mono hm0.size) : DF _ (HL3.size + 1))
              have dj125 : Dj kg (HL3.size + 1) := Dj.new og.le
              have dj126 : Dj kc (HL3.size + 1) := Dj.new oc.le
              have dj127 : Dj kp (HL3.size + 1) := Dj.new op.le
              have dj128 : Dj kl (HL3.size + 1) := Dj.new ol.le
              have dj129 : Dj kr (HL3.size + 1) := Dj.new orr.le
              have dj130 : Dj kb (HL3.size + 1) := Dj.new oa.le
              have dj131 : Dj (HL2.size + 1) (HL3.size + 1) := Dj.new vf.lt
              have nx132 : Nx 0 H0.size (HL3.size + 1) := Nx.new hm0.size
              have nx133 : Nx 0 H58.size (HL3.size + 1) := Nx.new hcm18.size
              have nx134 : Nx 0 Hcutr12.size (HL3.size + 1) := Nx.new hlm2.size
              have nx135 : Nx 0 H15_3.size (HL3.size + 1) := Nx.new hlm3.size
              replace hl := hl.nw hs12
              replace hxo := fun c hx0 => (hxo c hx0).nw hs12
              replace hxn := fun c hx1 => (hxn c hx1).nw hs12
              replace og := og.nw hs12
              replace oc := oc.nw hs12
              replace op := op.nw hs12
              replace ol := ol.nw hs12
              replace orr := orr.nw hs12
              replace oa := oa.nw hs12
              replace vf := vf.nw hs12
              replace hm0 := hm0.tr hs12
              replace hcm18 := hcm18.tr hs12
              replace hlm2 := hlm2.tr hs12
              replace hlm3 := hlm3.trN hs12
              have hz19 := hs12.size
              refine LR.s (S.var vg2 (_) (fFl rest[j]) rfl rfl rfl rfl (fFl_one rest[j]) Try.sizeOf35 (rfl) (Nat.le_of_ble_eq_true rfl) (rfl)) (Wd.u rfl) rfl (fun H18_3 r18_3 => ?_)
              obtain ⟨vg2, hs18_3⟩ := r18_3
              replace hs18_3 := hs18_3.md1
              replace hl := hl.upL hs18_3 (DFL.cons df122 DFL.nil)
              replace hxo := fun c hx0 => (hxo c hx0).upL hs18_3 (DFL.cons df123 DFL.nil)
              replace hxn := fun c hx1 => (hxn c hx1).upL hs18_3 (DFL.cons df124 DFL.nil)
              replace og := og.upL hs18_3 (DL.cons dj125 DL.nil)
              replace oc := oc.upL hs18_3 (DL.cons dj126 DL.nil)
              replace op := op.upL hs18_3 (DL.cons dj127 DL.nil)
              replace ol := ol.upL hs18_3 (DL.cons dj128 DL.nil)
              replace orr := orr.upL hs18_3 (DL.cons dj129 DL.nil)
              replace oa := oa.upL hs18_3 (DL.cons dj130 DL.nil)
              replace vf := vf.upL hs18_3 (DL.cons dj131 DL.nil)
              replace hm0 := (Mo.trL (ks := []) (hm0.mdn []) hs18_3 (MIL.cons (MI.app MI.z (nx132) (Nat.le_refl _)) MIL.nil)).nil
              replace hcm18 := (Mo.trL (ks := []) (hcm18.mdn []) hs18_3 (MIL.cons (MI.app MI.z (nx133) (Nat.le_refl _)) MIL.nil)).nil
              replace hlm2 := (Mo.trL (ks := []) (hlm2.mdn []) hs18_3 (MIL.cons (MI.app MI.z (nx134) (Nat.le_refl _)) MIL.nil)).nil
              replace hlm3 := hlm3.trL hs18_3 (MIL.cons (MI.app MI.z (nx135) (Nat.le_refl _)) MIL.nil)
              have hz20 := hs18_3.size
              refine LR.nil ?_
              refine hK35 _ _ ?_
              refine CW.seq (fun K36 hK36 hE36 => ?_)
              refine CW.region ?_
              refine LR.v (Y.fieldAddr vf.pt rfl Try.runUnderlying35 rfl rfl Try.sizeOf22 (by decide) rfl) (Wd.u rfl) rfl rfl ?_
              refine LR.v (Y.load1 (vf.pt.drop 2) rfl Try.isAgg22 rfl) (Wd.u rfl) rfl rfl ?_
              refine LR.v (Y.fieldAddr vg2.pt rfl Try.runUnderlying35 rfl rfl Try.sizeOf22 (by decide) rfl) (Wd.u rfl) rfl rfl ?_
              refine LR.v (Y.load1 (vg2.pt.drop 2) rfl Try.isAgg22 rfl) (Wd.u rfl) rfl rfl ?_
              -- call selvage/rename.Score
              refine LR.call rfl Try.call11 rfl (Wd.u rfl) rfl rfl (pscore_ct _ _ left[i].d rest[j].d w0 _ (exL_left hE hxo (List.getElem_mem hil)).d (exL_rest hE hxn (List.getElem_mem hjl)).d (hQ.1 _ (List.getElem_mem hil)).2 (hQ.2 _ (List.getElem_mem hjl)).2) (fun v86 H86 r86 => ?_)
              obtain ⟨rfl, hs86⟩ := r86
              replace hl := hl.nw hs86
              replace hxo := fun c hx0 => (hxo c hx0).nw hs86
              replace hxn := fun c hx1 => (hxn c hx1).nw hs86
              replace og := og.nw hs86
              replace oc := oc.nw hs86
              replace op := op.nw hs86
              replace ol := ol.nw hs86
              replace orr := orr.nw hs86
              replace oa := oa.nw hs86
              replace vf := vf.nw hs86
              replace vg2 := vg2.nw hs86
              replace hm0 := hm0.tr hs86
              replace hcm18 := hcm18.tr hs86
              replace hlm2 := hlm2.tr hs86
              replace hlm3 := hlm3.trN hs86
              have hz21 := hs86.size
              refine LR.v (Y.assign rfl rfl) (Wd.u rfl) rfl rfl ?_
              refine LR.nil ?_
              refine hK36 _ _ ?_
              refine CW.seq (fun K37 hK37 hE37 => ?_)
              refine CW.region ?_
              refine LR.v (Y.move rfl rfl) (Wd.u rfl) rfl rfl ?_
              refine LR.v (Y.geq rfl rfl rfl) (Wd.u rfl) rfl rfl ?_
              refine LR.nil ?_
              refine hK37 _ _ ?_
              refine CW.condp rfl (fun c88 => ?_) (fun c88 => ?_)
              ·
                have hge : 50 ≤ scoreB left[i].d rest[j].d := by omega
                refine CW.region_any (fun Hq => Mo (Ms [kb]) H86 Hq) [] rfl ?_
                have hq21 : Mo (Ms [kb]) H86 H86 := Mo.refl _ _
                have nx136 := Nx.refl kb H86.size
                refine LH.take 0 (by kernel_rfl) rfl (by kernel_rfl) (by kernel_rfl) (by kernel_rfl) (fun Hq hq => Y.move rfl rfl) (Wd.u rfl) rfl rfl hq21 ?_
                refine LH.take 1 (by kernel_rfl) rfl (by kernel_rfl) (by kernel_rfl) (by kernel_rfl) (fun Hq hq => Y.fieldAddr (vf.upL hq (DL.cons dj117 DL.nil)).pt rfl Try.runUnderlying35 rfl rfl Try.sizeOf9 (by decide) rfl) (Wd.u rfl) rfl rfl hq21 ?_
                refine LH.take 2 (by kernel_rfl) rfl (by kernel_rfl) (by kernel_rfl) (by kernel_rfl) (fun Hq hq => Y.load1 (vf.upL hq (DL.cons dj117 DL.nil)).pt rfl Try.isAgg9 rfl) (Wd.u rfl) rfl rfl hq21 ?_
                refine LH.take 3 (by kernel_rfl) rfl (by kernel_rfl) (by kernel_rfl) (by kernel_rfl) (fun Hq hq => Y.fieldAddr (vg2.upL hq (DL.cons dj130.symm DL.nil)).pt rfl Try.runUnderlying35 rfl rfl Try.sizeOf9 (by decide) rfl) (Wd.u rfl) rfl rfl hq21 ?_
                refine LH.take 4 (by kernel_rfl) rfl (by kernel_rfl) (by kernel_rfl) (by kernel_rfl) (fun Hq hq => Y.load1 (vg2.upL hq (DL.cons dj130.symm DL.nil)).pt rfl Try.isAgg9 rfl) (Wd.u rfl) rfl rfl hq21 ?_
                refine LH.take 5 (by kernel_rfl) rfl (by kernel_rfl) (by kernel_rfl) (by kernel_rfl) (fun Hq hq => Y.move rfl rfl) (Wd.u rfl) rfl rfl hq21 ?_
                refine LH.take 6 (by kernel_rfl) rfl (by kernel_rfl) (by kernel_rfl) (by kernel_rfl) (fun Hq hq => Y.build (v := .agg (fPr (⟨⟨left[i].p, rest[j].p, (scoreB left[i].d rest[j].d : Nat)⟩, nearL left[i].p rest[j].p⟩ : Lk).p).toArray) rfl rfl (by intro w; kernel_rfl)) (Wd.u rfl) rfl rfl hq21 ?_
                refine LH.take 7 (by kernel_rfl) rfl (by kernel_rfl) (by kernel_rfl) (by kernel_rfl) (fun Hq hq => Y.fieldAddr (vf.upL hq (DL.cons dj117 DL.nil)).pt rfl Try.runUnderlying35 rfl rfl Try.sizeOf9 (by decide) rfl) (Wd.u rfl) rfl rfl hq21 ?_
                refine LH.take 8 (by kernel_rfl) rfl (by kernel_rfl) (by kernel_rfl) (by kernel_rfl) (fun Hq hq => Y.load1 (vf.upL hq (DL.cons dj117 DL.nil)).pt rfl Try.isAgg9 rfl) (Wd.u rfl) rfl rfl hq21 ?_
                refine LH.take 9 (by kernel_rfl) rfl (by kernel_rfl) (by kernel_rfl) (by kernel_rfl) (fun Hq hq => Y.fieldAddr (vg2.upL hq (DL.cons dj130.symm DL.nil)).pt rfl Try.runUnderlying35 rfl rfl Try.sizeOf9 (by decide) rfl) (Wd.u rfl) rfl rfl hq21 ?_
                refine LH.take 10 (by kernel_rfl) rfl (by kernel_rfl) (by kernel_rfl) (by kernel_rfl) (fun Hq hq => Y.load1 (vg2.upL hq (DL.cons dj130.symm DL.nil)).pt rfl Try.isAgg9 rfl) (Wd.u rfl) rfl rfl hq21 ?_
                refine LH.one (i := 11) (by kernel_rfl) ?_
                -- call selvage/rename.near
                refine LO.call rfl rfl Try.call31 rfl (Wd.u rfl) rfl rfl (near_ct left[i].p rest[j].p w0 _ (hQ.1 _ (List.getElem_mem hil)).1 (hQ.2 _ (List.getElem_mem hjl)).1) (fun v100 H100 r100 => ?_)
                obtain ⟨rfl, hs100⟩ := r100
                replace hl := hl.nw hs100
                replace hxo := fun c hx0 => (hxo c hx0).nw hs100
                replace hxn := fun c hx1 => (hxn c hx1).nw hs100
                replace og := og.nw hs100
                replace oc := oc.nw hs100
                replace op := op.nw hs100
                replace ol := ol.nw hs100
                replace orr := orr.nw hs100
                replace oa := oa.nw hs100
                replace vf := vf.nw hs100
                replace vg2 := vg2.nw hs100
                replace hm0 := hm0.tr hs100
                replace hcm18 := hcm18.tr hs100
                replace hlm2 := hlm2.tr hs100
                replace hlm3 := hlm3.trN hs100
                replace hq21 := hq21.trN hs100
                have hz22 := hs100.size
                refine ⟨.inr hq21, LH.narrow (SH2 := fun Hq => Mo (Ms [kb]) H100 Hq) (fun Hq hq => hq21.trL hq (MIL.cons (MI.app (MI.root (by simp)) (nx136) (Nat.le_refl _)) MIL.nil)) ?_⟩
                have hq21 : Mo (Ms [kb]) H100 H100 := Mo.refl _ _
                have nx137 := Nx.refl kb H100.size
                refine LH.take 12 (by kernel_rfl) rfl (by kernel_rfl) (by kernel_rfl) (by kernel_rfl) (fun Hq hq => Y.build (v := .agg (fLk (⟨⟨left[i].p, rest[j].p, (scoreB left[i].d rest[j].d : Nat)⟩, nearL left[i].p rest[j].p⟩ : Lk)).toArray) rfl rfl (by intro w; kernel_rfl)) (Wd.u rfl) rfl rfl hq21 ?_
                refine LH.one (i := 13) (by kernel_rfl) ?_
                refine LO.z rfl (Z.litw _ ([(⟨⟨left[i].p, rest[j].p, (scoreB left[i].d rest[j].d : Nat)⟩, nearL left[i].p rest[j].p⟩ : Lk)]) rfl inf58 rfl rfl rfl (by decide) (by decide) fLk_len fLk_one (rfl)) (Wd.u rfl) rfl rfl (fun v102 H102 r102 => ?_)
                obtain ⟨nw102, hs102, ob102, hH102⟩ := r102
                have hzs102 : H102.size = H100.size + 1 := by rw [hH102]; simp
                have df138 := (DF.new (bf_hl.mono hm0.size) : DF _ (H100.size + 1))
                have df139 := (DF.new (bf_hxo.mono hm0.size) : DF _ (H100.size + 1))
                have df140 := (DF.new (bf_hxn.mono hm0.size) : DF _ (H100.size + 1))
                have dj141 : Dj kg (H100.size + 1) := Dj.new og.le
                have dj142 : Dj kc (H100.size + 1) := Dj.new oc.le
                have dj143 : Dj kp (H100.size + 1) := Dj.new op.le
                have dj144 : Dj kl (H100.size + 1) := Dj.new ol.le
                have dj145 : Dj kr (H100.size + 1) := Dj.new orr.le
                have dj146 : Dj kb (H100.size + 1) := Dj.new oa.le
                have dj147 : Dj (HL2.size + 1) (H100.size + 1) := Dj.new vf.lt
                have dj148 : Dj (HL3.size + 1) (H100.size + 1) := Dj.new vg2.lt
                have nx149 : Nx 0 H0.size (H100.size + 1) := Nx.new hm0.size
                have nx150 : Nx 0 H58.size (H100.size + 1) := Nx.new hcm18.size
                have nx151 : Nx 0 Hcutr12.size (H100.size + 1) := Nx.new hlm2.size
                have nx152 : Nx 0 H15_3.size (H100.size + 1) := Nx.new hlm3.size
                have nx153 : Nx 0 H100.size (H100.size + 1) := Nx.new hq21.size
                replace hl := hl.nw hs102
                replace hxo := fun c hx0 => (hxo c hx0).nw hs102
                replace hxn := fun c hx1 => (hxn c hx1).nw hs102
                replace og := og.nw hs102
                replace oc := oc.nw hs102
                replace op := op.nw hs102
                replace ol := ol.nw hs102
                replace orr := orr.nw hs102
                replace oa := oa.nw hs102
                replace vf := vf.nw hs102
                replace vg2 := vg2.nw hs102
                replace hm0 := hm0.tr hs102
                replace hcm18 := hcm18.tr hs102
                replace hlm2 := hlm2.tr hs102
                replace hlm3 := hlm3.trN hs102
                replace hq21 := hq21.trN hs102
                have hz23 := hs102.size
                refine ⟨.inr hq21, LH.narrow (SH2 := fun Hq => Mo (Ms [kb, (H100.size + 1)]) H102 Hq) (fun Hq hq => hq21.trL hq (MIL.cons (MI.app (MI.root (by simp)) (nx137) (Nat.le_refl _)) (MIL.cons (MI.app MI.z (nx153) (Nat.le_refl _)) MIL.nil))) ?_⟩
                have hq21 : Mo (Ms [kb, (H100.size + 1)]) H102 H102 := Mo.refl _ _
                have nx154 := Nx.refl kb H102.size
                have nx155 := Nx.refl (H100.size + 1) H102.size
                refine LH.one (i := 14) (by kernel_rfl) ?_
                refine LO.z rfl (Z.apnd oa nw102.rd rfl inf58 rfl rfl (by simp; omega) (by simp; omega)) (Wd.u rfl) rfl rfl (fun v103 H103 r103 => ?_)
                obtain ⟨k103, oa, hk103, hs103⟩ := r103
                replace hk103 : Nx kb H102.size k103 := hk103
                replace hs103 := hs103.md
                have df156 := DF.app (df109) (bf_hl.mono hm0.size) hk103
                have df157 := DF.app (df110) (bf_hxo.mono hm0.size) hk103
                have df158 := DF.app (df111) (bf_hxn.mono hm0.size) hk103
                have dj159 : Dj kg k103 := Dj.app (dj112) og.le hk103
                have dj160 : Dj kc k103 := Dj.app (dj113) oc.le hk103
                have dj161 : Dj kp k103 := Dj.app (dj114) op.le hk103
                have dj162 : Dj kl k103 := Dj.app (dj115) ol.le hk103
                have dj163 : Dj kr k103 := Dj.app (dj116) orr.le hk103
                have dj164 : Dj (HL2.size + 1) k103 := Dj.app (dj117) vf.lt hk103
                have dj165 : Dj (HL3.size + 1) k103 := Dj.app (dj130.symm) vg2.lt hk103
                have dj166 : Dj (H100.size + 1) k103 := Dj.app (dj146.symm) nw102.le hk103
                have nx167 : Nx 0 H0.size k103 := Nx.tr (nx118) hk103 hm0.size
                have nx168 : Nx 0 H58.size k103 := Nx.tr (nx119) hk103 hcm18.size
                have nx169 : Nx 0 Hcutr12.size k103 := Nx.tr (nx120) hk103 hlm2.size
                have nx170 : Nx ka H15_3.size k103 := Nx.tr (nx121) hk103 hlm3.size
                have nx171 : Nx kb H102.size k103 := Nx.tr (nx154) hk103 hq21.size
                replace hl := hl.upL hs103 (DFL.cons df109 DFL.nil)
                replace hxo := fun c hx0 => (hxo c hx0).upL hs103 (DFL.cons df110 DFL.nil)
                replace hxn := fun c hx1 => (hxn c hx1).upL hs103 (DFL.cons df111 DFL.nil)
                replace og := og.upL hs103 (DL.cons dj112 DL.nil)
                replace oc := oc.upL hs103 (DL.cons dj113 DL.nil)
                replace op := op.upL hs103 (DL.cons dj114 DL.nil)
                replace ol := ol.upL hs103 (DL.cons dj115 DL.nil)
                replace orr := orr.upL hs103 (DL.cons dj116 DL.nil)
                replace vf := vf.upL hs103 (DL.cons dj117 DL.nil)
                replace vg2 := vg2.upL hs103 (DL.cons dj130.symm DL.nil)
                replace nw102 := nw102.upL hs103 (DL.cons dj146.symm DL.nil)
                replace hm0 := (Mo.trL (ks := []) (hm0.mdn []) hs103 (MIL.cons (MI.app MI.z (nx118) (Nat.le_refl _)) MIL.nil)).nil
                replace hcm18 := (Mo.trL (ks := []) (hcm18.mdn []) hs103 (MIL.cons (MI.app MI.z (nx119) (Nat.le_refl _)) MIL.nil)).nil
                replace hlm2 := (Mo.trL (ks := []) (hlm2.mdn []) hs103 (MIL.cons (MI.app MI.z (nx120) (Nat.le_refl _)) MIL.nil)).nil
                replace hlm3 := hlm3.trL hs103 (MIL.cons (MI.app (MI.root (by simp)) (nx121) (Nat.le_refl _)) MIL.nil)
                replace hq21 := hq21.trL hs103 (MIL.cons (MI.app (MI.root (by simp)) (nx154) (Nat.le_refl _)) MIL.nil)
                have hz24 := hs103.size
                have hle_oa := oa.le
                refine ⟨.inr hq21, LH.narrow (SH2 := fun Hq => Mo (Ms [k103, (H100.size + 1)]) H103 Hq) (fun Hq hq => hq21.trL hq (MIL.cons (MI.app (MI.root (by simp)) (nx171) (Nat.le_refl _)) (MIL.cons (MI.app (MI.root (by simp)) (nx155) (Nat.le_refl _)) MIL.nil))) ?_⟩
                have hq21 : Mo (Ms [k103, (H100.size + 1)]) H103 H103 := Mo.refl _ _
                have nx172 := Nx.refl k103 H103.size
                have nx173 := Nx.refl (H100.size + 1) H103.size
                refine LH.take 15 (by kernel_rfl) rfl (by kernel_rfl) (by kernel_rfl) (by kernel_rfl) (fun Hq hq => Y.assign rfl rfl) (Wd.u rfl) rfl rfl hq21 ?_
                refine LH.done (by kernel_rfl) ?_
                refine hK34 _ _ ?_
                refine hK33 _ _ ?_
                refine CW.region ?_
                refine LR.v (Y.addi rfl rfl rfl (by omega)) (Wd.u rfl) rfl rfl ?_
                refine LR.v (Y.move rfl rfl) (Wd.u rfl) rfl rfl ?_
                refine LR.nil ?_
                refine QN.sub (hN30 (j + 1, v103, k103, bl ++ [(⟨⟨left[i].p, rest[j].p, (scoreB left[i].d rest[j].d : Nat)⟩, nearL left[i].p rest[j].p⟩ : Lk)]) _ ?_ ?_) ⟨rfl, rfl, rfl, rfl, rfl, (iv (by omega)), (iv (by omega)), rfl, (iv (by omega)), (iv (by omega)), trivial⟩
                · exact ⟨(by omega), oa, by rw [cand1_step hjl, if_pos hge, ← List.append_assoc, he3], (by rw [List.length_append]; simp only [List.length_cons, List.length_nil]; omega), nx170, hlm3⟩
                · first | omega | (simp only; omega) | (simp; omega)
              ·
                refine CW.skip ?_
                refine hK34 _ _ ?_
                refine hK33 _ _ ?_
                refine CW.region ?_
                refine LR.v (Y.addi rfl rfl rfl (by omega)) (Wd.u rfl) rfl rfl ?_
                refine LR.v (Y.move rfl rfl) (Wd.u rfl) rfl rfl ?_
                refine LR.nil ?_
                refine QN.sub (hN30 (j + 1, vb, kb, bl) _ ?_ ?_) ⟨rfl, rfl, rfl, rfl, rfl, (iv (by omega)), (iv (by omega)), rfl, (iv (by omega)), (iv (by omega)), trivial⟩
                · exact ⟨(by omega), oa, by rw [cand1_step hjl, if_neg (by omega), he3], (by omega), nx121, hlm3⟩
                · first | omega | (simp only; omega) | (simp; omega)
            ·
              have hj2 : j = rest.length := by omega
              rw [hj2, List.take_length] at he3
              refine CW.exit (hE32 (.exit 5) nofun _ _ (hE30 (.exit 5) nofun _ _ (hX29 _ _ ?_)))
              refine hK26 _ _ ?_
              refine hK25 _ _ ?_
              refine CW.region ?_
              refine LR.v (Y.addi rfl rfl rfl (by omega)) (Wd.u rfl) rfl rfl ?_
              refine LR.v (Y.move rfl rfl) (Wd.u rfl) rfl rfl ?_
              refine LR.nil ?_
              refine QN.sub (hN22 (i + 1, vb, kb, bl) _ ?_ ?_) ⟨rfl, rfl, rfl, rfl, (iv (by omega)), (iv (by omega)), trivial⟩
              · exact ⟨(by omega), oa, by rw [candL_step hil]; exact he3, (by omega), nx120, hlm2⟩
              · first | omega | (simp only; omega) | (simp; omega)
          ·
            rw [List.take_of_length_le (by omega)] at he
            refine CW.exit (hE24 (.exit 3) nofun _ _ (hE22 (.exit 3) nofun _ _ (hX21 _ _ ?_)))
            refine QN.sub (hK18 (va, ka, al) _ ?_) ⟨rfl, rfl, trivial⟩
            exact ⟨oa, by rw [candG, if_pos hLR, he], (by omega), nx95, hcm18⟩
        ·
          have hLR : ¬ (left.length ≤ 100 ∧ rest.length ≤ 100) := of_decide_eq_false (by rw [← hb]; exact c69)
          refine CW.skip ?_
          refine QN.sub (hK18 (.slice none 0 0, 0, []) _ ?_) ⟨rfl, rfl, trivial⟩
          exact ⟨Ow.nil fLk_len fLk_one, by rw [candG, if_neg hLR], (by simp), (.inl rfl), hcm18⟩
    ·
      rintro ⟨va, ka, all⟩ Hcutc69 hIcutc69
      obtain ⟨oa, hall, hal, nxl_oa, hlmcutc69⟩ := hIcutc69
      have df174 := DF.app (DF.z) (bf_hl.mono hm0.size) nxl_oa
      have df175 := DF.app (DF.z) (bf_hxo.mono hm0.size) nxl_oa
      have df176 := DF.app (DF.z) (bf_hxn.mono hm0.size) nxl_oa
      have dj177 : Dj kg ka := Dj.app (Dj.z) og.le nxl_oa
      have dj178 : Dj kc ka := Dj.app (Dj.z) oc.le nxl_oa
      have dj179 : Dj kp ka := Dj.app (Dj.z) op.le nxl_oa
      have dj180 : Dj kl ka := Dj.app (Dj.z) ol.le nxl_oa
      have dj181 : Dj kr ka := Dj.app (Dj.z) orr.le nxl_oa
      have nx182 : Nx 0 H0.size ka := Nx.tr (Nx.refl 0 _) nxl_oa hm0.size
      replace hl := hl.nw hlmcutc69
      replace hxo := fun c hx0 => (hxo c hx0).nw hlmcutc69
      replace hxn := fun c hx1 => (hxn c hx1).nw hlmcutc69
      replace og := og.nw hlmcutc69
      replace oc := oc.nw hlmcutc69
      replace op := op.nw hlmcutc69
      replace ol := ol.nw hlmcutc69
      replace orr := orr.nw hlmcutc69
      replace hm0 := hm0.tr hlmcutc69
      have hz25 := hlmcutc69.size
      have hle_oa := oa.le
      have nx183 := nxl_oa
      refine CW.seq (fun K38 hK38 hE38 => ?_)
      refine CW.region ?_
      refine LR.v (Y.move rfl rfl) (Wd.u rfl) rfl rfl ?_
      -- call slices.SortFunc[[]selvage/rename.likely,selvage/rename.likely]
      refine LR.call rfl Try.call32 rfl (Wd.u rfl) rfl rfl (sortLk_ct ka va all w0 _ oa (by omega)) (fun v107 H107 r107 => ?_)
      have ql184 := og.le
      have ql185 := oc.le
      have ql186 := op.le
      have ql187 := ol.le
      have ql188 := orr.le
      have ql189 := oa.le
      obtain ⟨L, ks, rfl, oa, hks, hL, hs107⟩ := r107
      have df190 := DF.app (df174) (bf_hl.mono hm0.size) hks
      have df191 := DF.app (df175) (bf_hxo.mono hm0.size) hks
      have df192 := DF.app (df176) (bf_hxn.mono hm0.size) hks
      have dj193 : Dj kg ks := Dj.app (dj177) ql184 hks
      have dj194 : Dj kc ks := Dj.app (dj178) ql185 hks
      have dj195 : Dj kp ks := Dj.app (dj179) ql186 hks
      have dj196 : Dj kl ks := Dj.app (dj180) ql187 hks
      have dj197 : Dj kr ks := Dj.app (dj181) ql188 hks
      have nx198 : Nx 0 H0.size ks := Nx.tr (nx182) hks hm0.size
      replace hl := hl.upL hs107 (DFL.cons df174 DFL.nil)
      replace hxo := fun c hx0 => (hxo c hx0).upL hs107 (DFL.cons df175 DFL.nil)
      replace hxn := fun c hx1 => (hxn c hx1).upL hs107 (DFL.cons df176 DFL.nil)
      replace og := og.upL hs107 (DL.cons dj177 DL.nil)
      replace oc := oc.upL hs107 (DL.cons dj178 DL.nil)
      replace op := op.upL hs107 (DL.cons dj179 DL.nil)
      replace ol := ol.upL hs107 (DL.cons dj180 DL.nil)
      replace orr := orr.upL hs107 (DL.cons dj181 DL.nil)
      replace hm0 := (Mo.trL (ks := []) (hm0.mdn []) hs107 (MIL.cons (MI.app MI.z (nx182) (Nat.le_refl _)) MIL.nil)).nil
      have hz26 := hs107.size
      have hle_oa := oa.le
      have hLl := hL.1.length_eq
      have hLm := oa.len
      refine LR.nil ?_
      refine hK38 _ _ ?_
      refine CW.seq (fun K39 hK39 hE39 => ?_)
      refine CW.region ?_
      refine LR.z (Z.makeMp Str (Value.int .i64) rfl) (Wd.u rfl) rfl rfl (fun v108 H108 r108 => ?_)
      obtain ⟨rfl, mf, hs108, ob108, hH108⟩ := r108
      have hzs108 : H108.size = H107.size + 1 := by rw [hH108]; simp
      have df199 := (DF.new (bf_hl.mono hm0.size) : DF _ (H107.size + 1))
      have df200 := (DF.new (bf_hxo.mono hm0.size) : DF _ (H107.size + 1))
      have df201 := (DF.new (bf_hxn.mono hm0.size) : DF _ (H107.size + 1))
      have dj202 : Dj kg (H107.size + 1) := Dj.new og.le
      have dj203 : Dj kc (H107.size + 1) := Dj.new oc.le
      have dj204 : Dj kp (H107.size + 1) := Dj.new op.le
      have dj205 : Dj kl (H107.size + 1) := Dj.new ol.le
      have dj206 : Dj kr (H107.size + 1) := Dj.new orr.le
      have dj207 : Dj ks (H107.size + 1) := Dj.new oa.le
      have nx208 : Nx 0 H0.size (H107.size + 1) := Nx.new hm0.size
      replace hl := hl.nw hs108
      replace hxo := fun c hx0 => (hxo c hx0).nw hs108
      replace hxn := fun c hx1 => (hxn c hx1).nw hs108
      replace og := og.nw hs108
      replace oc := oc.nw hs108
      replace op := op.nw hs108
      replace ol := ol.nw hs108
      replace orr := orr.nw hs108
      replace oa := oa.nw hs108
      replace hm0 := hm0.tr hs108
      have hz27 := hs108.size
      have hlt_mf := mf.lt
      refine LR.z (Z.makeMp Str (Value.int .i64) rfl) (Wd.u rfl) rfl rfl (fun v109 H109 r109 => ?_)
      obtain ⟨rfl, mt, hs109, ob109, hH109⟩ := r109
      have hzs109 : H109.size = H108.size + 1 := by rw [hH109]; simp
      have df209 := (DF.new (bf_hl.mono hm0.size) : DF _ (H108.size + 1))
      have df210 := (DF.new (bf_hxo.mono hm0.size) : DF _ (H108.size + 1))
      have df211 := (DF.new (bf_hxn.mono hm0.size) : DF _ (H108.size + 1))
      have dj212 : Dj kg (H108.size + 1) := Dj.new og.le
      have dj213 : Dj kc (H108.size + 1) := Dj.new oc.le
      have dj214 : Dj kp (H108.size + 1) := Dj.new op.le
      have dj215 : Dj kl (H108.size + 1) := Dj.new ol.le
      have dj216 : Dj kr (H108.size + 1) := Dj.new orr.le
      have dj217 : Dj ks (H108.size + 1) := Dj.new oa.le
      have dj218 : Dj (H107.size + 1) (H108.size + 1) := Dj.new mf.lt
      have nx219 : Nx 0 H0.size (H108.size + 1) := Nx.new hm0.size
      replace hl := hl.nw hs109
      replace hxo := fun c hx0 => (hxo c hx0).nw hs109
      replace hxn := fun c hx1 => (hxn c hx1).nw hs109
      replace og := og.nw hs109
      replace oc := oc.nw hs109
      replace op := op.nw hs109
      replace ol := ol.nw hs109
      replace orr := orr.nw hs109
      replace oa := oa.nw hs109
      replace mf := mf.nw hs109
      replace hm0 := hm0.tr hs109
      have hz28 := hs109.size
      have hlt_mt := mt.lt
      refine LR.v (Y.assign rfl rfl) (Wd.u rfl) rfl rfl ?_
      refine LR.v (Y.assign rfl rfl) (Wd.u rfl) rfl rfl ?_
      refine LR.nil ?_
      refine hK39 _ _ ?_
      refine CW.seq (fun K40 hK40 hE40 => ?_)
      refine CW.seq (fun K41 hK41 hE41 => ?_)
      refine CW.region ?_
      refine LR.v (Y.move rfl rfl) (Wd.u rfl) rfl rfl ?_
      refine LR.v (Y.len oa.rd rfl Try.runUnderlying58 rfl) (Wd.u rfl) rfl rfl ?_
      refine LR.v (Y.move rfl rfl) (Wd.u rfl) rfl rfl ?_
      refine LR.nil ?_
      refine hK41 _ _ ?_
      refine CW.block (fun K42 hK42 hX42 hE42 => ?_)
      refine CW.loop (fun (s_ : (Nat) × (Value) × (Nat) × (List Pr) × (List (List UInt8 × Int)) × (List (List UInt8 × Int)) × (List (List UInt8)) × (List (List UInt8))) => match s_ with | (i, v7, k7, pr, m1, m2, F, T) => [(7, v7), (14, .map (some H107.size)), (15, .map (some H108.size)), (110, va), (111, .int .i64 L.length), (112, .int .i64 i)])
        (fun (s_ : (Nat) × (Value) × (Nat) × (List Pr) × (List (List UInt8 × Int)) × (List (List UInt8 × Int)) × (List (List UInt8)) × (List (List UInt8))) (H : Heap) => match s_ with | (i, v7, k7, pr, m1, m2, F, T) => (i ≤ L.length) ∧ (Ow k7 38 H fPr 3 v7 pr) ∧ (Mp H Str (Value.int .i64) H107.size m1) ∧ (Mp H Str (Value.int .i64) H108.size m2) ∧ (∀ s, (mget m1 s).getD 0 = 0 ↔ ¬ s ∈ F) ∧ (∀ s, (mget m2 s).getD 0 = 0 ↔ ¬ s ∈ T) ∧ (pr ++ grd F T (L.drop i) = ps ++ grd [] [] L) ∧ (pr.length ≤ ps.length + i) ∧ (Nx kp H109.size k7) ∧ (Dj k7 (H107.size + 1)) ∧ (Dj k7 (H108.size + 1)) ∧ Mo (Ms [kp, (H107.size + 1), (H108.size + 1)]) H109 H)
        (fun (s_ : (Nat) × (Value) × (Nat) × (List Pr) × (List (List UInt8 × Int)) × (List (List UInt8 × Int)) × (List (List UInt8)) × (List (List UInt8))) => match s_ with | (i, v7, k7, pr, m1, m2, F, T) => L.length - i) (0, vp, kp, ps, [], [], [], []) ⟨rfl, rfl, rfl, rfl, rfl, rfl, trivial⟩ ?_ ?_
      ·
        exact ⟨(by omega), op, mf, mt, (fun s => by simp [mget]), (fun s => by simp [mget]), rfl, (by omega), Nx.refl _ _, dj204, dj214, Mo.refl _ _⟩
      rintro ⟨i, v7, k7, pr, m1, m2, F, T⟩ HL4 hI4 K43 hN43 hE43
      obtain ⟨hi, op, mf, mt, hF, hT, he, hpl, nxl_op, dj_op_mf, dj_op_mt, hlm4⟩ := hI4
      have df220 := DF.app (df68) (bf_hl.mono hm0.size) nxl_op
      have df221 := DF.app (df69) (bf_hxo.mono hm0.size) nxl_op
      have df222 := DF.app (df70) (bf_hxn.mono hm0.size) nxl_op
      have dj223 : Dj kg k7 := Dj.app (dj71) og.le nxl_op
      have dj224 : Dj kc k7 := Dj.app (dj72) oc.le nxl_op
      have dj225 : Dj kl k7 := Dj.app (d158.symm) ol.le nxl_op
      have dj226 : Dj kr k7 := Dj.app (d258.symm) orr.le nxl_op
      have dj227 : Dj ks k7 := Dj.app (dj195.symm) oa.le nxl_op
      have nx228 : Nx 0 H0.size k7 := Nx.tr (nx73) nxl_op hm0.size
      replace hl := hl.upL hlm4 (DFL.cons df68 (DFL.cons df199 (DFL.cons df209 DFL.nil)))
      replace hxo := fun c hx0 => (hxo c hx0).upL hlm4 (DFL.cons df69 (DFL.cons df200 (DFL.cons df210 DFL.nil)))
      replace hxn := fun c hx1 => (hxn c hx1).upL hlm4 (DFL.cons df70 (DFL.cons df201 (DFL.cons df211 DFL.nil)))
      replace og := og.upL hlm4 (DL.cons dj71 (DL.cons dj202 (DL.cons dj212 DL.nil)))
      replace oc := oc.upL hlm4 (DL.cons dj72 (DL.cons dj203 (DL.cons dj213 DL.nil)))
      replace ol := ol.upL hlm4 (DL.cons d158.symm (DL.cons dj205 (DL.cons dj215 DL.nil)))
      replace orr := orr.upL hlm4 (DL.cons d258.symm (DL.cons dj206 (DL.cons dj216 DL.nil)))
      replace oa := oa.upL hlm4 (DL.cons dj195.symm (DL.cons dj207 (DL.cons dj217 DL.nil)))
      replace hm0 := (Mo.trL (ks := []) (hm0.mdn []) hlm4 (MIL.cons (MI.app MI.z (nx73) (Nat.le_refl _)) (MIL.cons (MI.app MI.z (nx208) (Nat.le_refl _)) (MIL.cons (MI.app MI.z (nx219) (Nat.le_refl _)) MIL.nil)))).nil
      have hz29 := hlm4.size
      have hle_op := op.le
      have dj229 := dj_op_mf
      have dj230 := dj_op_mt
      have nx231 := nxl_op
      have nx_hlm4_mf := Nx.refl (H107.size + 1) H109.size
      have nx_hlm4_mt := Nx.refl (H108.size + 1) H109.size
      refine CW.seq (fun K44 hK44 hE44 => ?_)
      refine CW.region ?_
      refine LR.v (Y.lss rfl rfl rfl) (Wd.u rfl) rfl rfl ?_
      refine LR.nil ?_
      refine hK44 _ _ ?_
      refine CW.seq (fun K45 hK45 hE45 => ?_)
      refine CW.condp rfl (fun c113 => ?_) (fun c113 => ?_)
      ·
        refine CW.skip ?_
        refine hK45 _ _ ?_
        refine CW.seq (fun K46 hK46 hE46 => ?_)
        refine CW.block (fun K47 hK47 hX47 hE47 => ?_)
        refine CW.seq (fun K48 hK48 hE48 => ?_)
        refine CW.region ?_
        have hil : i < L.length := by omega
        refine LR.v (Y.owAddr oa (i) rfl Try.runUnderlying58 Try.sizeOf61 rfl rfl (by first | rfl | omega) (by first | omega | (simp; omega) | (simp; done))) (Wd.u rfl) rfl rfl ?_
        refine LR.v (Y.loadN (oa.pt (j := i) (by first | omega | (simp; omega) | (simp; done))) rfl Try.isAgg61 Try.sizeOf61 (rfl) rfl) (Wd.u rfl) rfl rfl ?_
        refine LR.z (Z.allocv rfl Try.zeroValue61) (Wd.u rfl) rfl rfl (fun v17 H17 r17 => ?_)
        obtain ⟨rfl, vx, hs17, ob17, hH17⟩ := r17
        have hzs17 : H17.size = HL4.size + 1 := by rw [hH17]; simp
        have df232 := (DF.new (bf_hl.mono hm0.size) : DF _ (HL4.size + 1))
        have df233 := (DF.new (bf_hxo.mono hm0.size) : DF _ (HL4.size + 1))
        have df234 := (DF.new (bf_hxn.mono hm0.size) : DF _ (HL4.size + 1))
        have dj235 : Dj kg (HL4.size + 1) := Dj.new og.le
        have dj236 : Dj kc (HL4.size + 1) := Dj.new oc.le
        have dj237 : Dj k7 (HL4.size + 1) := Dj.new op.le
        have dj238 : Dj kl (HL4.size + 1) := Dj.new ol.le
        have dj239 : Dj kr (HL4.size + 1) := Dj.new orr.le
        have dj240 : Dj ks (HL4.size + 1) := Dj.new oa.le
        have dj241 : Dj (H107.size + 1) (HL4.size + 1) := Dj.new mf.lt
        have dj242 : Dj (H108.size + 1) (HL4.size + 1) := Dj.new mt.lt
        have nx243 : Nx 0 H0.size (HL4.size + 1) := Nx.new hm0.size
        have nx244 : Nx 0 H109.size (HL4.size + 1) := Nx.new hlm4.size
        replace hl := hl.nw hs17
        replace hxo := fun c hx0 => (hxo c hx0).nw hs17
        replace hxn := fun c hx1 => (hxn c hx1).nw hs17
        replace og := og.nw hs17
        replace oc := oc.nw hs17
        replace op := op.nw hs17
        replace ol := ol.nw hs17
        replace orr := orr.nw hs17
        replace oa := oa.nw hs17
        replace mf := mf.nw hs17
        replace mt := mt.nw hs17
        replace hm0 := hm0.tr hs17
        replace hlm4 := hlm4.trN hs17
        have hz30 := hs17.size
        refine LR.s (S.var vx (_) (fLk L[i]) rfl rfl rfl rfl (fLk_one L[i]) Try.sizeOf61 (rfl) (Nat.le_of_ble_eq_true rfl) (rfl)) (Wd.u rfl) rfl (fun H28_3 r28_3 => ?_)
        obtain ⟨vx, hs28_3⟩ := r28_3
        replace hs28_3 := hs28_3.md1
        replace hl := hl.upL hs28_3 (DFL.cons df232 DFL.nil)
        replace hxo := fun c hx0 => (hxo c hx0).upL hs28_3 (DFL.cons df233 DFL.nil)
        replace hxn := fun c hx1 => (hxn c hx1).upL hs28_3 (DFL.cons df234 DFL.nil)
        replace og := og.upL hs28_3 (DL.cons dj235 DL.nil)
        replace oc := oc.upL hs28_3 (DL.cons dj236 DL.nil)
        replace op := op.upL hs28_3 (DL.cons dj237 DL.nil)
        replace ol := ol.upL hs28_3 (DL.cons dj238 DL.nil)
        replace orr := orr.upL hs28_3 (DL.cons dj239 DL.nil)
        replace oa := oa.upL hs28_3 (DL.cons dj240 DL.nil)
        replace mf := mf.upL hs28_3 (DL.cons dj241 DL.nil)
        replace mt := mt.upL hs28_3 (DL.cons dj242 DL.nil)
        replace hm0 := (Mo.trL (ks := []) (hm0.mdn []) hs28_3 (MIL.cons (MI.app MI.z (nx243) (Nat.le_refl _)) MIL.nil)).nil
        replace hlm4 := hlm4.trL hs28_3 (MIL.cons (MI.app MI.z (nx244) (Nat.le_refl _)) MIL.nil)
        have hz31 := hs28_3.size
        refine LR.nil ?_
        refine hK48 _ _ ?_
        refine CW.seq (fun K49 hK49 hE49 => ?_)
        refine CW.region ?_
        refine LR.v (Y.move rfl rfl) (Wd.u rfl) rfl rfl ?_
        refine LR.v (Y.fieldAddr vx.pt rfl Try.runUnderlying61 rfl rfl Try.sizeOf38 (by decide) rfl) (Wd.u rfl) rfl rfl ?_
        refine LR.v (Y.fieldAddr vx.pt rfl Try.runUnderlying38 rfl rfl Try.sizeOf9 (by decide) rfl) (Wd.u rfl) rfl rfl ?_
        refine LR.v (Y.load1 vx.pt rfl Try.isAgg9 rfl) (Wd.u rfl) rfl rfl ?_
        refine LR.v (Y.lookup mf.mo keyStr rfl Try.runUnderlying51 Try.underlying9 Try.zeroValue3 rfl rfl) (Wd.u rfl) rfl rfl ?_
        refine LR.v (Y.eql rfl rfl rfl) (Wd.u rfl) rfl rfl ?_
        refine LR.v (Y.move rfl rfl) (Wd.u rfl) rfl rfl ?_
        refine LR.splitp (d := 122) rfl (fun g122 => ?_) (fun g122 => ?_)
        ·
          refine LR.v (Y.move rfl rfl) (Wd.g rfl rfl rfl) rfl rfl ?_
          refine LR.v (Y.fieldAddr vx.pt rfl Try.runUnderlying61 rfl rfl Try.sizeOf38 (by decide) rfl) (Wd.g rfl rfl rfl) rfl rfl ?_
          refine LR.v (Y.fieldAddr vx.pt rfl Try.runUnderlying38 rfl rfl Try.sizeOf9 (by decide) rfl) (Wd.g rfl rfl rfl) rfl rfl ?_
          refine LR.v (Y.load1 (vx.pt.drop 1) rfl Try.isAgg9 rfl) (Wd.g rfl rfl rfl) rfl rfl ?_
          refine LR.v (Y.lookup mt.mo keyStr rfl Try.runUnderlying51 Try.underlying9 Try.zeroValue3 rfl rfl) (Wd.g rfl rfl rfl) rfl rfl ?_
          refine LR.v (Y.eql rfl rfl rfl) (Wd.g rfl rfl rfl) rfl rfl ?_
          refine LR.v (Y.pick_t rfl rfl rfl) (Wd.u rfl) rfl rfl ?_
          refine LR.nil ?_
          refine hK49 _ _ ?_
          refine CW.condp rfl (fun c129 => ?_) (fun c129 => ?_)
          ·
            refine CW.seq (fun K50 hK50 hE50 => ?_)
            refine CW.region_any (fun Hq => Mo (Ms [(H107.size + 1), (H108.size + 1)]) H28_3 Hq) [9] rfl ?_
            have hq30 : Mo (Ms [(H107.size + 1), (H108.size + 1)]) H28_3 H28_3 := Mo.refl _ _
            have nx245 := Nx.refl (H107.size + 1) H28_3.size
            have nx246 := Nx.refl (H108.size + 1) H28_3.size
            refine LH.take 0 (by kernel_rfl) rfl (by kernel_rfl) (by kernel_rfl) (by kernel_rfl) (fun Hq hq => Y.move rfl rfl) (Wd.u rfl) rfl rfl hq30 ?_
            refine LH.take 1 (by kernel_rfl) rfl (by kernel_rfl) (by kernel_rfl) (by kernel_rfl) (fun Hq hq => Y.fieldAddr (vx.upL hq (DL.cons dj241.symm (DL.cons dj242.symm DL.nil))).pt rfl Try.runUnderlying61 rfl rfl Try.sizeOf38 (by decide) rfl) (Wd.u rfl) rfl rfl hq30 ?_
            refine LH.take 2 (by kernel_rfl) rfl (by kernel_rfl) (by kernel_rfl) (by kernel_rfl) (fun Hq hq => Y.fieldAddr (vx.upL hq (DL.cons dj241.symm (DL.cons dj242.symm DL.nil))).pt rfl Try.runUnderlying38 rfl rfl Try.sizeOf9 (by decide) rfl) (Wd.u rfl) rfl rfl hq30 ?_
            refine LH.take 3 (by kernel_rfl) rfl (by kernel_rfl) (by kernel_rfl) (by kernel_rfl) (fun Hq hq => Y.load1 (vx.upL hq (DL.cons dj241.symm (DL.cons dj242.symm DL.nil))).pt rfl Try.isAgg9 rfl) (Wd.u rfl) rfl rfl hq30 ?_
            refine LH.take 4 (by kernel_rfl) rfl (by kernel_rfl) (by kernel_rfl) (by kernel_rfl) (fun Hq hq => Y.move rfl rfl) (Wd.u rfl) rfl rfl hq30 ?_
            refine LH.take 5 (by kernel_rfl) rfl (by kernel_rfl) (by kernel_rfl) (by kernel_rfl) (fun Hq hq => Y.fieldAddr (vx.upL hq (DL.cons dj241.symm (DL.cons dj242.symm DL.nil))).pt rfl Try.runUnderlying61 rfl rfl Try.sizeOf38 (by decide) rfl) (Wd.u rfl) rfl rfl hq30 ?_
            refine LH.take 6 (by kernel_rfl) rfl (by kernel_rfl) (by kernel_rfl) (by kernel_rfl) (fun Hq hq => Y.fieldAddr (vx.upL hq (DL.cons dj241.symm (DL.cons dj242.symm DL.nil))).pt rfl Try.runUnderlying38 rfl rfl Try.sizeOf9 (by decide) rfl) (Wd.u rfl) rfl rfl hq30 ?_
            refine LH.take 7 (by kernel_rfl) rfl (by kernel_rfl) (by kernel_rfl) (by kernel_rfl) (fun Hq hq => Y.load1 ((vx.upL hq (DL.cons dj241.symm (DL.cons dj242.symm DL.nil))).pt.drop 1) rfl Try.isAgg9 rfl) (Wd.u rfl) rfl rfl hq30 ?_
            refine LH.one (i := 8) (by kernel_rfl) ?_
            refine LO.s rfl (S.putMp ((1 : Int)) mf keyStr rfl Try.runUnderlying51 Try.underlying9 rfl rfl rfl) (Wd.u rfl) rfl (fun H30_8 r30_8 => ?_)
            obtain ⟨mf, hs30_8⟩ := r30_8
            replace hs30_8 := hs30_8.md1
            replace hl := hl.upL hs30_8 (DFL.cons df199 DFL.nil)
            replace hxo := fun c hx0 => (hxo c hx0).upL hs30_8 (DFL.cons df200 DFL.nil)
            replace hxn := fun c hx1 => (hxn c hx1).upL hs30_8 (DFL.cons df201 DFL.nil)
            replace og := og.upL hs30_8 (DL.cons dj202 DL.nil)
            replace oc := oc.upL hs30_8 (DL.cons dj203 DL.nil)
            replace op := op.upL hs30_8 (DL.cons dj229 DL.nil)
            replace ol := ol.upL hs30_8 (DL.cons dj205 DL.nil)
            replace orr := orr.upL hs30_8 (DL.cons dj206 DL.nil)
            replace oa := oa.upL hs30_8 (DL.cons dj207 DL.nil)
            replace mt := mt.upL hs30_8 (DL.cons dj218.symm DL.nil)
            replace vx := vx.upL hs30_8 (DL.cons dj241.symm DL.nil)
            replace hm0 := (Mo.trL (ks := []) (hm0.mdn []) hs30_8 (MIL.cons (MI.app MI.z (nx208) (Nat.le_refl _)) MIL.nil)).nil
            replace hlm4 := hlm4.trL hs30_8 (MIL.cons (MI.app (MI.root (by simp)) (nx_hlm4_mf) (Nat.le_refl _)) MIL.nil)
            replace hq30 := hq30.trL hs30_8 (MIL.cons (MI.app (MI.root (by simp)) (nx245) (Nat.le_refl _)) MIL.nil)
            have hz32 := hs30_8.size
            refine ⟨.inr hq30, LH.narrow (SH2 := fun Hq => Mo (Ms [(H107.size + 1), (H108.size + 1)]) H30_8 Hq) (fun Hq hq => hq30.trL hq (MIL.cons (MI.app (MI.root (by simp)) (nx245) (Nat.le_refl _)) (MIL.cons (MI.app (MI.root (by simp)) (nx246) (Nat.le_refl _)) MIL.nil))) ?_⟩
            have hq30 : Mo (Ms [(H107.size + 1), (H108.size + 1)]) H30_8 H30_8 := Mo.refl _ _
            have nx247 := Nx.refl (H107.size + 1) H30_8.size
            have nx248 := Nx.refl (H108.size + 1) H30_8.size
            refine LH.one (i := 9) (by kernel_rfl) ?_
            refine LO.s rfl (S.putMp ((1 : Int)) mt keyStr rfl Try.runUnderlying51 Try.underlying9 rfl rfl rfl) (Wd.u rfl) rfl (fun H30_9 r30_9 => ?_)
            obtain ⟨mt, hs30_9⟩ := r30_9
            replace hs30_9 := hs30_9.md1
            replace hl := hl.upL hs30_9 (DFL.cons df209 DFL.nil)
            replace hxo := fun c hx0 => (hxo c hx0).upL hs30_9 (DFL.cons df210 DFL.nil)
            replace hxn := fun c hx1 => (hxn c hx1).upL hs30_9 (DFL.cons df211 DFL.nil)
            replace og := og.upL hs30_9 (DL.cons dj212 DL.nil)
            replace oc := oc.upL hs30_9 (DL.cons dj213 DL.nil)
            replace op := op.upL hs30_9 (DL.cons dj230 DL.nil)
            replace ol := ol.upL hs30_9 (DL.cons dj215 DL.nil)
            replace orr := orr.upL hs30_9 (DL.cons dj216 DL.nil)
            replace oa := oa.upL hs30_9 (DL.cons dj217 DL.nil)
            replace mf := mf.upL hs30_9 (DL.cons dj218 DL.nil)
            replace vx := vx.upL hs30_9 (DL.cons dj242.symm DL.nil)
            replace hm0 := (Mo.trL (ks := []) (hm0.mdn []) hs30_9 (MIL.cons (MI.app MI.z (nx219) (Nat.le_refl _)) MIL.nil)).nil
            replace hlm4 := hlm4.trL hs30_9 (MIL.cons (MI.app (MI.root (by simp)) (nx_hlm4_mt) (Nat.le_refl _)) MIL.nil)
            replace hq30 := hq30.trL hs30_9 (MIL.cons (MI.app (MI.root (by simp)) (nx248) (Nat.le_refl _)) MIL.nil)
            have hz33 := hs30_9.size
            refine ⟨.inl rfl, ?_⟩
            refine LH.done (by kernel_rfl) ?_
            refine hK50 _ _ ?_
            refine CW.region ?_
            refine LR.v (Y.move rfl rfl) (Wd.u rfl) rfl rfl ?_
            refine LR.v (Y.fieldAddr vx.pt rfl Try.runUnderlying61 rfl rfl Try.sizeOf38 (by decide) rfl) (Wd.u rfl) rfl rfl ?_
            refine LR.v (Y.cast (v2 := .agg (fPr L[i].p).toArray) (Y.loadN (vx.pt.take 3) rfl Try.isAgg38 Try.sizeOf38 (rfl) rfl) (rfl)) (Wd.u rfl) rfl rfl ?_
            refine LR.z (Z.litw _ ([L[i].p]) rfl inf31 rfl rfl rfl (by decide) (by decide) fPr_len fPr_one (rfl)) (Wd.u rfl) rfl rfl (fun v141 H141 r141 => ?_)
            obtain ⟨nw141, hs141, ob141, hH141⟩ := r141
            have hzs141 : H141.size = H30_9.size + 1 := by rw [hH141]; simp
            have df249 := (DF.new (bf_hl.mono hm0.size) : DF _ (H30_9.size + 1))
            have df250 := (DF.new (bf_hxo.mono hm0.size) : DF _ (H30_9.size + 1))
            have df251 := (DF.new (bf_hxn.mono hm0.size) : DF _ (H30_9.size + 1))
            have dj252 : Dj kg (H30_9.size + 1) := Dj.new og.le
            have dj253 : Dj kc (H30_9.size + 1) := Dj.new oc.le
            have dj254 : Dj k7 (H30_9.size + 1) := Dj.new op.le
            have dj255 : Dj kl (H30_9.size + 1) := Dj.new ol.le
            have dj256 : Dj kr (H30_9.size + 1) := Dj.new orr.le
            have dj257 : Dj ks (H30_9.size + 1) := Dj.new oa.le
            have dj258 : Dj (H107.size + 1) (H30_9.size + 1) := Dj.new mf.lt
            have dj259 : Dj (H108.size + 1) (H30_9.size + 1) := Dj.new mt.lt
            have dj260 : Dj (HL4.size + 1) (H30_9.size + 1) := Dj.new vx.lt
            have nx261 : Nx 0 H0.size (H30_9.size + 1) := Nx.new hm0.size
            have nx262 : Nx 0 H109.size (H30_9.size + 1) := Nx.new hlm4.size
            replace hl := hl.nw hs141
            replace hxo := fun c hx0 => (hxo c hx0).nw hs141
            replace hxn := fun c hx1 => (hxn c hx1).nw hs141
            replace og := og.nw hs141
            replace oc := oc.nw hs141
            replace op := op.nw hs141
            replace ol := ol.nw hs141
            replace orr := orr.nw hs141
            replace oa := oa.nw hs141
            replace mf := mf.nw hs141
            replace mt := mt.nw hs141
            replace vx := vx.nw hs141
            replace hm0 := hm0.tr hs141
            replace hlm4 := hlm4.trN hs141
            have hz34 := hs141.size
            refine LR.z (Z.apnd op nw141.rd rfl inf31 rfl rfl (by simp; omega) (by simp; omega)) (Wd.u rfl) rfl rfl (fun v142 H142 r142 => ?_)
            obtain ⟨k142, op, hk142, hs142⟩ := r142
            replace hk142 : Nx k7 H141.size k142 := hk142
            replace hs142 := hs142.md
            have df263 := DF.app (df220) (bf_hl.mono hm0.size) hk142
            have df264 := DF.app (df221) (bf_hxo.mono hm0.size) hk142
            have df265 := DF.app (df222) (bf_hxn.mono hm0.size) hk142
            have dj266 : Dj kg k142 := Dj.app (dj223) og.le hk142
            have dj267 : Dj kc k142 := Dj.app (dj224) oc.le hk142
            have dj268 : Dj kl k142 := Dj.app (dj225) ol.le hk142
            have dj269 : Dj kr k142 := Dj.app (dj226) orr.le hk142
            have dj270 : Dj ks k142 := Dj.app (dj227) oa.le hk142
            have dj271 : Dj (H107.size + 1) k142 := Dj.app (dj229.symm) mf.lt hk142
            have dj272 : Dj (H108.size + 1) k142 := Dj.app (dj230.symm) mt.lt hk142
            have dj273 : Dj (HL4.size + 1) k142 := Dj.app (dj237.symm) vx.lt hk142
            have dj274 : Dj (H30_9.size + 1) k142 := Dj.app (dj254.symm) nw141.le hk142
            have nx275 : Nx 0 H0.size k142 := Nx.tr (nx228) hk142 hm0.size
            have nx276 : Nx kp H109.size k142 := Nx.tr (nx231) hk142 hlm4.size
            replace hl := hl.upL hs142 (DFL.cons df220 DFL.nil)
            replace hxo := fun c hx0 => (hxo c hx0).upL hs142 (DFL.cons df221 DFL.nil)
            replace hxn := fun c hx1 => (hxn c hx1).upL hs142 (DFL.cons df222 DFL.nil)
            replace og := og.upL hs142 (DL.cons dj223 DL.nil)
            replace oc := oc.upL hs142 (DL.cons dj224 DL.nil)
            replace ol := ol.upL hs142 (DL.cons dj225 DL.nil)
            replace orr := orr.upL hs142 (DL.cons dj226 DL.nil)
            replace oa := oa.upL hs142 (DL.cons dj227 DL.nil)
            replace mf := mf.upL hs142 (DL.cons dj229.symm DL.nil)
            replace mt := mt.upL hs142 (DL.cons dj230.symm DL.nil)
            replace vx := vx.upL hs142 (DL.cons dj237.symm DL.nil)
            replace nw141 := nw141.upL hs142 (DL.cons dj254.symm DL.nil)
            replace hm0 := (Mo.trL (ks := []) (hm0.mdn []) hs142 (MIL.cons (MI.app MI.z (nx228) (Nat.le_refl _)) MIL.nil)).nil
            replace hlm4 := hlm4.trL hs142 (MIL.cons (MI.app (MI.root (by simp)) (nx231) (Nat.le_refl _)) MIL.nil)
            have hz35 := hs142.size
            have hle_op := op.le
            refine LR.v (Y.assign rfl rfl) (Wd.u rfl) rfl rfl ?_
            refine LR.nil ?_
            refine hK47 _ _ ?_
            refine hK46 _ _ ?_
            refine CW.region ?_
            refine LR.v (Y.addi rfl rfl rfl (by omega)) (Wd.u rfl) rfl rfl ?_
            refine LR.v (Y.move rfl rfl) (Wd.u rfl) rfl rfl ?_
            refine LR.nil ?_
            refine QN.sub (hN43 (i + 1, v142, k142, pr ++ [L[i].p], mput m1 L[i].p.o 1, mput m2 L[i].p.n 1, L[i].p.o :: F, L[i].p.n :: T) _ ?_ ?_) ⟨rfl, rfl, rfl, rfl, (iv (by omega)), (iv (by omega)), trivial⟩
            · exact ⟨(by omega), op, mf, mt, map_in hF, map_in hT, by rw [← he, grd_yes hil ((hF _).1 g122) ((hT _).1 c129)]; simp, (by rw [List.length_append]; simp only [List.length_cons, List.length_nil]; omega), nx276, dj271.symm, dj272.symm, hlm4⟩
            · first | omega | (simp only; omega) | (simp; omega)
          ·
            refine CW.skip ?_
            refine hK47 _ _ ?_
            refine hK46 _ _ ?_
            refine CW.region ?_
            refine LR.v (Y.addi rfl rfl rfl (by omega)) (Wd.u rfl) rfl rfl ?_
            refine LR.v (Y.move rfl rfl) (Wd.u rfl) rfl rfl ?_
            refine LR.nil ?_
            refine QN.sub (hN43 (i + 1, v7, k7, pr, m1, m2, F, T) _ ?_ ?_) ⟨rfl, rfl, rfl, rfl, (iv (by omega)), (iv (by omega)), trivial⟩
            · exact ⟨(by omega), op, mf, mt, (by omega), (by omega), by rw [← he, grd_no hil (by first | exact .inl (Decidable.not_not.1 (fun h => g122 ((hF _).2 h))) | exact .inr (Decidable.not_not.1 (fun h => c129 ((hT _).2 h))))], (by omega), nx231, dj229, dj230, hlm4⟩
            · first | omega | (simp only; omega) | (simp; omega)
        ·
          refine LR.gs rfl rfl rfl rfl rfl rfl ?_
          refine LR.gs rfl rfl rfl rfl rfl rfl ?_
          refine LR.gs rfl rfl rfl rfl rfl rfl ?_
          refine LR.gs rfl rfl rfl rfl rfl rfl ?_
          refine LR.gs rfl rfl rfl rfl rfl rfl ?_
          refine LR.gs rfl rfl rfl rfl rfl rfl ?_
          refine LR.v (Y.pick_f rfl rfl rfl) (Wd.u rfl) rfl rfl ?_
          refine LR.nil ?_
          refine hK49 _ _ ?_
          refine CW.cond_f rfl ?_
          refine CW.skip ?_
          refine hK47 _ _ ?_
          refine hK46 _ _ ?_
          refine CW.region ?_
          refine LR.v (Y.addi rfl rfl rfl (by omega)) (Wd.u rfl) rfl rfl ?_
          refine LR.v (Y.move rfl rfl) (Wd.u rfl) rfl rfl ?_
          refine LR.nil ?_
          refine QN.sub (hN43 (i + 1, v7, k7, pr, m1, m2, F, T) _ ?_ ?_) ⟨rfl, rfl, rfl, rfl, (iv (by omega)), (iv (by omega)), trivial⟩
          · exact ⟨(by omega), op, mf, mt, (by omega), (by omega), by rw [← he, grd_no hil (by first | exact .inl (Decidable.not_not.1 (fun h => g122 ((hF _).2 h))) | exact .inr (Decidable.not_not.1 (fun h => c129 ((hT _).2 h))))], (by omega), nx231, dj229, dj230, hlm4⟩
          · first | omega | (simp only; omega) | (simp; omega)
      ·
        rw [List.drop_of_length_le (by omega)] at he
        simp only [grd, List.append_nil] at he
        refine CW.exit (hE45 (.exit 7) nofun _ _ (hE43 (.exit 7) nofun _ _ (hX42 _ _ ?_)))
        refine hK40 _ _ ?_
        refine CW.seq (fun K51 hK51 hE51 => ?_)
        refine CW.region ?_
        refine LR.v (Y.move rfl rfl) (Wd.u rfl) rfl rfl ?_
        -- call slices.SortFunc[[]selvage/api.Pair,selvage/api.Pair]
        refine LR.call rfl Try.call34 rfl (Wd.u rfl) rfl rfl (sortPr_ct k7 v7 pr w0 _ op (by omega)) (fun v145 H145 r145 => ?_)
        have ql277 := og.le
        have ql278 := oc.le
        have ql279 := op.le
        have ql280 := ol.le
        have ql281 := orr.le
        have ql282 := oa.le
        have ql283 := mf.lt
        have ql284 := mt.lt
        obtain ⟨out, kq, rfl, op, hkq, hO, hs145⟩ := r145
        have df285 := DF.app (df220) (bf_hl.mono hm0.size) hkq
        have df286 := DF.app (df221) (bf_hxo.mono hm0.size) hkq
        have df287 := DF.app (df222) (bf_hxn.mono hm0.size) hkq
        have dj288 : Dj kg kq := Dj.app (dj223) ql277 hkq
        have dj289 : Dj kc kq := Dj.app (dj224) ql278 hkq
        have dj290 : Dj kl kq := Dj.app (dj225) ql280 hkq
        have dj291 : Dj kr kq := Dj.app (dj226) ql281 hkq
        have dj292 : Dj ks kq := Dj.app (dj227) ql282 hkq
        have dj293 : Dj (H107.size + 1) kq := Dj.app (dj229.symm) ql283 hkq
        have dj294 : Dj (H108.size + 1) kq := Dj.app (dj230.symm) ql284 hkq
        have nx295 : Nx 0 H0.size kq := Nx.tr (nx228) hkq hm0.size
        replace hl := hl.upL hs145 (DFL.cons df220 DFL.nil)
        replace hxo := fun c hx0 => (hxo c hx0).upL hs145 (DFL.cons df221 DFL.nil)
        replace hxn := fun c hx1 => (hxn c hx1).upL hs145 (DFL.cons df222 DFL.nil)
        replace og := og.upL hs145 (DL.cons dj223 DL.nil)
        replace oc := oc.upL hs145 (DL.cons dj224 DL.nil)
        replace ol := ol.upL hs145 (DL.cons dj225 DL.nil)
        replace orr := orr.upL hs145 (DL.cons dj226 DL.nil)
        replace oa := oa.upL hs145 (DL.cons dj227 DL.nil)
        replace mf := mf.upL hs145 (DL.cons dj229.symm DL.nil)
        replace mt := mt.upL hs145 (DL.cons dj230.symm DL.nil)
        replace hm0 := (Mo.trL (ks := []) (hm0.mdn []) hs145 (MIL.cons (MI.app MI.z (nx228) (Nat.le_refl _)) MIL.nil)).nil
        have hz36 := hs145.size
        have hle_op := op.le
        refine LR.nil ?_
        refine hK51 _ _ ?_
        refine CW.seq (fun K52 hK52 hE52 => ?_)
        refine CW.region ?_
        refine LR.v (Y.move rfl rfl) (Wd.u rfl) rfl rfl ?_
        refine LR.v (Y.assign rfl rfl) (Wd.u rfl) rfl rfl ?_
        refine LR.nil ?_
        refine hK52 _ _ ?_
        refine CW.ret (hret .ret (.inr rfl) _ _ _ (res1 rfl rfl) ?_)
        exact ⟨v7, kq, out, rfl, op, nx295, by unfold DetP; rw [hE]; exact ⟨L, by rw [hall]; exact hL.1, hL.2, by rw [← he]; exact hO.1, hO.2⟩, hm0⟩

end Go.Proofs.Ytclhnkmkejijjaa.RenF
