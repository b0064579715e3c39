/-
  The document's pairs: the walk.
-/
import Derived.Test.YtclhnkmkejijjaaRenT
namespace Go.Proofs.Ytclhnkmkejijjaa.RenU
open Go.Proofs.Ytclhnkmkejijjaa.E Go.RowKit Go.Proofs.Ytclhnkmkejijjaa.RenA Go.Proofs.Ytclhnkmkejijjaa.RenB Go.Proofs.Ytclhnkmkejijjaa.RenC Go.Proofs.Ytclhnkmkejijjaa.RenD Go.Proofs.Ytclhnkmkejijjaa.RenE Go.Proofs.Ytclhnkmkejijjaa.RenF Go.Proofs.Ytclhnkmkejijjaa.RenG Go.Proofs.Ytclhnkmkejijjaa.RenH Go.Proofs.Ytclhnkmkejijjaa.RenI Go.Proofs.Ytclhnkmkejijjaa.RenL Go.Proofs.Ytclhnkmkejijjaa.RenM Go.Proofs.Ytclhnkmkejijjaa.RenN Go.Proofs.Ytclhnkmkejijjaa.RenO Go.Proofs.Ytclhnkmkejijjaa.RenS Go.Proofs.Ytclhnkmkejijjaa.RenT
set_option maxRecDepth 20000
set_option linter.unusedVariables false
set_option linter.unusedSimpArgs false
set_option linter.unusedSectionVars false
set_option maxRecDepth 100000 in
theorem inf26 : Inf Try.prog 26 35 3 48 := ⟨Try.underlying26, _, _, rfl, rfl, rfl, rfl, rfl⟩
set_option maxRecDepth 100000 in
theorem inf31 : Inf Try.prog 31 38 3 40 := ⟨Try.underlying31, _, _, rfl, rfl, rfl, rfl, rfl⟩
set_option maxRecDepth 100000 in
theorem inf39 : Inf Try.prog 39 3 1 8 := ⟨Try.underlying39, _, _, rfl, rfl, rfl, rfl, rfl⟩
set_option maxRecDepth 100000 in
theorem inf43 : Inf Try.prog 43 4 1 1 := ⟨Try.underlying43, _, _, rfl, rfl, rfl, rfl, rfl⟩

section
variable {P : Program} {w0 : World} {n : Nat} {l : FL} {H H2 : Heap} {o : Oper} {α : Type} {k : Nat} {e : TypeId} {f : α → List Value} {sz : Nat} {v : Value} {xs : List α}
/-- an element's address, whatever the heap has become -/
theorem _root_.Go.Proofs.Ytclhnkmkejijjaa.E.Y.owAddrX {x i : Operand} {t : TypeId} {k2 : IntKind} {iv : Int} (h : Ow k e H f sz v xs) (j : Nat) (ho : o.op = .indexAddr t x i) (ht : ∀ w, (underlying t).run P w = .ok (.slice e) w) (hs : ∀ w, (sizeOf e).run P w = .ok sz w)
    (hx : opv l x = some v) (hi : opv l i = some (.int k2 iv)) (hj : iv = j) (hlt : j < xs.length) : Y P w0 n l H2 o (.pointer (some ⟨blk v, j * sz, none⟩)) := by
  obtain ⟨h1, h2, cap, h3⟩ := h.own.at hlt
  subst hj
  intro ac w hf ha
  have hx' := hf.eval hx
  rw [h3] at hx'
  simp [execOp, ho, hx', hf.eval hi, Instr.indexAt, asIntOf, ht, hs, hlt, add_eq]
end
theorem gone_R {cs : List Ch} {gone : List Fl} {F : Nat → Prop} {H : Heap} (hg : goneL cs = gone) (h : ∀ c ∈ cs, FlR F H c.o) : ∀ x ∈ gone, FlR (fun _ => True) H x := by
  intro x hx
  rw [← hg] at hx
  obtain ⟨c, hc, rfl, _⟩ := goneL_mem hx
  exact (h c hc).any
theorem come_R {cs : List Ch} {come : List Fl} {F : Nat → Prop} {H : Heap} (hg : comeL cs = come) (h : ∀ c ∈ cs, FlR F H c.n) : ∀ x ∈ come, FlR (fun _ => True) H x := by
  intro x hx
  rw [← hg] at hx
  obtain ⟨c, hc, rfl, _⟩ := comeL_mem hx
  exact (h c hc).any
theorem gone_P {cs : List Ch} {gone : List Fl} {Q : Fl → Prop} (hg : goneL cs = gone) (h : ∀ c ∈ cs, Q c.o ∧ Q c.n) : ∀ x ∈ gone, Q x := by
  intro x hx
  rw [← hg] at hx
  obtain ⟨c, hc, rfl, _⟩ := goneL_mem hx
  exact (h c hc).1
theorem come_P {cs : List Ch} {come : List Fl} {Q : Fl → Prop} (hg : comeL cs = come) (h : ∀ c ∈ cs, Q c.o ∧ Q c.n) : ∀ x ∈ come, Q x := by
  intro x hx
  rw [← hg] at hx
  obtain ⟨c, hc, rfl, _⟩ := comeL_mem hx
  exact (h c hc).2
theorem rst_ge {f : Fl} {come : List Fl} {u : List Bool} {k : Nat} (h : ¬ rst f come u k < 0) : ∃ q : Nat, rst f come u k = q ∧ q < k := by
  have := rst_rng f come u k
  exact ⟨(rst f come u k).toNat, by omega, by omega⟩
theorem rst_yes {f : Fl} {come : List Fl} {u : List Bool} {k : Nat} (hk : k < come.length) (hu : u.length = come.length) (h : u[k]'(by omega) = false) (hd : come[k].d = f.d) (h2 : rst f come u k < 0 ∨ ∃ h : (rst f come u k).toNat < come.length, lastL (come[(rst f come u k).toNat]).p ≠ lastL f.p ∧ lastL come[k].p = lastL f.p) : rst f come u (k + 1) = k := by
  rw [rst_free hk hu h, if_pos ⟨hd, h2.imp id (fun ⟨h3, h4⟩ => ⟨_, List.getElem?_eq_getElem h3, h4⟩)⟩]
theorem rst_no {f : Fl} {come : List Fl} {u : List Bool} {k : Nat} (hk : k < come.length) (hu : u.length = come.length) (h : ¬ (u[k]'(by omega) = false ∧ come[k].d = f.d ∧ (rst f come u k < 0 ∨ ∃ h : (rst f come u k).toNat < come.length, lastL (come[(rst f come u k).toNat]).p ≠ lastL f.p ∧ lastL come[k].p = lastL f.p))) : rst f come u (k + 1) = rst f come u k := by
  cases hu2 : u[k]'(by omega) with
  | true => exact rst_used hk hu hu2
  | false =>
    rw [rst_free hk hu hu2, if_neg]
    rintro ⟨h1, h3⟩
    refine h ⟨hu2, h1, h3.imp id ?_⟩
    rintro ⟨x, h4, h5⟩
    obtain ⟨h6, h7⟩ := List.getElem?_eq_some_iff.1 h4
    exact ⟨h6, by rw [h7]; exact h5⟩

set_option maxHeartbeats 8000000 in
theorem rdetect_ct (v : Value) (cs : List Ch) (w0 : World) (H0 : Heap)
    (hl : RdT H0 fCh 6 v cs) (hxo : ∀ c ∈ cs, FlR (fun _ => True) H0 c.o) (hxn : ∀ c ∈ cs, FlR (fun _ => True) H0 c.n) (hcl : cs.length ≤ 1048576) (hbd : ∀ c ∈ cs, (c.o.p.length ≤ 9223372036854775806 ∧ c.o.d.length ≤ 1048576) ∧ (c.n.p.length ≤ 9223372036854775806 ∧ c.n.d.length ≤ 1048576)) (hasc : Asc (goneL cs)) (hndc : ((comeL cs).map (·.p)).Nodup) :
    Ct Try.prog w0 18 #[v] H0 (fun r H2 => ∃ vr : Value, ∃ kr : Nat, ∃ out : List Pr, r = vr ∧ (Ow kr 38 H2 fPr 3 vr out) ∧ (Nx 0 H0.size kr) ∧ (DetP cs out) ∧ Nw H0 H2) := by
  refine Ct.enter (args := [v]) Try.func18 rfl rfl rfl ?_
  intro Q0 hret
  have hm0 : Nw H0 H0 := Mo.refl _ _
  replace hl := hl.bnd
  have bf_hl := Rd.bf hl
  replace hxo := fun c hx0 => (hxo c hx0).bnd
  have bf_hxo : BF (fun b => True ∧ b < H0.size) H0.size := fun b h => h.2
  replace hxn := fun c hx1 => (hxn c hx1).bnd
  have bf_hxn : BF (fun b => True ∧ b < H0.size) H0.size := fun b h => h.2
  refine CW.seq (fun K1 hK1 hE1 => ?_)
  refine CW.region ?_
  refine LR.v (Y.assign rfl rfl) (Wd.u rfl) rfl rfl ?_
  refine LR.nil ?_
  refine hK1 _ _ ?_
  refine CW.seq (fun K2 hK2 hE2 => ?_)
  refine CW.region ?_
  refine LR.v (Y.assign rfl rfl) (Wd.u rfl) rfl rfl ?_
  refine LR.v (Y.assign rfl rfl) (Wd.u rfl) rfl rfl ?_
  refine LR.nil ?_
  refine hK2 _ _ ?_
  refine CW.seq (fun K3 hK3 hE3 => ?_)
  refine CW.seq (fun K4 hK4 hE4 => ?_)
  refine CW.region ?_
  refine LR.v (Y.assign rfl rfl) (Wd.u rfl) rfl rfl ?_
  refine LR.nil ?_
  refine hK4 _ _ ?_
  refine CW.block (fun K5 hK5 hX5 hE5 => ?_)
  refine CW.loop (fun (s_ : (Nat) × (Value) × (Nat) × (Value) × (Nat) × (List Fl) × (List Fl)) => match s_ with | (i, vg, kg, vc, kc, gone, come) => [(0, v), (3, vg), (4, vc), (5, .int .i64 i)])
    (fun (s_ : (Nat) × (Value) × (Nat) × (Value) × (Nat) × (List Fl) × (List Fl)) (H : Heap) => match s_ with | (i, vg, kg, vc, kc, gone, come) => (i ≤ cs.length) ∧ (Ow kg 35 H fFl 3 vg gone) ∧ (Ow kc 35 H fFl 3 vc come) ∧ (goneL (cs.take i) = gone) ∧ (comeL (cs.take i) = come) ∧ (Nx 0 H0.size kg) ∧ (Nx 0 H0.size kc) ∧ (Dj kg kc) ∧ Nw H0 H)
    (fun (s_ : (Nat) × (Value) × (Nat) × (Value) × (Nat) × (List Fl) × (List Fl)) => match s_ with | (i, vg, kg, vc, kc, gone, come) => cs.length - i) (0, .slice none 0 0, 0, .slice none 0 0, 0, [], []) ⟨rfl, rfl, rfl, rfl, trivial⟩ ?_ ?_
  ·
    exact ⟨(by omega), Ow.nil fFl_len fFl_one, Ow.nil fFl_len fFl_one, rfl, rfl, Nx.refl _ _, Nx.refl _ _, Dj.z, Mo.refl _ _⟩
  rintro ⟨i, vg, kg, vc, kc, gone, come⟩ HL1 hI1 K6 hN6 hE6
  obtain ⟨hi, og, oc, hg, hc, nxl_og, nxl_oc, dj_og_oc, hlm1⟩ := hI1
  have df1 := DF.app (DF.z) (bf_hl.mono hm0.size) nxl_og
  have df2 := DF.app (DF.z) (bf_hxo.mono hm0.size) nxl_og
  have df3 := DF.app (DF.z) (bf_hxn.mono hm0.size) nxl_og
  have nx4 : Nx 0 H0.size kg := Nx.tr (Nx.refl 0 _) nxl_og hm0.size
  have df5 := DF.app (DF.z) (bf_hl.mono hm0.size) nxl_oc
  have df6 := DF.app (DF.z) (bf_hxo.mono hm0.size) nxl_oc
  have df7 := DF.app (DF.z) (bf_hxn.mono hm0.size) nxl_oc
  have nx8 : Nx 0 H0.size kc := Nx.tr (Nx.refl 0 _) nxl_oc hm0.size
  replace hl := hl.nw hlm1
  replace hxo := fun c hx0 => (hxo c hx0).nw hlm1
  replace hxn := fun c hx1 => (hxn c hx1).nw hlm1
  replace hm0 := hm0.tr hlm1
  have hz1 := hlm1.size
  have hle_og := og.le
  have hle_oc := oc.le
  have dj9 := dj_og_oc
  have nx10 := nxl_og
  have nx11 := nxl_oc
  refine CW.seq (fun K7 hK7 hE7 => ?_)
  refine CW.seq (fun K8 hK8 hE8 => ?_)
  refine CW.region ?_
  refine LR.v (Y.move rfl rfl) (Wd.u rfl) rfl rfl ?_
  refine LR.v (Y.move rfl rfl) (Wd.u rfl) rfl rfl ?_
  refine LR.v (Y.len hl rfl Try.runUnderlying28 rfl) (Wd.u rfl) rfl rfl ?_
  refine LR.v (Y.lss rfl rfl rfl) (Wd.u rfl) rfl rfl ?_
  refine LR.nil ?_
  refine hK8 _ _ ?_
  refine CW.condp rfl (fun c27 => ?_) (fun c27 => ?_)
  ·
    refine CW.skip ?_
    refine hK7 _ _ ?_
    refine CW.seq (fun K9 hK9 hE9 => ?_)
    refine CW.block (fun K10 hK10 hX10 hE10 => ?_)
    refine CW.cut (fun (s_ : (Value) × (Nat) × (List Fl)) => match s_ with | (vg2, kg2, gone2) => [(0, v), (3, vg2), (4, vc), (5, .int .i64 i)])
      (fun (s_ : (Value) × (Nat) × (List Fl)) (H : Heap) => match s_ with | (vg2, kg2, gone2) => (Ow kg2 35 H fFl 3 vg2 gone2) ∧ (goneL (cs.take (i + 1)) = gone2) ∧ (Nx kg HL1.size kg2) ∧ Mo (Ms [kg]) HL1 H) (fun K11 hK11 hE11 => ?_) ?_
    ·
      have hcm11 : Mo (Ms [kg]) HL1 HL1 := Mo.refl _ _
      have nx_hcm11_og := Nx.refl kg HL1.size
      refine CW.seq (fun K12 hK12 hE12 => ?_)
      refine CW.region ?_
      refine LR.v (Y.move rfl rfl) (Wd.u rfl) rfl rfl ?_
      refine LR.v (Y.move rfl rfl) (Wd.u rfl) rfl rfl ?_
      have hil : i < cs.length := by omega
      have hgl : gone.length ≤ i := by rw [← hg]; have h9 := goneL_len (cs.take i); rw [List.length_take] at h9; omega
      have hcl2 : come.length ≤ i := by rw [← hc]; have h9 := comeL_len (cs.take i); rw [List.length_take] at h9; omega
      refine LR.e (g := fun ad => .pointer (some ad)) (Y.indexAddrF hl (i) rfl Try.runUnderlying28 Try.sizeOf49 rfl rfl (by first | rfl | omega) (by first | omega | (simp; omega) | (simp; done))) (Wd.u rfl) rfl rfl (fun ad32 pt32 => ?_)
      have bf_pt32 := bf_hl
      refine LR.v (Y.fieldAddr pt32.pt rfl Try.runUnderlying49 rfl rfl Try.sizeOf35 (by decide) rfl) (Wd.u rfl) rfl rfl ?_
      refine LR.v (Y.fieldAddr (pt32.pt.drop 3) rfl Try.runUnderlying35 rfl rfl Try.sizeOf3 (by decide) rfl) (Wd.u rfl) rfl rfl ?_
      refine LR.v (Y.load1 ((pt32.pt.drop 3).drop 1) rfl Try.isAgg3 rfl) (Wd.u rfl) rfl rfl ?_
      refine LR.v (Y.eql rfl rfl rfl) (Wd.u rfl) rfl rfl ?_
      refine LR.v (Y.move rfl rfl) (Wd.u rfl) rfl rfl ?_
      refine LR.splitp (d := 37) rfl (fun g37 => ?_) (fun g37 => ?_)
      ·
        refine LR.v (Y.move rfl rfl) (Wd.g rfl rfl rfl) rfl rfl ?_
        refine LR.v (Y.move rfl rfl) (Wd.g rfl rfl rfl) rfl rfl ?_
        refine LR.e (g := fun ad => .pointer (some ad)) (Y.indexAddrF hl (i) rfl Try.runUnderlying28 Try.sizeOf49 rfl rfl (by first | rfl | omega) (by first | omega | (simp; omega) | (simp; done))) (Wd.g rfl rfl rfl) rfl rfl (fun ad40 pt40 => ?_)
        have bf_pt40 := bf_hl
        refine LR.v (Y.fieldAddr pt40.pt rfl Try.runUnderlying49 rfl rfl Try.sizeOf35 (by decide) rfl) (Wd.g rfl rfl rfl) rfl rfl ?_
        refine LR.v (Y.cast (v2 := .agg (fFl cs[i].o).toArray) (Y.loadN ((pt40.pt.drop 0).take 3) rfl Try.isAgg35 Try.sizeOf35 (rfl) rfl) (rfl)) (Wd.g rfl rfl rfl) rfl rfl ?_
        -- call selvage/selvageref16.counts
        refine LR.call rfl Try.call37 rfl (Wd.g rfl rfl rfl) rfl rfl (rcnt_ct cs[i].o w0 _ (hxo cs[i] (List.getElem_mem hil)).any) (fun v43 H43 r43 => ?_)
        obtain ⟨rfl, hs43⟩ := r43
        replace hl := hl.nw hs43
        replace hxo := fun c hx0 => (hxo c hx0).nw hs43
        replace hxn := fun c hx1 => (hxn c hx1).nw hs43
        replace og := og.nw hs43
        replace oc := oc.nw hs43
        replace pt32 := pt32.nw hs43
        replace pt40 := pt40.nw hs43
        replace hm0 := hm0.tr hs43
        replace hlm1 := hlm1.tr hs43
        replace hcm11 := hcm11.trN hs43
        have hz2 := hs43.size
        refine LR.v (Y.pick_t rfl rfl rfl) (Wd.u rfl) rfl rfl ?_
        refine LR.nil ?_
        refine hK12 _ _ ?_
        refine CW.cond rfl (fun c44 => ?_) (fun c44 => ?_)
        ·
          refine CW.region ?_
          refine LR.v (Y.move rfl rfl) (Wd.u rfl) rfl rfl ?_
          refine LR.v (Y.move rfl rfl) (Wd.u rfl) rfl rfl ?_
          refine LR.v (Y.move rfl rfl) (Wd.u rfl) rfl rfl ?_
          refine LR.e (g := fun ad => .pointer (some ad)) (Y.indexAddrF hl (i) rfl Try.runUnderlying28 Try.sizeOf49 rfl rfl (by first | rfl | omega) (by first | omega | (simp; omega) | (simp; done))) (Wd.u rfl) rfl rfl (fun ad48 pt48 => ?_)
          have bf_pt48 := bf_hl
          refine LR.v (Y.fieldAddr pt48.pt rfl Try.runUnderlying49 rfl rfl Try.sizeOf35 (by decide) rfl) (Wd.u rfl) rfl rfl ?_
          refine LR.v (Y.cast (v2 := .agg (fFl cs[i].o).toArray) (Y.loadN ((pt48.pt.drop 0).take 3) rfl Try.isAgg35 Try.sizeOf35 (rfl) rfl) (rfl)) (Wd.u rfl) rfl rfl ?_
          refine LR.z (Z.litw _ ([cs[i].o]) rfl inf26 rfl rfl rfl (by decide) (by decide) fFl_len fFl_one (rfl)) (Wd.u rfl) rfl rfl (fun v51 H51 r51 => ?_)
          obtain ⟨nw51, hs51, ob51, hH51⟩ := r51
          have hzs51 : H51.size = H43.size + 1 := by rw [hH51]; simp
          have df12 := (DF.new (bf_hl.mono hm0.size) : DF _ (H43.size + 1))
          have df13 := (DF.new (bf_hxo.mono hm0.size) : DF _ (H43.size + 1))
          have df14 := (DF.new (bf_hxn.mono hm0.size) : DF _ (H43.size + 1))
          have dj15 : Dj kg (H43.size + 1) := Dj.new og.le
          have dj16 : Dj kc (H43.size + 1) := Dj.new oc.le
          have df17 := (DF.new (bf_pt48.mono hm0.size) : DF _ (H43.size + 1))
          have nx18 : Nx 0 H0.size (H43.size + 1) := Nx.new hm0.size
          have nx19 : Nx 0 H0.size (H43.size + 1) := Nx.new hlm1.size
          have nx20 : Nx 0 HL1.size (H43.size + 1) := Nx.new hcm11.size
          replace hl := hl.nw hs51
          replace hxo := fun c hx0 => (hxo c hx0).nw hs51
          replace hxn := fun c hx1 => (hxn c hx1).nw hs51
          replace og := og.nw hs51
          replace oc := oc.nw hs51
          replace pt48 := pt48.nw hs51
          replace hm0 := hm0.tr hs51
          replace hlm1 := hlm1.tr hs51
          replace hcm11 := hcm11.trN hs51
          have hz3 := hs51.size
          refine LR.z (Z.apnd og nw51.rd rfl inf26 rfl rfl (by simp; omega) (by simp; omega)) (Wd.u rfl) rfl rfl (fun v52 H52 r52 => ?_)
          obtain ⟨k52, og, hk52, hs52⟩ := r52
          replace hk52 : Nx kg H51.size k52 := hk52
          replace hs52 := hs52.md
          have df21 := DF.app (df1) (bf_hl.mono hm0.size) hk52
          have df22 := DF.app (df2) (bf_hxo.mono hm0.size) hk52
          have df23 := DF.app (df3) (bf_hxn.mono hm0.size) hk52
          have dj24 : Dj kc k52 := Dj.app (dj9.symm) oc.le hk52
          have df25 := DF.app (df1) (bf_pt48.mono hm0.size) hk52
          have dj26 : Dj (H43.size + 1) k52 := Dj.app (dj15.symm) nw51.le hk52
          have nx27 : Nx 0 H0.size k52 := Nx.tr (nx4) hk52 hm0.size
          have nx28 : Nx 0 H0.size k52 := Nx.tr (nx10) hk52 hlm1.size
          have nx29 : Nx kg HL1.size k52 := Nx.tr (nx_hcm11_og) hk52 hcm11.size
          replace hl := hl.upL hs52 (DFL.cons df1 DFL.nil)
          replace hxo := fun c hx0 => (hxo c hx0).upL hs52 (DFL.cons df2 DFL.nil)
          replace hxn := fun c hx1 => (hxn c hx1).upL hs52 (DFL.cons df3 DFL.nil)
          replace oc := oc.upL hs52 (DL.cons dj9.symm DL.nil)
          replace pt48 := pt48.upL hs52 (DFL.cons df1 DFL.nil)
          replace nw51 := nw51.upL hs52 (DL.cons dj15.symm DL.nil)
          replace hm0 := (Mo.trL (ks := []) (hm0.mdn []) hs52 (MIL.cons (MI.app MI.z (nx4) (Nat.le_refl _)) MIL.nil)).nil
          replace hlm1 := (Mo.trL (ks := []) (hlm1.mdn []) hs52 (MIL.cons (MI.app MI.z (nx10) (Nat.le_refl _)) MIL.nil)).nil
          replace hcm11 := hcm11.trL hs52 (MIL.cons (MI.app (MI.root (by simp)) (nx_hcm11_og) (Nat.le_refl _)) MIL.nil)
          have hz4 := hs52.size
          have hle_og := og.le
          refine LR.v (Y.assign rfl rfl) (Wd.u rfl) rfl rfl ?_
          refine LR.nil ?_
          refine QN.sub (hK11 (v52, k52, gone ++ [cs[i].o]) _ ?_) ⟨rfl, rfl, rfl, (iv (by omega)), trivial⟩
          exact ⟨og, by rw [goneL_step hil, if_pos ⟨by omega, by assumption⟩, hg], nx29, hcm11⟩
        ·
          refine CW.skip ?_
          refine QN.sub (hK11 (vg, kg, gone) _ ?_) ⟨rfl, rfl, rfl, (iv (by omega)), trivial⟩
          exact ⟨og, by rw [goneL_step hil, if_neg (by rintro ⟨h1, h2⟩; first | contradiction | omega | simp_all), hg], nx_hcm11_og, hcm11⟩
      ·
        refine LR.gs rfl rfl rfl rfl rfl rfl ?_
        refine LR.gs rfl rfl rfl rfl rfl rfl ?_
        refine LR.gs rfl rfl rfl rfl rfl rfl ?_
        refine LR.gs rfl rfl rfl rfl rfl rfl ?_
        refine LR.gs rfl rfl rfl rfl rfl rfl ?_
        refine LR.gs rfl rfl rfl rfl rfl rfl ?_
        refine LR.v (Y.pick_f rfl rfl rfl) (Wd.u rfl) rfl rfl ?_
        refine LR.nil ?_
        refine hK12 _ _ ?_
        refine CW.cond_f rfl ?_
        refine CW.skip ?_
        refine QN.sub (hK11 (vg, kg, gone) _ ?_) ⟨rfl, rfl, rfl, (iv (by omega)), trivial⟩
        exact ⟨og, by rw [goneL_step hil, if_neg (by rintro ⟨h1, h2⟩; first | contradiction | omega | simp_all), hg], nx_hcm11_og, hcm11⟩
    ·
      rintro ⟨vg2, kg2, gone2⟩ Hcutc44 hIcutc44
      obtain ⟨og, hg2, nxl_og, hlmcutc44⟩ := hIcutc44
      have df30 := DF.app (df1) (bf_hl.mono hm0.size) nxl_og
      have df31 := DF.app (df2) (bf_hxo.mono hm0.size) nxl_og
      have df32 := DF.app (df3) (bf_hxn.mono hm0.size) nxl_og
      have dj33 : Dj kc kg2 := Dj.app (dj9.symm) oc.le nxl_og
      have nx34 : Nx 0 H0.size kg2 := Nx.tr (nx4) nxl_og hm0.size
      have nx35 : Nx 0 H0.size kg2 := Nx.tr (nx10) nxl_og hlm1.size
      replace hl := hl.upL hlmcutc44 (DFL.cons df1 DFL.nil)
      replace hxo := fun c hx0 => (hxo c hx0).upL hlmcutc44 (DFL.cons df2 DFL.nil)
      replace hxn := fun c hx1 => (hxn c hx1).upL hlmcutc44 (DFL.cons df3 DFL.nil)
      replace oc := oc.upL hlmcutc44 (DL.cons dj9.symm DL.nil)
      replace hm0 := (Mo.trL (ks := []) (hm0.mdn []) hlmcutc44 (MIL.cons (MI.app MI.z (nx4) (Nat.le_refl _)) MIL.nil)).nil
      replace hlm1 := (Mo.trL (ks := []) (hlm1.mdn []) hlmcutc44 (MIL.cons (MI.app MI.z (nx10) (Nat.le_refl _)) MIL.nil)).nil
      have hz5 := hlmcutc44.size
      have hle_og := og.le
      have nx36 := nxl_og
      have hil : i < cs.length := by omega
      have hgl : gone.length ≤ i := by rw [← hg]; have h9 := goneL_len (cs.take i); rw [List.length_take] at h9; omega
      have hcl2 : come.length ≤ i := by rw [← hc]; have h9 := comeL_len (cs.take i); rw [List.length_take] at h9; omega
      refine CW.seq (fun K13 hK13 hE13 => ?_)
      refine CW.region ?_
      refine LR.v (Y.move rfl rfl) (Wd.u rfl) rfl rfl ?_
      refine LR.v (Y.move rfl rfl) (Wd.u rfl) rfl rfl ?_
      refine LR.e (g := fun ad => .pointer (some ad)) (Y.indexAddrF hl (i) rfl Try.runUnderlying28 Try.sizeOf49 rfl rfl (by first | rfl | omega) (by first | omega | (simp; omega) | (simp; done))) (Wd.u rfl) rfl rfl (fun ad55 pt55 => ?_)
      have bf_pt55 := bf_hl
      refine LR.v (Y.fieldAddr pt55.pt rfl Try.runUnderlying49 rfl rfl Try.sizeOf35 (by decide) rfl) (Wd.u rfl) rfl rfl ?_
      refine LR.v (Y.fieldAddr (pt55.pt.drop 0) rfl Try.runUnderlying35 rfl rfl Try.sizeOf3 (by decide) rfl) (Wd.u rfl) rfl rfl ?_
      refine LR.v (Y.load1 ((pt55.pt.drop 0).drop 1) rfl Try.isAgg3 rfl) (Wd.u rfl) rfl rfl ?_
      refine LR.v (Y.eql rfl rfl rfl) (Wd.u rfl) rfl rfl ?_
      refine LR.v (Y.move rfl rfl) (Wd.u rfl) rfl rfl ?_
      refine LR.splitp (d := 60) rfl (fun g60 => ?_) (fun g60 => ?_)
      ·
        refine LR.v (Y.move rfl rfl) (Wd.g rfl rfl rfl) rfl rfl ?_
        refine LR.v (Y.move rfl rfl) (Wd.g rfl rfl rfl) rfl rfl ?_
        refine LR.e (g := fun ad => .pointer (some ad)) (Y.indexAddrF hl (i) rfl Try.runUnderlying28 Try.sizeOf49 rfl rfl (by first | rfl | omega) (by first | omega | (simp; omega) | (simp; done))) (Wd.g rfl rfl rfl) rfl rfl (fun ad63 pt63 => ?_)
        have bf_pt63 := bf_hl
        refine LR.v (Y.fieldAddr pt63.pt rfl Try.runUnderlying49 rfl rfl Try.sizeOf35 (by decide) rfl) (Wd.g rfl rfl rfl) rfl rfl ?_
        refine LR.v (Y.cast (v2 := .agg (fFl cs[i].n).toArray) (Y.loadN (pt63.pt.drop 3) rfl Try.isAgg35 Try.sizeOf35 (rfl) rfl) (rfl)) (Wd.g rfl rfl rfl) rfl rfl ?_
        -- call selvage/selvageref16.counts
        refine LR.call rfl Try.call37 rfl (Wd.g rfl rfl rfl) rfl rfl (rcnt_ct cs[i].n w0 _ (hxn cs[i] (List.getElem_mem hil)).any) (fun v66 H66 r66 => ?_)
        obtain ⟨rfl, hs66⟩ := r66
        replace hl := hl.nw hs66
        replace hxo := fun c hx0 => (hxo c hx0).nw hs66
        replace hxn := fun c hx1 => (hxn c hx1).nw hs66
        replace og := og.nw hs66
        replace oc := oc.nw hs66
        replace pt55 := pt55.nw hs66
        replace pt63 := pt63.nw hs66
        replace hm0 := hm0.tr hs66
        replace hlm1 := hlm1.tr hs66
        have hz6 := hs66.size
        refine LR.v (Y.pick_t rfl rfl rfl) (Wd.u rfl) rfl rfl ?_
        refine LR.nil ?_
        refine hK13 _ _ ?_
        refine CW.cond rfl (fun c67 => ?_) (fun c67 => ?_)
        ·
          refine CW.region ?_
          refine LR.v (Y.move rfl rfl) (Wd.u rfl) rfl rfl ?_
          refine LR.v (Y.move rfl rfl) (Wd.u rfl) rfl rfl ?_
          refine LR.v (Y.move rfl rfl) (Wd.u rfl) rfl rfl ?_
          refine LR.e (g := fun ad => .pointer (some ad)) (Y.indexAddrF hl (i) rfl Try.runUnderlying28 Try.sizeOf49 rfl rfl (by first | rfl | omega) (by first | omega | (simp; omega) | (simp; done))) (Wd.u rfl) rfl rfl (fun ad71 pt71 => ?_)
          have bf_pt71 := bf_hl
          refine LR.v (Y.fieldAddr pt71.pt rfl Try.runUnderlying49 rfl rfl Try.sizeOf35 (by decide) rfl) (Wd.u rfl) rfl rfl ?_
          refine LR.v (Y.cast (v2 := .agg (fFl cs[i].n).toArray) (Y.loadN (pt71.pt.drop 3) rfl Try.isAgg35 Try.sizeOf35 (rfl) rfl) (rfl)) (Wd.u rfl) rfl rfl ?_
          refine LR.z (Z.litw _ ([cs[i].n]) rfl inf26 rfl rfl rfl (by decide) (by decide) fFl_len fFl_one (rfl)) (Wd.u rfl) rfl rfl (fun v74 H74 r74 => ?_)
          obtain ⟨nw74, hs74, ob74, hH74⟩ := r74
          have hzs74 : H74.size = H66.size + 1 := by rw [hH74]; simp
          have df37 := (DF.new (bf_hl.mono hm0.size) : DF _ (H66.size + 1))
          have df38 := (DF.new (bf_hxo.mono hm0.size) : DF _ (H66.size + 1))
          have df39 := (DF.new (bf_hxn.mono hm0.size) : DF _ (H66.size + 1))
          have dj40 : Dj kg2 (H66.size + 1) := Dj.new og.le
          have dj41 : Dj kc (H66.size + 1) := Dj.new oc.le
          have df42 := (DF.new (bf_pt71.mono hm0.size) : DF _ (H66.size + 1))
          have nx43 : Nx 0 H0.size (H66.size + 1) := Nx.new hm0.size
          have nx44 : Nx 0 H0.size (H66.size + 1) := Nx.new hlm1.size
          replace hl := hl.nw hs74
          replace hxo := fun c hx0 => (hxo c hx0).nw hs74
          replace hxn := fun c hx1 => (hxn c hx1).nw hs74
          replace og := og.nw hs74
          replace oc := oc.nw hs74
          replace pt71 := pt71.nw hs74
          replace hm0 := hm0.tr hs74
          replace hlm1 := hlm1.tr hs74
          have hz7 := hs74.size
          refine LR.z (Z.apnd oc nw74.rd rfl inf26 rfl rfl (by simp; omega) (by simp; omega)) (Wd.u rfl) rfl rfl (fun v75 H75 r75 => ?_)
          obtain ⟨k75, oc, hk75, hs75⟩ := r75
          replace hk75 : Nx kc H74.size k75 := hk75
          replace hs75 := hs75.md
          have df45 := DF.app (df5) (bf_hl.mono hm0.size) hk75
          have df46 := DF.app (df6) (bf_hxo.mono hm0.size) hk75
          have df47 := DF.app (df7) (bf_hxn.mono hm0.size) hk75
          have dj48 : Dj kg2 k75 := Dj.app (dj33.symm) og.le hk75
          have df49 := DF.app (df5) (bf_pt71.mono hm0.size) hk75
          have dj50 : Dj (H66.size + 1) k75 := Dj.app (dj41.symm) nw74.le hk75
          have nx51 : Nx 0 H0.size k75 := Nx.tr (nx8) hk75 hm0.size
          have nx52 : Nx 0 H0.size k75 := Nx.tr (nx11) hk75 hlm1.size
          replace hl := hl.upL hs75 (DFL.cons df5 DFL.nil)
          replace hxo := fun c hx0 => (hxo c hx0).upL hs75 (DFL.cons df6 DFL.nil)
          replace hxn := fun c hx1 => (hxn c hx1).upL hs75 (DFL.cons df7 DFL.nil)
          replace og := og.upL hs75 (DL.cons dj33.symm DL.nil)
          replace pt71 := pt71.upL hs75 (DFL.cons df5 DFL.nil)
          replace nw74 := nw74.upL hs75 (DL.cons dj41.symm DL.nil)
          replace hm0 := (Mo.trL (ks := []) (hm0.mdn []) hs75 (MIL.cons (MI.app MI.z (nx8) (Nat.le_refl _)) MIL.nil)).nil
          replace hlm1 := (Mo.trL (ks := []) (hlm1.mdn []) hs75 (MIL.cons (MI.app MI.z (nx11) (Nat.le_refl _)) MIL.nil)).nil
          have hz8 := hs75.size
          have hle_oc := oc.le
          refine LR.v (Y.assign rfl rfl) (Wd.u rfl) rfl rfl ?_
          refine LR.nil ?_
          refine hK10 _ _ ?_
          refine hK9 _ _ ?_
          refine CW.region ?_
          refine LR.v (Y.move rfl rfl) (Wd.u rfl) rfl rfl ?_
          refine LR.v (Y.addi rfl rfl rfl (by omega)) (Wd.u rfl) rfl rfl ?_
          refine LR.v (Y.assign rfl rfl) (Wd.u rfl) rfl rfl ?_
          refine LR.nil ?_
          refine QN.sub (hN6 (i + 1, vg2, kg2, v75, k75, gone2, come ++ [cs[i].n]) _ ?_ ?_) ⟨rfl, rfl, rfl, (iv (by omega)), trivial⟩
          · exact ⟨(by omega), og, oc, hg2, by rw [comeL_step hil, if_pos ⟨by omega, by assumption⟩, hc], nx35, nx52, dj48, hlm1⟩
          · first | omega | (simp only; omega) | (simp; omega)
        ·
          refine CW.skip ?_
          refine hK10 _ _ ?_
          refine hK9 _ _ ?_
          refine CW.region ?_
          refine LR.v (Y.move rfl rfl) (Wd.u rfl) rfl rfl ?_
          refine LR.v (Y.addi rfl rfl rfl (by omega)) (Wd.u rfl) rfl rfl ?_
          refine LR.v (Y.assign rfl rfl) (Wd.u rfl) rfl rfl ?_
          refine LR.nil ?_
          refine QN.sub (hN6 (i + 1, vg2, kg2, vc, kc, gone2, come) _ ?_ ?_) ⟨rfl, rfl, rfl, (iv (by omega)), trivial⟩
          · exact ⟨(by omega), og, oc, hg2, by rw [comeL_step hil, if_neg (by rintro ⟨h1, h2⟩; first | contradiction | omega | simp_all), hc], nx35, nx11, dj33.symm, hlm1⟩
          · first | omega | (simp only; omega) | (simp; omega)
      ·
        refine LR.gs rfl rfl rfl rfl rfl rfl ?_
        refine LR.gs rfl rfl rfl rfl rfl rfl ?_
        refine LR.gs rfl rfl rfl rfl rfl rfl ?_
        refine LR.gs rfl rfl rfl rfl rfl rfl ?_
        refine LR.gs rfl rfl rfl rfl rfl rfl ?_
        refine LR.gs rfl rfl rfl rfl rfl rfl ?_
        refine LR.v (Y.pick_f rfl rfl rfl) (Wd.u rfl) rfl rfl ?_
        refine LR.nil ?_
        refine hK13 _ _ ?_
        refine CW.cond_f rfl ?_
        refine CW.skip ?_
        refine hK10 _ _ ?_
        refine hK9 _ _ ?_
        refine CW.region ?_
        refine LR.v (Y.move rfl rfl) (Wd.u rfl) rfl rfl ?_
        refine LR.v (Y.addi rfl rfl rfl (by omega)) (Wd.u rfl) rfl rfl ?_
        refine LR.v (Y.assign rfl rfl) (Wd.u rfl) rfl rfl ?_
        refine LR.nil ?_
        refine QN.sub (hN6 (i + 1, vg2, kg2, vc, kc, gone2, come) _ ?_ ?_) ⟨rfl, rfl, rfl, (iv (by omega)), trivial⟩
        · exact ⟨(by omega), og, oc, hg2, by rw [comeL_step hil, if_neg (by rintro ⟨h1, h2⟩; first | contradiction | omega | simp_all), hc], nx35, nx11, dj33.symm, hlm1⟩
        · first | omega | (simp only; omega) | (simp; omega)
  ·
    have hil : i = cs.length := by omega
    rw [hil, List.take_length] at hg hc
    have hgl : gone.length ≤ cs.length := by rw [← hg]; exact goneL_len cs
    have hcl2 : come.length ≤ cs.length := by rw [← hc]; exact comeL_len cs
    have hgP := gone_P (Q := fun x => x.p.length ≤ 9223372036854775806 ∧ x.d.length ≤ 1048576) hg hbd
    have hcP := come_P (Q := fun x => x.p.length ≤ 9223372036854775806 ∧ x.d.length ≤ 1048576) hc hbd
    have hng : (gone.map (·.p)).Nodup := by rw [← hg]; exact hasc.nodup
    have hnc : (come.map (·.p)).Nodup := by rw [← hc]; exact hndc
    refine CW.exit (hE7 (.exit 0) nofun _ _ (hE6 (.exit 0) nofun _ _ (hX5 _ _ ?_)))
    refine hK3 _ _ ?_
    refine CW.seq (fun K14 hK14 hE14 => ?_)
    refine CW.region ?_
    refine LR.v (Y.move rfl rfl) (Wd.u rfl) rfl rfl ?_
    refine LR.v (Y.len og.rd rfl Try.runUnderlying26 rfl) (Wd.u rfl) rfl rfl ?_
    refine LR.z (Z.makew (gone.length) ((0 : Int)) rfl inf39 Try.zeroValue3 rfl fI_len fI_one rfl rfl (by first | rfl | omega) (by omega) (by omega)) (Wd.u rfl) rfl rfl (fun v78 H78 r78 => ?_)
    obtain ⟨ot, hs78, ob78, hH78⟩ := r78
    have hzs78 : H78.size = HL1.size + 1 := by rw [hH78]; simp
    have df53 := (DF.new (bf_hl.mono hm0.size) : DF _ (HL1.size + 1))
    have df54 := (DF.new (bf_hxo.mono hm0.size) : DF _ (HL1.size + 1))
    have df55 := (DF.new (bf_hxn.mono hm0.size) : DF _ (HL1.size + 1))
    have dj56 : Dj kg (HL1.size + 1) := Dj.new og.le
    have dj57 : Dj kc (HL1.size + 1) := Dj.new oc.le
    have nx58 : Nx 0 H0.size (HL1.size + 1) := Nx.new hm0.size
    replace hl := hl.nw hs78
    replace hxo := fun c hx0 => (hxo c hx0).nw hs78
    replace hxn := fun c hx1 => (hxn c hx1).nw hs78
    replace og := og.nw hs78
    replace oc := oc.nw hs78
    replace hm0 := hm0.tr hs78
    have hz9 := hs78.size
    refine LR.v (Y.assign rfl rfl) (Wd.u rfl) rfl rfl ?_
    refine LR.nil ?_
    refine hK14 _ _ ?_
    refine CW.seq (fun K15 hK15 hE15 => ?_)
    refine CW.region ?_
    refine LR.v (Y.move rfl rfl) (Wd.u rfl) rfl rfl ?_
    refine LR.v (Y.len oc.rd rfl Try.runUnderlying26 rfl) (Wd.u rfl) rfl rfl ?_
    refine LR.z (Z.makew (come.length) (false) rfl inf43 Try.zeroValue4 rfl fO_len fO_one rfl rfl (by first | rfl | omega) (by omega) (by omega)) (Wd.u rfl) rfl rfl (fun v81 H81 r81 => ?_)
    obtain ⟨ou, hs81, ob81, hH81⟩ := r81
    have hzs81 : H81.size = H78.size + 1 := by rw [hH81]; simp
    have df59 := (DF.new (bf_hl.mono hm0.size) : DF _ (H78.size + 1))
    have df60 := (DF.new (bf_hxo.mono hm0.size) : DF _ (H78.size + 1))
    have df61 := (DF.new (bf_hxn.mono hm0.size) : DF _ (H78.size + 1))
    have dj62 : Dj kg (H78.size + 1) := Dj.new og.le
    have dj63 : Dj kc (H78.size + 1) := Dj.new oc.le
    have dj64 : Dj (HL1.size + 1) (H78.size + 1) := Dj.new ot.le
    have nx65 : Nx 0 H0.size (H78.size + 1) := Nx.new hm0.size
    replace hl := hl.nw hs81
    replace hxo := fun c hx0 => (hxo c hx0).nw hs81
    replace hxn := fun c hx1 => (hxn c hx1).nw hs81
    replace og := og.nw hs81
    replace oc := oc.nw hs81
    replace ot := ot.nw hs81
    replace hm0 := hm0.tr hs81
    have hz10 := hs81.size
    refine LR.v (Y.assign rfl rfl) (Wd.u rfl) rfl rfl ?_
    refine LR.nil ?_
    refine hK15 _ _ ?_
    refine CW.seq (fun K16 hK16 hE16 => ?_)
    refine CW.region ?_
    refine LR.v (Y.move rfl rfl) (Wd.u rfl) rfl rfl ?_
    refine LR.v (Y.len og.rd rfl Try.runUnderlying26 rfl) (Wd.u rfl) rfl rfl ?_
    refine LR.z (Z.makew (gone.length) ((0 : Int)) rfl inf39 Try.zeroValue3 rfl fI_len fI_one rfl rfl (by first | rfl | omega) (by omega) (by omega)) (Wd.u rfl) rfl rfl (fun v84 H84 r84 => ?_)
    obtain ⟨os, hs84, ob84, hH84⟩ := r84
    have hzs84 : H84.size = H81.size + 1 := by rw [hH84]; simp
    have df66 := (DF.new (bf_hl.mono hm0.size) : DF _ (H81.size + 1))
    have df67 := (DF.new (bf_hxo.mono hm0.size) : DF _ (H81.size + 1))
    have df68 := (DF.new (bf_hxn.mono hm0.size) : DF _ (H81.size + 1))
    have dj69 : Dj kg (H81.size + 1) := Dj.new og.le
    have dj70 : Dj kc (H81.size + 1) := Dj.new oc.le
    have dj71 : Dj (HL1.size + 1) (H81.size + 1) := Dj.new ot.le
    have dj72 : Dj (H78.size + 1) (H81.size + 1) := Dj.new ou.le
    have nx73 : Nx 0 H0.size (H81.size + 1) := Nx.new hm0.size
    replace hl := hl.nw hs84
    replace hxo := fun c hx0 => (hxo c hx0).nw hs84
    replace hxn := fun c hx1 => (hxn c hx1).nw hs84
    replace og := og.nw hs84
    replace oc := oc.nw hs84
    replace ot := ot.nw hs84
    replace ou := ou.nw hs84
    replace hm0 := hm0.tr hs84
    have hz11 := hs84.size
    refine LR.v (Y.assign rfl rfl) (Wd.u rfl) rfl rfl ?_
    refine LR.nil ?_
    refine hK16 _ _ ?_
    refine CW.seq (fun K17 hK17 hE17 => ?_)
    refine CW.seq (fun K18 hK18 hE18 => ?_)
    refine CW.region ?_
    refine LR.v (Y.assign rfl rfl) (Wd.u rfl) rfl rfl ?_
    refine LR.nil ?_
    refine hK18 _ _ ?_
    refine CW.block (fun K19 hK19 hX19 hE19 => ?_)
    refine CW.loop (fun (s_ : (Nat) × (List Int) × (List Bool) × (List Int)) => match s_ with | (i, to, u, sc) => [(3, vg), (4, vc), (6, v78), (7, v81), (8, v84), (9, .int .i64 i)])
      (fun (s_ : (Nat) × (List Int) × (List Bool) × (List Int)) (H : Heap) => match s_ with | (i, to, u, sc) => (i ≤ gone.length) ∧ (Ow (HL1.size + 1) 3 H fI 1 v78 to) ∧ (Ow (H78.size + 1) 4 H fO 1 v81 u) ∧ (Ow (H81.size + 1) 3 H fI 1 v84 sc) ∧ (RelB gone come i to u sc) ∧ (Nx (HL1.size + 1) H84.size (HL1.size + 1)) ∧ (Nx (H78.size + 1) H84.size (H78.size + 1)) ∧ (Nx (H81.size + 1) H84.size (H81.size + 1)) ∧ (Dj (HL1.size + 1) (H78.size + 1)) ∧ (Dj (HL1.size + 1) (H81.size + 1)) ∧ (Dj (H78.size + 1) (H81.size + 1)) ∧ Mo (Ms [(HL1.size + 1), (H78.size + 1), (H81.size + 1)]) H84 H)
      (fun (s_ : (Nat) × (List Int) × (List Bool) × (List Int)) => match s_ with | (i, to, u, sc) => gone.length - i) (0, List.replicate gone.length 0, List.replicate come.length false, List.replicate gone.length 0) ⟨rfl, rfl, rfl, rfl, rfl, rfl, trivial⟩ ?_ ?_
    ·
      exact ⟨(by omega), ot, ou, os, RelB.init gone come, Nx.refl _ _, Nx.refl _ _, Nx.refl _ _, dj64, dj71, dj72, Mo.refl _ _⟩
    rintro ⟨i, to, u, sc⟩ HL2 hI2 K20 hN20 hE20
    obtain ⟨hi, ot, ou, os, hB, nxl_ot, nxl_ou, nxl_os, dj_ot_ou, dj_ot_os, dj_ou_os, hlm2⟩ := hI2
    have df74 := DF.app (df53) (bf_hl.mono hm0.size) nxl_ot
    have df75 := DF.app (df54) (bf_hxo.mono hm0.size) nxl_ot
    have df76 := DF.app (df55) (bf_hxn.mono hm0.size) nxl_ot
    have dj77 : Dj kg (HL1.size + 1) := Dj.app (dj56) og.le nxl_ot
    have dj78 : Dj kc (HL1.size + 1) := Dj.app (dj57) oc.le nxl_ot
    have nx79 : Nx 0 H0.size (HL1.size + 1) := Nx.tr (nx58) nxl_ot hm0.size
    have df80 := DF.app (df59) (bf_hl.mono hm0.size) nxl_ou
    have df81 := DF.app (df60) (bf_hxo.mono hm0.size) nxl_ou
    have df82 := DF.app (df61) (bf_hxn.mono hm0.size) nxl_ou
    have dj83 : Dj kg (H78.size + 1) := Dj.app (dj62) og.le nxl_ou
    have dj84 : Dj kc (H78.size + 1) := Dj.app (dj63) oc.le nxl_ou
    have nx85 : Nx 0 H0.size (H78.size + 1) := Nx.tr (nx65) nxl_ou hm0.size
    have df86 := DF.app (df66) (bf_hl.mono hm0.size) nxl_os
    have df87 := DF.app (df67) (bf_hxo.mono hm0.size) nxl_os
    have df88 := DF.app (df68) (bf_hxn.mono hm0.size) nxl_os
    have dj89 : Dj kg (H81.size + 1) := Dj.app (dj69) og.le nxl_os
    have dj90 : Dj kc (H81.size + 1) := Dj.app (dj70) oc.le nxl_os
    have nx91 : Nx 0 H0.size (H81.size + 1) := Nx.tr (nx73) nxl_os hm0.size
    replace hl := hl.upL hlm2 (DFL.cons df53 (DFL.cons df59 (DFL.cons df66 DFL.nil)))
    replace hxo := fun c hx0 => (hxo c hx0).upL hlm2 (DFL.cons df54 (DFL.cons df60 (DFL.cons df67 DFL.nil)))
    replace hxn := fun c hx1 => (hxn c hx1).upL hlm2 (DFL.cons df55 (DFL.cons df61 (DFL.cons df68 DFL.nil)))
    replace og := og.upL hlm2 (DL.cons dj56 (DL.cons dj62 (DL.cons dj69 DL.nil)))
    replace oc := oc.upL hlm2 (DL.cons dj57 (DL.cons dj63 (DL.cons dj70 DL.nil)))
    replace hm0 := (Mo.trL (ks := []) (hm0.mdn []) hlm2 (MIL.cons (MI.app MI.z (nx58) (Nat.le_refl _)) (MIL.cons (MI.app MI.z (nx65) (Nat.le_refl _)) (MIL.cons (MI.app MI.z (nx73) (Nat.le_refl _)) MIL.nil)))).nil
    have hz12 := hlm2.size
    have hle_ot := ot.le
    have hle_ou := ou.le
    have hle_os := os.le
    have dj92 := dj_ot_ou
    have dj93 := dj_ot_os
    have dj94 := dj_ou_os
    have nx95 := nxl_ot
    have nx96 := nxl_ou
    have nx97 := nxl_os
    refine CW.seq (fun K21 hK21 hE21 => ?_)
    refine CW.seq (fun K22 hK22 hE22 => ?_)
    refine CW.region ?_
    refine LR.v (Y.move rfl rfl) (Wd.u rfl) rfl rfl ?_
    refine LR.v (Y.move rfl rfl) (Wd.u rfl) rfl rfl ?_
    refine LR.v (Y.len og.rd rfl Try.runUnderlying26 rfl) (Wd.u rfl) rfl rfl ?_
    refine LR.v (Y.lss rfl rfl rfl) (Wd.u rfl) rfl rfl ?_
    refine LR.nil ?_
    refine hK22 _ _ ?_
    refine CW.condp rfl (fun c88 => ?_) (fun c88 => ?_)
    ·
      refine CW.skip ?_
      refine hK21 _ _ ?_
      refine CW.seq (fun K23 hK23 hE23 => ?_)
      refine CW.block (fun K24 hK24 hX24 hE24 => ?_)
      refine CW.seq (fun K25 hK25 hE25 => ?_)
      refine CW.region ?_
      refine LR.v (Y.assign rfl rfl) (Wd.u rfl) rfl rfl ?_
      refine LR.nil ?_
      refine hK25 _ _ ?_
      refine CW.seq (fun K26 hK26 hE26 => ?_)
      refine CW.seq (fun K27 hK27 hE27 => ?_)
      refine CW.region ?_
      refine LR.v (Y.assign rfl rfl) (Wd.u rfl) rfl rfl ?_
      refine LR.nil ?_
      refine hK27 _ _ ?_
      refine CW.block (fun K28 hK28 hX28 hE28 => ?_)
      refine CW.loop (fun (k : (Nat)) => [(3, vg), (4, vc), (6, v78), (7, v81), (8, v84), (9, .int .i64 i), (10, .int .i64 (rst gone[i] come u k)), (11, .int .i64 k)])
        (fun (k : (Nat)) (H : Heap) => (k ≤ come.length) ∧ Nw HL2 H)
        (fun (k : (Nat)) => come.length - k) 0 ⟨rfl, rfl, rfl, rfl, rfl, rfl, rfl, rfl, trivial⟩ ?_ ?_
      ·
        exact ⟨(by omega), Mo.refl _ _⟩
      intro k HL3 hI3 K29 hN29 hE29
      obtain ⟨hk, hlm3⟩ := hI3
      replace hl := hl.nw hlm3
      replace hxo := fun c hx0 => (hxo c hx0).nw hlm3
      replace hxn := fun c hx1 => (hxn c hx1).nw hlm3
      replace og := og.nw hlm3
      replace oc := oc.nw hlm3
      replace os := os.nw hlm3
      replace ot := ot.nw hlm3
      replace ou := ou.nw hlm3
      replace hm0 := hm0.tr hlm3
      replace hlm2 := hlm2.trN hlm3
      have hz13 := hlm3.size
      have hil : i < gone.length := by omega
      have hlu := hB.lu
      have hlt := hB.lt
      have hls := hB.ls
      refine CW.seq (fun K30 hK30 hE30 => ?_)
      refine CW.seq (fun K31 hK31 hE31 => ?_)
      refine CW.region ?_
      refine LR.v (Y.move rfl rfl) (Wd.u rfl) rfl rfl ?_
      refine LR.v (Y.move rfl rfl) (Wd.u rfl) rfl rfl ?_
      refine LR.v (Y.len oc.rd rfl Try.runUnderlying26 rfl) (Wd.u rfl) rfl rfl ?_
      refine LR.v (Y.lss rfl rfl rfl) (Wd.u rfl) rfl rfl ?_
      refine LR.nil ?_
      refine hK31 _ _ ?_
      refine CW.condp rfl (fun c94 => ?_) (fun c94 => ?_)
      ·
        refine CW.skip ?_
        refine hK30 _ _ ?_
        refine CW.seq (fun K32 hK32 hE32 => ?_)
        refine CW.block (fun K33 hK33 hX33 hE33 => ?_)
        refine CW.seq (fun K34 hK34 hE34 => ?_)
        refine CW.seq (fun K35 hK35 hE35 => ?_)
        refine CW.region_draw rfl (by kernel_rfl) ?_
        refine LR.v (Y.move rfl rfl) (Wd.u rfl) rfl rfl ?_
        refine LR.v (Y.move rfl rfl) (Wd.u rfl) rfl rfl ?_
        have hkl : k < come.length := by omega
        refine LR.v (Y.owAddr ou (k) rfl Try.runUnderlying43 Try.sizeOf4 rfl rfl (by first | rfl | omega) (by first | omega | (simp; omega) | (simp; done))) (Wd.u rfl) rfl rfl ?_
        refine LR.v (Y.load1 (ou.pt (j := k) (by first | omega | (simp; omega) | (simp; done))) rfl Try.isAgg4 rfl) (Wd.u rfl) rfl rfl ?_
        refine LR.v (Y.move rfl rfl) (Wd.u rfl) rfl rfl ?_
        refine LR.split (d := 101) rfl (fun g101 => ?_) (fun g101 => ?_)
        ·
          refine LR.gs rfl rfl rfl rfl rfl rfl ?_
          refine LR.gs rfl rfl rfl rfl rfl rfl ?_
          refine LR.gs rfl rfl rfl rfl rfl rfl ?_
          refine LR.gs rfl rfl rfl rfl rfl rfl ?_
          refine LR.gs rfl rfl rfl rfl rfl rfl ?_
          refine LR.gs rfl rfl rfl rfl rfl rfl ?_
          refine LR.gs rfl rfl rfl rfl rfl rfl ?_
          refine LR.gs rfl rfl rfl rfl rfl rfl ?_
          refine LR.gs rfl rfl rfl rfl rfl rfl ?_
          refine LR.gs rfl rfl rfl rfl rfl rfl ?_
          refine LR.gs rfl rfl rfl rfl rfl rfl ?_
          refine LR.gs rfl rfl rfl rfl rfl rfl ?_
          refine LR.gs rfl rfl rfl rfl rfl rfl ?_
          refine LR.v (Y.pick_t rfl rfl rfl) (Wd.u rfl) rfl rfl ?_
          refine LR.nil ?_
          refine hK35 _ _ ?_
          refine CW.cond_t rfl ?_
          refine CW.exit (hE34 (.exit 5) nofun _ _ (hX33 _ _ ?_))
          refine hK32 _ _ ?_
          refine CW.region ?_
          refine LR.v (Y.move rfl rfl) (Wd.u rfl) rfl rfl ?_
          refine LR.v (Y.addi rfl rfl rfl (by omega)) (Wd.u rfl) rfl rfl ?_
          refine LR.v (Y.assign rfl rfl) (Wd.u rfl) rfl rfl ?_
          refine LR.nil ?_
          have hps := rst_no (f := gone[i]) hkl hlu (by simp_all)
          refine QN.sub (hN29 (k + 1) _ ?_ ?_) ⟨rfl, rfl, rfl, rfl, rfl, (iv (by omega)), (iv (by omega)), (iv (by omega)), trivial⟩
          · exact ⟨(by omega), hlm3⟩
          · first | omega | (simp only; omega) | (simp; omega)
        ·
          refine LR.v (Y.move rfl rfl) (Wd.g rfl rfl rfl) rfl rfl ?_
          refine LR.v (Y.move rfl rfl) (Wd.g rfl rfl rfl) rfl rfl ?_
          refine LR.v (Y.owAddr oc (k) rfl Try.runUnderlying26 Try.sizeOf35 rfl rfl (by first | rfl | omega) (by first | omega | (simp; omega) | (simp; done))) (Wd.g rfl rfl rfl) rfl rfl ?_
          refine LR.v (Y.fieldAddr (oc.pt (j := k) (by first | omega | (simp; omega) | (simp; done))) rfl Try.runUnderlying35 rfl rfl Try.sizeOf22 (by decide) rfl) (Wd.g rfl rfl rfl) rfl rfl ?_
          refine LR.v (Y.load1 ((oc.pt (j := k) (by first | omega | (simp; omega) | (simp; done))).drop 2) rfl Try.isAgg22 rfl) (Wd.g rfl rfl rfl) rfl rfl ?_
          refine LR.v (Y.bstr (come_R hc hxn _ (List.getElem_mem hkl)).d rfl Try.underlying22 Try.underlying9 Try.underlying5 rfl) (Wd.g rfl rfl rfl) rfl rfl ?_
          refine LR.v (Y.move rfl rfl) (Wd.g rfl rfl rfl) rfl rfl ?_
          refine LR.v (Y.move rfl rfl) (Wd.g rfl rfl rfl) rfl rfl ?_
          refine LR.v (Y.owAddr og (i) rfl Try.runUnderlying26 Try.sizeOf35 rfl rfl (by first | rfl | omega) (by first | omega | (simp; omega) | (simp; done))) (Wd.g rfl rfl rfl) rfl rfl ?_
          refine LR.v (Y.fieldAddr (og.pt (j := i) (by first | omega | (simp; omega) | (simp; done))) rfl Try.runUnderlying35 rfl rfl Try.sizeOf22 (by decide) rfl) (Wd.g rfl rfl rfl) rfl rfl ?_
          refine LR.v (Y.load1 ((og.pt (j := i) (by first | omega | (simp; omega) | (simp; done))).drop 2) rfl Try.isAgg22 rfl) (Wd.g rfl rfl rfl) rfl rfl ?_
          refine LR.v (Y.bstr (gone_R hg hxo _ (List.getElem_mem hil)).d rfl Try.underlying22 Try.underlying9 Try.underlying5 rfl) (Wd.g rfl rfl rfl) rfl rfl ?_
          refine LR.v (Y.sneq rfl rfl rfl) (Wd.g rfl rfl rfl) rfl rfl ?_
          refine LR.v (Y.pick_f rfl rfl rfl) (Wd.u rfl) rfl rfl ?_
          refine LR.nil ?_
          refine hK35 _ _ ?_
          refine CW.condp rfl (fun c115 => ?_) (fun c115 => ?_)
          ·
            refine CW.exit (hE34 (.exit 5) nofun _ _ (hX33 _ _ ?_))
            refine hK32 _ _ ?_
            refine CW.region ?_
            refine LR.v (Y.move rfl rfl) (Wd.u rfl) rfl rfl ?_
            refine LR.v (Y.addi rfl rfl rfl (by omega)) (Wd.u rfl) rfl rfl ?_
            refine LR.v (Y.assign rfl rfl) (Wd.u rfl) rfl rfl ?_
            refine LR.nil ?_
            have hps := rst_no (f := gone[i]) hkl hlu (by simp_all)
            refine QN.sub (hN29 (k + 1) _ ?_ ?_) ⟨rfl, rfl, rfl, rfl, rfl, (iv (by omega)), (iv (by omega)), (iv (by omega)), trivial⟩
            · exact ⟨(by omega), hlm3⟩
            · first | omega | (simp only; omega) | (simp; omega)
          ·
            refine CW.skip ?_
            refine hK34 _ _ ?_
            refine CW.seq (fun K36 hK36 hE36 => ?_)
            refine CW.region_any (fun Hq => Nw HL3 Hq) [] rfl ?_
            have hqs := Nw.refl HL3
            refine LH.take 0 (by kernel_rfl) rfl (by kernel_rfl) (by kernel_rfl) (by kernel_rfl) (fun Hq hq => Y.move rfl rfl) (Wd.u rfl) rfl rfl hqs ?_
            refine LH.take 1 (by kernel_rfl) rfl (by kernel_rfl) (by kernel_rfl) (by kernel_rfl) (fun Hq hq => Y.lss rfl rfl rfl) (Wd.u rfl) rfl rfl hqs ?_
            refine LH.take 2 (by kernel_rfl) rfl (by kernel_rfl) (by kernel_rfl) (by kernel_rfl) (fun Hq hq => Y.move rfl rfl) (Wd.u rfl) rfl rfl hqs ?_
            refine LH.splitp (d := 118) rfl (fun g118 => ?_) (fun g118 => ?_)
            ·
              refine LH.gs 3 (by kernel_rfl) rfl (by kernel_rfl) (by kernel_rfl) (by kernel_rfl) rfl rfl rfl rfl rfl rfl hqs ?_
              refine LH.gs 4 (by kernel_rfl) rfl (by kernel_rfl) (by kernel_rfl) (by kernel_rfl) rfl rfl rfl rfl rfl rfl hqs ?_
              refine LH.gs 5 (by kernel_rfl) rfl (by kernel_rfl) (by kernel_rfl) (by kernel_rfl) rfl rfl rfl rfl rfl rfl hqs ?_
              refine LH.gs 6 (by kernel_rfl) rfl (by kernel_rfl) (by kernel_rfl) (by kernel_rfl) rfl rfl rfl rfl rfl rfl hqs ?_
              refine LH.gs 7 (by kernel_rfl) rfl (by kernel_rfl) (by kernel_rfl) (by kernel_rfl) rfl rfl rfl rfl rfl rfl hqs ?_
              refine LH.gs 8 (by kernel_rfl) rfl (by kernel_rfl) (by kernel_rfl) (by kernel_rfl) rfl rfl rfl rfl rfl rfl hqs ?_
              refine LH.gs 9 (by kernel_rfl) rfl (by kernel_rfl) (by kernel_rfl) (by kernel_rfl) rfl rfl rfl rfl rfl rfl hqs ?_
              refine LH.gs 10 (by kernel_rfl) rfl (by kernel_rfl) (by kernel_rfl) (by kernel_rfl) rfl rfl rfl rfl rfl rfl hqs ?_
              refine LH.gs 11 (by kernel_rfl) rfl (by kernel_rfl) (by kernel_rfl) (by kernel_rfl) rfl rfl rfl rfl rfl rfl hqs ?_
              refine LH.gs 12 (by kernel_rfl) rfl (by kernel_rfl) (by kernel_rfl) (by kernel_rfl) rfl rfl rfl rfl rfl rfl hqs ?_
              refine LH.gs 13 (by kernel_rfl) rfl (by kernel_rfl) (by kernel_rfl) (by kernel_rfl) rfl rfl rfl rfl rfl rfl hqs ?_
              refine LH.gs 14 (by kernel_rfl) rfl (by kernel_rfl) (by kernel_rfl) (by kernel_rfl) rfl rfl rfl rfl rfl rfl hqs ?_
              refine LH.gs 15 (by kernel_rfl) rfl (by kernel_rfl) (by kernel_rfl) (by kernel_rfl) rfl rfl rfl rfl rfl rfl hqs ?_
              refine LH.gs 16 (by kernel_rfl) rfl (by kernel_rfl) (by kernel_rfl) (by kernel_rfl) rfl rfl rfl rfl rfl rfl hqs ?_
              refine LH.gsu 17 (by kernel_rfl) rfl (by kernel_rfl) (by kernel_rfl) (by kernel_rfl) rfl rfl rfl rfl rfl hqs ?_
              refine LH.gsu 18 (by kernel_rfl) rfl (by kernel_rfl) (by kernel_rfl) (by kernel_rfl) rfl rfl rfl rfl rfl hqs ?_
              refine LH.gsu 19 (by kernel_rfl) rfl (by kernel_rfl) (by kernel_rfl) (by kernel_rfl) rfl rfl rfl rfl rfl hqs ?_
              refine LH.gsu 20 (by kernel_rfl) rfl (by kernel_rfl) (by kernel_rfl) (by kernel_rfl) rfl rfl rfl rfl rfl hqs ?_
              refine LH.gsu 21 (by kernel_rfl) rfl (by kernel_rfl) (by kernel_rfl) (by kernel_rfl) rfl rfl rfl rfl rfl hqs ?_
              refine LH.gsu 22 (by kernel_rfl) rfl (by kernel_rfl) (by kernel_rfl) (by kernel_rfl) rfl rfl rfl rfl rfl hqs ?_
              refine LH.gsu 23 (by kernel_rfl) rfl (by kernel_rfl) (by kernel_rfl) (by kernel_rfl) rfl rfl rfl rfl rfl hqs ?_
              refine LH.gsu 24 (by kernel_rfl) rfl (by kernel_rfl) (by kernel_rfl) (by kernel_rfl) rfl rfl rfl rfl rfl hqs ?_
              refine LH.gsu 25 (by kernel_rfl) rfl (by kernel_rfl) (by kernel_rfl) (by kernel_rfl) rfl rfl rfl rfl rfl hqs ?_
              refine LH.gsu 26 (by kernel_rfl) rfl (by kernel_rfl) (by kernel_rfl) (by kernel_rfl) rfl rfl rfl rfl rfl hqs ?_
              refine LH.gsu 27 (by kernel_rfl) rfl (by kernel_rfl) (by kernel_rfl) (by kernel_rfl) rfl rfl rfl rfl rfl hqs ?_
              refine LH.gsu 28 (by kernel_rfl) rfl (by kernel_rfl) (by kernel_rfl) (by kernel_rfl) rfl rfl rfl rfl rfl hqs ?_
              refine LH.gsu 29 (by kernel_rfl) rfl (by kernel_rfl) (by kernel_rfl) (by kernel_rfl) rfl rfl rfl rfl rfl hqs ?_
              refine LH.gs 30 (by kernel_rfl) rfl (by kernel_rfl) (by kernel_rfl) (by kernel_rfl) rfl rfl rfl rfl rfl rfl hqs ?_
              refine LH.take 31 (by kernel_rfl) rfl (by kernel_rfl) (by kernel_rfl) (by kernel_rfl) (fun Hq hq => Y.pick_t rfl rfl rfl) (Wd.u rfl) rfl rfl hqs ?_
              refine LH.done (by kernel_rfl) ?_
              have hqe := hqs
              refine hK36 _ _ ?_
              refine CW.cond_t rfl ?_
              refine CW.region ?_
              refine LR.v (Y.move rfl rfl) (Wd.u rfl) rfl rfl ?_
              refine LR.v (Y.assign rfl rfl) (Wd.u rfl) rfl rfl ?_
              refine LR.nil ?_
              refine hK33 _ _ ?_
              refine hK32 _ _ ?_
              refine CW.region ?_
              refine LR.v (Y.move rfl rfl) (Wd.u rfl) rfl rfl ?_
              refine LR.v (Y.addi rfl rfl rfl (by omega)) (Wd.u rfl) rfl rfl ?_
              refine LR.v (Y.assign rfl rfl) (Wd.u rfl) rfl rfl ?_
              refine LR.nil ?_
              have h9 := rst_rng gone[i] come u k
              have hps := rst_yes (f := gone[i]) hkl hlu (by simpa using g101) (by first | assumption | simpa using c115) (by first | exact .inl (by assumption) | exact .inr ⟨by omega, by assumption, by assumption⟩)
              refine QN.sub (hN29 (k + 1) _ ?_ ?_) ⟨rfl, rfl, rfl, rfl, rfl, (iv (by omega)), (iv (by omega)), (iv (by omega)), trivial⟩
              · exact ⟨(by omega), hlm3⟩
              · first | omega | (simp only; omega) | (simp; omega)
            ·
              refine LH.take 3 (by kernel_rfl) rfl (by kernel_rfl) (by kernel_rfl) (by kernel_rfl) (fun Hq hq => Y.move rfl rfl) (Wd.g rfl rfl rfl) rfl rfl hqs ?_
              refine LH.take 4 (by kernel_rfl) rfl (by kernel_rfl) (by kernel_rfl) (by kernel_rfl) (fun Hq hq => Y.move rfl rfl) (Wd.g rfl rfl rfl) rfl rfl hqs ?_
              refine LH.take 5 (by kernel_rfl) rfl (by kernel_rfl) (by kernel_rfl) (by kernel_rfl) (fun Hq hq => Y.owAddr (oc.nw hq) ((rst gone[i] come u k).toNat) rfl Try.runUnderlying26 Try.sizeOf35 rfl rfl (Int.toNat_of_nonneg (Int.not_lt.1 g118)).symm (by have h9 := rst_rng gone[i] come u k; omega)) (Wd.g rfl rfl rfl) rfl rfl hqs ?_
              refine LH.take 6 (by kernel_rfl) rfl (by kernel_rfl) (by kernel_rfl) (by kernel_rfl) (fun Hq hq => Y.fieldAddr ((oc.pt (j := (rst gone[i] come u k).toNat) (by have h9 := rst_rng gone[i] come u k; omega)).nw hq) rfl Try.runUnderlying35 rfl rfl Try.sizeOf9 (by decide) rfl) (Wd.g rfl rfl rfl) rfl rfl hqs ?_
              refine LH.take 7 (by kernel_rfl) rfl (by kernel_rfl) (by kernel_rfl) (by kernel_rfl) (fun Hq hq => Y.load1 (((oc.pt (j := (rst gone[i] come u k).toNat) (by have h9 := rst_rng gone[i] come u k; omega)).drop 0).nw hq) rfl Try.isAgg9 rfl) (Wd.g rfl rfl rfl) rfl rfl hqs ?_
              refine LH.take 9 (by kernel_rfl) rfl (by kernel_rfl) (by kernel_rfl) (by kernel_rfl) (fun Hq hq => Y.move rfl rfl) (Wd.g rfl rfl rfl) rfl rfl hqs ?_
              refine LH.take 10 (by kernel_rfl) rfl (by kernel_rfl) (by kernel_rfl) (by kernel_rfl) (fun Hq hq => Y.move rfl rfl) (Wd.g rfl rfl rfl) rfl rfl hqs ?_
              refine LH.take 11 (by kernel_rfl) rfl (by kernel_rfl) (by kernel_rfl) (by kernel_rfl) (fun Hq hq => Y.owAddr (og.nw hq) (i) rfl Try.runUnderlying26 Try.sizeOf35 rfl rfl (by first | rfl | omega) (by first | omega | (simp; omega) | (simp; done))) (Wd.g rfl rfl rfl) rfl rfl hqs ?_
              refine LH.take 12 (by kernel_rfl) rfl (by kernel_rfl) (by kernel_rfl) (by kernel_rfl) (fun Hq hq => Y.fieldAddr ((og.pt (j := i) (by first | omega | (simp; omega) | (simp; done))).nw hq) rfl Try.runUnderlying35 rfl rfl Try.sizeOf9 (by decide) rfl) (Wd.g rfl rfl rfl) rfl rfl hqs ?_
              refine LH.take 13 (by kernel_rfl) rfl (by kernel_rfl) (by kernel_rfl) (by kernel_rfl) (fun Hq hq => Y.load1 (((og.pt (j := i) (by first | omega | (simp; omega) | (simp; done))).drop 0).nw hq) rfl Try.isAgg9 rfl) (Wd.g rfl rfl rfl) rfl rfl hqs ?_
              refine LH.one (i := 8) (by kernel_rfl) ?_
              -- call selvage/selvageref16.Last
              refine LO.call rfl rfl Try.call38 rfl (Wd.g rfl rfl rfl) rfl rfl (rlast_ct (come[(rst gone[i] come u k).toNat]'(by have h9 := rst_rng gone[i] come u k; omega)).p w0 _ (hcP _ (List.getElem_mem _)).1) (fun v124 H124 r124 => ?_)
              obtain ⟨rfl, hs124⟩ := r124
              replace hl := hl.nw hs124
              replace hxo := fun c hx0 => (hxo c hx0).nw hs124
              replace hxn := fun c hx1 => (hxn c hx1).nw hs124
              replace og := og.nw hs124
              replace oc := oc.nw hs124
              replace os := os.nw hs124
              replace ot := ot.nw hs124
              replace ou := ou.nw hs124
              replace hm0 := hm0.tr hs124
              replace hlm2 := hlm2.trN hs124
              replace hlm3 := hlm3.tr hs124
              have hz14 := hs124.size
              have hq124 := hqs.tr hs124
              refine ⟨.inr hq124, LH.narrow (SH2 := fun Hq => Nw H124 Hq) (fun Hq hq => hq124.tr hq) ?_⟩
              have hqn124 := Nw.refl H124
              refine LH.one (i := 14) (by kernel_rfl) ?_
              -- call selvage/selvageref16.Last
              refine LO.call rfl rfl Try.call38 rfl (Wd.g rfl rfl rfl) rfl rfl (rlast_ct gone[i].p w0 _ (hgP _ (List.getElem_mem hil)).1) (fun v130 H130 r130 => ?_)
              obtain ⟨rfl, hs130⟩ := r130
              replace hl := hl.nw hs130
              replace hxo := fun c hx0 => (hxo c hx0).nw hs130
              replace hxn := fun c hx1 => (hxn c hx1).nw hs130
              replace og := og.nw hs130
              replace oc := oc.nw hs130
              replace os := os.nw hs130
              replace ot := ot.nw hs130
              replace ou := ou.nw hs130
              replace hm0 := hm0.tr hs130
              replace hlm2 := hlm2.trN hs130
              replace hlm3 := hlm3.tr hs130
              have hz15 := hs130.size
              have hq130 := hqn124.tr hs130
              refine ⟨.inr hq130, LH.narrow (SH2 := fun Hq => Nw H130 Hq) (fun Hq hq => hq130.tr hq) ?_⟩
              have hqn130 := Nw.refl H130
              refine LH.take 15 (by kernel_rfl) rfl (by kernel_rfl) (by kernel_rfl) (by kernel_rfl) (fun Hq hq => Y.sneq rfl rfl rfl) (Wd.g rfl rfl rfl) rfl rfl hqn130 ?_
              refine LH.take 16 (by kernel_rfl) rfl (by kernel_rfl) (by kernel_rfl) (by kernel_rfl) (fun Hq hq => Y.move rfl rfl) (Wd.g rfl rfl rfl) rfl rfl hqn130 ?_
              refine LH.splitp (d := 132) rfl (fun g132 => ?_) (fun g132 => ?_)
              ·
                refine LH.take 17 (by kernel_rfl) rfl (by kernel_rfl) (by kernel_rfl) (by kernel_rfl) (fun Hq hq => Y.move rfl rfl) (Wd.g rfl rfl rfl) rfl rfl hqn130 ?_
                refine LH.take 18 (by kernel_rfl) rfl (by kernel_rfl) (by kernel_rfl) (by kernel_rfl) (fun Hq hq => Y.move rfl rfl) (Wd.g rfl rfl rfl) rfl rfl hqn130 ?_
                refine LH.take 19 (by kernel_rfl) rfl (by kernel_rfl) (by kernel_rfl) (by kernel_rfl) (fun Hq hq => Y.owAddr (oc.nw hq) (k) rfl Try.runUnderlying26 Try.sizeOf35 rfl rfl (by first | rfl | omega) (by first | omega | (simp; omega) | (simp; done))) (Wd.g rfl rfl rfl) rfl rfl hqn130 ?_
                refine LH.take 20 (by kernel_rfl) rfl (by kernel_rfl) (by kernel_rfl) (by kernel_rfl) (fun Hq hq => Y.fieldAddr ((oc.pt (j := k) (by first | omega | (simp; omega) | (simp; done))).nw hq) rfl Try.runUnderlying35 rfl rfl Try.sizeOf9 (by decide) rfl) (Wd.g rfl rfl rfl) rfl rfl hqn130 ?_
                refine LH.take 21 (by kernel_rfl) rfl (by kernel_rfl) (by kernel_rfl) (by kernel_rfl) (fun Hq hq => Y.load1 (((oc.pt (j := k) (by first | omega | (simp; omega) | (simp; done))).drop 0).nw hq) rfl Try.isAgg9 rfl) (Wd.g rfl rfl rfl) rfl rfl hqn130 ?_
                refine LH.take 23 (by kernel_rfl) rfl (by kernel_rfl) (by kernel_rfl) (by kernel_rfl) (fun Hq hq => Y.move rfl rfl) (Wd.g rfl rfl rfl) rfl rfl hqn130 ?_
                refine LH.take 24 (by kernel_rfl) rfl (by kernel_rfl) (by kernel_rfl) (by kernel_rfl) (fun Hq hq => Y.move rfl rfl) (Wd.g rfl rfl rfl) rfl rfl hqn130 ?_
                refine LH.take 25 (by kernel_rfl) rfl (by kernel_rfl) (by kernel_rfl) (by kernel_rfl) (fun Hq hq => Y.owAddr (og.nw hq) (i) rfl Try.runUnderlying26 Try.sizeOf35 rfl rfl (by first | rfl | omega) (by first | omega | (simp; omega) | (simp; done))) (Wd.g rfl rfl rfl) rfl rfl hqn130 ?_
                refine LH.take 26 (by kernel_rfl) rfl (by kernel_rfl) (by kernel_rfl) (by kernel_rfl) (fun Hq hq => Y.fieldAddr ((og.pt (j := i) (by first | omega | (simp; omega) | (simp; done))).nw hq) rfl Try.runUnderlying35 rfl rfl Try.sizeOf9 (by decide) rfl) (Wd.g rfl rfl rfl) rfl rfl hqn130 ?_
                refine LH.take 27 (by kernel_rfl) rfl (by kernel_rfl) (by kernel_rfl) (by kernel_rfl) (fun Hq hq => Y.load1 (((og.pt (j := i) (by first | omega | (simp; omega) | (simp; done))).drop 0).nw hq) rfl Try.isAgg9 rfl) (Wd.g rfl rfl rfl) rfl rfl hqn130 ?_
                refine LH.one (i := 22) (by kernel_rfl) ?_
                -- call selvage/selvageref16.Last
                refine LO.call rfl rfl Try.call38 rfl (Wd.g rfl rfl rfl) rfl rfl (rlast_ct come[k].p w0 _ (hcP _ (List.getElem_mem hkl)).1) (fun v138 H138 r138 => ?_)
                obtain ⟨rfl, hs138⟩ := r138
                replace hl := hl.nw hs138
                replace hxo := fun c hx0 => (hxo c hx0).nw hs138
                replace hxn := fun c hx1 => (hxn c hx1).nw hs138
                replace og := og.nw hs138
                replace oc := oc.nw hs138
                replace os := os.nw hs138
                replace ot := ot.nw hs138
                replace ou := ou.nw hs138
                replace hm0 := hm0.tr hs138
                replace hlm2 := hlm2.trN hs138
                replace hlm3 := hlm3.tr hs138
                have hz16 := hs138.size
                have hq138 := hqn130.tr hs138
                refine ⟨.inr hq138, LH.narrow (SH2 := fun Hq => Nw H138 Hq) (fun Hq hq => hq138.tr hq) ?_⟩
                have hqn138 := Nw.refl H138
                refine LH.one (i := 28) (by kernel_rfl) ?_
                -- call selvage/selvageref16.Last
                refine LO.call rfl rfl Try.call38 rfl (Wd.g rfl rfl rfl) rfl rfl (rlast_ct gone[i].p w0 _ (hgP _ (List.getElem_mem hil)).1) (fun v144 H144 r144 => ?_)
                obtain ⟨rfl, hs144⟩ := r144
                replace hl := hl.nw hs144
                replace hxo := fun c hx0 => (hxo c hx0).nw hs144
                replace hxn := fun c hx1 => (hxn c hx1).nw hs144
                replace og := og.nw hs144
                replace oc := oc.nw hs144
                replace os := os.nw hs144
                replace ot := ot.nw hs144
                replace ou := ou.nw hs144
                replace hm0 := hm0.tr hs144
                replace hlm2 := hlm2.trN hs144
                replace hlm3 := hlm3.tr hs144
                have hz17 := hs144.size
                have hq144 := hqn138.tr hs144
                refine ⟨.inr hq144, LH.narrow (SH2 := fun Hq => Nw H144 Hq) (fun Hq hq => hq144.tr hq) ?_⟩
                have hqn144 := Nw.refl H144
                refine LH.take 29 (by kernel_rfl) rfl (by kernel_rfl) (by kernel_rfl) (by kernel_rfl) (fun Hq hq => Y.seql rfl rfl rfl) (Wd.g rfl rfl rfl) rfl rfl hqn144 ?_
                refine LH.take 30 (by kernel_rfl) rfl (by kernel_rfl) (by kernel_rfl) (by kernel_rfl) (fun Hq hq => Y.pick_t rfl rfl rfl) (Wd.g rfl rfl rfl) rfl rfl hqn144 ?_
                refine LH.take 31 (by kernel_rfl) rfl (by kernel_rfl) (by kernel_rfl) (by kernel_rfl) (fun Hq hq => Y.pick_f rfl rfl rfl) (Wd.u rfl) rfl rfl hqn144 ?_
                refine LH.done (by kernel_rfl) ?_
                have hqe := hqn144
                refine hK36 _ _ ?_
                refine CW.condp rfl (fun c147 => ?_) (fun c147 => ?_)
                ·
                  refine CW.region ?_
                  refine LR.v (Y.move rfl rfl) (Wd.u rfl) rfl rfl ?_
                  refine LR.v (Y.assign rfl rfl) (Wd.u rfl) rfl rfl ?_
                  refine LR.nil ?_
                  refine hK33 _ _ ?_
                  refine hK32 _ _ ?_
                  refine CW.region ?_
                  refine LR.v (Y.move rfl rfl) (Wd.u rfl) rfl rfl ?_
                  refine LR.v (Y.addi rfl rfl rfl (by omega)) (Wd.u rfl) rfl rfl ?_
                  refine LR.v (Y.assign rfl rfl) (Wd.u rfl) rfl rfl ?_
                  refine LR.nil ?_
                  have h9 := rst_rng gone[i] come u k
                  have hps := rst_yes (f := gone[i]) hkl hlu (by simpa using g101) (by first | assumption | simpa using c115) (by first | exact .inl (by assumption) | exact .inr ⟨by omega, by assumption, by assumption⟩)
                  refine QN.sub (hN29 (k + 1) _ ?_ ?_) ⟨rfl, rfl, rfl, rfl, rfl, (iv (by omega)), (iv (by omega)), (iv (by omega)), trivial⟩
                  · exact ⟨(by omega), hlm3⟩
                  · first | omega | (simp only; omega) | (simp; omega)
                ·
                  refine CW.skip ?_
                  refine hK33 _ _ ?_
                  refine hK32 _ _ ?_
                  refine CW.region ?_
                  refine LR.v (Y.move rfl rfl) (Wd.u rfl) rfl rfl ?_
                  refine LR.v (Y.addi rfl rfl rfl (by omega)) (Wd.u rfl) rfl rfl ?_
                  refine LR.v (Y.assign rfl rfl) (Wd.u rfl) rfl rfl ?_
                  refine LR.nil ?_
                  have hps := rst_no (f := gone[i]) hkl hlu (by simp_all)
                  refine QN.sub (hN29 (k + 1) _ ?_ ?_) ⟨rfl, rfl, rfl, rfl, rfl, (iv (by omega)), (iv (by omega)), (iv (by omega)), trivial⟩
                  · exact ⟨(by omega), hlm3⟩
                  · first | omega | (simp only; omega) | (simp; omega)
              ·
                refine LH.gs 17 (by kernel_rfl) rfl (by kernel_rfl) (by kernel_rfl) (by kernel_rfl) rfl rfl rfl rfl rfl rfl hqn130 ?_
                refine LH.gs 18 (by kernel_rfl) rfl (by kernel_rfl) (by kernel_rfl) (by kernel_rfl) rfl rfl rfl rfl rfl rfl hqn130 ?_
                refine LH.gs 19 (by kernel_rfl) rfl (by kernel_rfl) (by kernel_rfl) (by kernel_rfl) rfl rfl rfl rfl rfl rfl hqn130 ?_
                refine LH.gs 20 (by kernel_rfl) rfl (by kernel_rfl) (by kernel_rfl) (by kernel_rfl) rfl rfl rfl rfl rfl rfl hqn130 ?_
                refine LH.gs 21 (by kernel_rfl) rfl (by kernel_rfl) (by kernel_rfl) (by kernel_rfl) rfl rfl rfl rfl rfl rfl hqn130 ?_
                refine LH.gs 22 (by kernel_rfl) rfl (by kernel_rfl) (by kernel_rfl) (by kernel_rfl) rfl rfl rfl rfl rfl rfl hqn130 ?_
                refine LH.gs 23 (by kernel_rfl) rfl (by kernel_rfl) (by kernel_rfl) (by kernel_rfl) rfl rfl rfl rfl rfl rfl hqn130 ?_
                refine LH.gs 24 (by kernel_rfl) rfl (by kernel_rfl) (by kernel_rfl) (by kernel_rfl) rfl rfl rfl rfl rfl rfl hqn130 ?_
                refine LH.gs 25 (by kernel_rfl) rfl (by kernel_rfl) (by kernel_rfl) (by kernel_rfl) rfl rfl rfl rfl rfl rfl hqn130 ?_
                refine LH.gs 26 (by kernel_rfl) rfl (by kernel_rfl) (by kernel_rfl) (by kernel_rfl) rfl rfl rfl rfl rfl rfl hqn130 ?_
                refine LH.gs 27 (by kernel_rfl) rfl (by kernel_rfl) (by kernel_rfl) (by kernel_rfl) rfl rfl rfl rfl rfl rfl hqn130 ?_
                refine LH.gs 28 (by kernel_rfl) rfl (by kernel_rfl) (by kernel_rfl) (by kernel_rfl) rfl rfl rfl rfl rfl rfl hqn130 ?_
                refine LH.gs 29 (by kernel_rfl) rfl (by kernel_rfl) (by kernel_rfl) (by kernel_rfl) rfl rfl rfl rfl rfl rfl hqn130 ?_
                refine LH.take 30 (by kernel_rfl) rfl (by kernel_rfl) (by kernel_rfl) (by kernel_rfl) (fun Hq hq => Y.pick_f rfl rfl rfl) (Wd.g rfl rfl rfl) rfl rfl hqn130 ?_
                refine LH.take 31 (by kernel_rfl) rfl (by kernel_rfl) (by kernel_rfl) (by kernel_rfl) (fun Hq hq => Y.pick_f rfl rfl rfl) (Wd.u rfl) rfl rfl hqn130 ?_
                refine LH.done (by kernel_rfl) ?_
                have hqe := hqn130
                refine hK36 _ _ ?_
                refine CW.cond_f rfl ?_
                refine CW.skip ?_
                refine hK33 _ _ ?_
                refine hK32 _ _ ?_
                refine CW.region ?_
                refine LR.v (Y.move rfl rfl) (Wd.u rfl) rfl rfl ?_
                refine LR.v (Y.addi rfl rfl rfl (by omega)) (Wd.u rfl) rfl rfl ?_
                refine LR.v (Y.assign rfl rfl) (Wd.u rfl) rfl rfl ?_
                refine LR.nil ?_
                have hps := rst_no (f := gone[i]) hkl hlu (by simp_all)
                refine QN.sub (hN29 (k + 1) _ ?_ ?_) ⟨rfl, rfl, rfl, rfl, rfl, (iv (by omega)), (iv (by omega)), (iv (by omega)), trivial⟩
                · exact ⟨(by omega), hlm3⟩
                · first | omega | (simp only; omega) | (simp; omega)
      ·
        have hk2 : k = come.length := by omega
        refine CW.exit (hE30 (.exit 4) nofun _ _ (hE29 (.exit 4) nofun _ _ (hX28 _ _ ?_)))
        refine hK26 _ _ ?_
        refine CW.seq (fun K37 hK37 hE37 => ?_)
        refine CW.region ?_
        refine LR.v (Y.move rfl rfl) (Wd.u rfl) rfl rfl ?_
        refine LR.v (Y.geq rfl rfl rfl) (Wd.u rfl) rfl rfl ?_
        refine LR.nil ?_
        refine hK37 _ _ ?_
        refine CW.condp rfl (fun c150 => ?_) (fun c150 => ?_)
        ·
          obtain ⟨q, hq, hqk⟩ := rst_ge (f := gone[i]) (come := come) (u := u) (k := k) (by omega)
          have hq2 : rst gone[i] come u come.length = q := by rw [← hk2]; exact hq
          have hql : q < come.length := by omega
          refine CW.region ?_
          refine LR.v (Y.move rfl rfl) (Wd.u rfl) rfl rfl ?_
          refine LR.v (Y.move rfl rfl) (Wd.u rfl) rfl rfl ?_
          refine LR.v (Y.move rfl rfl) (Wd.u rfl) rfl rfl ?_
          refine LR.v (Y.cast (v2 := .int .i64 q) (Y.move rfl rfl) (by rw [hq])) (Wd.u rfl) rfl rfl ?_
          refine LR.v (Y.move rfl rfl) (Wd.u rfl) rfl rfl ?_
          refine LR.v (Y.move rfl rfl) (Wd.u rfl) rfl rfl ?_
          refine LR.v (Y.cast (v2 := .int .i64 q) (Y.move rfl rfl) (by rw [hq])) (Wd.u rfl) rfl rfl ?_
          refine LR.v (Y.addi rfl rfl rfl (by omega)) (Wd.u rfl) rfl rfl ?_
          refine LR.v (Y.owAddr ot (i) rfl Try.runUnderlying39 Try.sizeOf3 rfl rfl (by first | rfl | omega) (by first | omega | (simp; omega) | (simp; done))) (Wd.u rfl) rfl rfl ?_
          refine LR.s (S.oww ot (i) 0 (((q : Int) + 1)) rfl rfl rfl rfl Try.sizeOf3 (by first | omega | (simp; omega) | (simp; done)) (by decide) (rfl)) (Wd.u rfl) rfl (fun H23_9 r23_9 => ?_)
          obtain ⟨ot, hs23_9⟩ := r23_9
          replace hs23_9 := hs23_9.md
          replace hl := hl.upL hs23_9 (DFL.cons df74 DFL.nil)
          replace hxo := fun c hx0 => (hxo c hx0).upL hs23_9 (DFL.cons df75 DFL.nil)
          replace hxn := fun c hx1 => (hxn c hx1).upL hs23_9 (DFL.cons df76 DFL.nil)
          replace og := og.upL hs23_9 (DL.cons dj77 DL.nil)
          replace oc := oc.upL hs23_9 (DL.cons dj78 DL.nil)
          replace os := os.upL hs23_9 (DL.cons dj93.symm DL.nil)
          replace ou := ou.upL hs23_9 (DL.cons dj92.symm DL.nil)
          replace hm0 := (Mo.trL (ks := []) (hm0.mdn []) hs23_9 (MIL.cons (MI.app MI.z (nx79) (Nat.le_refl _)) MIL.nil)).nil
          replace hlm2 := hlm2.trL hs23_9 (MIL.cons (MI.app (MI.root (by simp)) (nx95) (Nat.le_refl _)) MIL.nil)
          have hz18 := hs23_9.size
          refine LR.v (Y.owAddr ou (q) rfl Try.runUnderlying43 Try.sizeOf4 rfl rfl (by first | rfl | omega) (by first | omega | (simp; omega) | (simp; done))) (Wd.u rfl) rfl rfl ?_
          refine LR.s (S.oww ou (q) 0 (true) rfl rfl rfl rfl Try.sizeOf4 (by first | omega | (simp; omega) | (simp; done)) (by decide) (rfl)) (Wd.u rfl) rfl (fun H23_11 r23_11 => ?_)
          obtain ⟨ou, hs23_11⟩ := r23_11
          replace hs23_11 := hs23_11.md
          replace hl := hl.upL hs23_11 (DFL.cons df80 DFL.nil)
          replace hxo := fun c hx0 => (hxo c hx0).upL hs23_11 (DFL.cons df81 DFL.nil)
          replace hxn := fun c hx1 => (hxn c hx1).upL hs23_11 (DFL.cons df82 DFL.nil)
          replace og := og.upL hs23_11 (DL.cons dj83 DL.nil)
          replace oc := oc.upL hs23_11 (DL.cons dj84 DL.nil)
          replace os := os.upL hs23_11 (DL.cons dj94.symm DL.nil)
          replace ot := ot.upL hs23_11 (DL.cons dj92 DL.nil)
          replace hm0 := (Mo.trL (ks := []) (hm0.mdn []) hs23_11 (MIL.cons (MI.app MI.z (nx85) (Nat.le_refl _)) MIL.nil)).nil
          replace hlm2 := hlm2.trL hs23_11 (MIL.cons (MI.app (MI.root (by simp)) (nx96) (Nat.le_refl _)) MIL.nil)
          have hz19 := hs23_11.size
          refine LR.v (Y.owAddr os (i) rfl Try.runUnderlying39 Try.sizeOf3 rfl rfl (by first | rfl | omega) (by first | omega | (simp; omega) | (simp; done))) (Wd.u rfl) rfl rfl ?_
          refine LR.s (S.oww os (i) 0 ((100 : Int)) rfl rfl rfl rfl Try.sizeOf3 (by first | omega | (simp; omega) | (simp; done)) (by decide) (rfl)) (Wd.u rfl) rfl (fun H23_13 r23_13 => ?_)
          obtain ⟨os, hs23_13⟩ := r23_13
          replace hs23_13 := hs23_13.md
          replace hl := hl.upL hs23_13 (DFL.cons df86 DFL.nil)
          replace hxo := fun c hx0 => (hxo c hx0).upL hs23_13 (DFL.cons df87 DFL.nil)
          replace hxn := fun c hx1 => (hxn c hx1).upL hs23_13 (DFL.cons df88 DFL.nil)
          replace og := og.upL hs23_13 (DL.cons dj89 DL.nil)
          replace oc := oc.upL hs23_13 (DL.cons dj90 DL.nil)
          replace ot := ot.upL hs23_13 (DL.cons dj93 DL.nil)
          replace ou := ou.upL hs23_13 (DL.cons dj94 DL.nil)
          replace hm0 := (Mo.trL (ks := []) (hm0.mdn []) hs23_13 (MIL.cons (MI.app MI.z (nx91) (Nat.le_refl _)) MIL.nil)).nil
          replace hlm2 := hlm2.trL hs23_13 (MIL.cons (MI.app (MI.root (by simp)) (nx97) (Nat.le_refl _)) MIL.nil)
          have hz20 := hs23_13.size
          refine LR.nil ?_
          refine hK24 _ _ ?_
          refine hK23 _ _ ?_
          refine CW.region ?_
          refine LR.v (Y.move rfl rfl) (Wd.u rfl) rfl rfl ?_
          refine LR.v (Y.addi rfl rfl rfl (by omega)) (Wd.u rfl) rfl rfl ?_
          refine LR.v (Y.assign rfl rfl) (Wd.u rfl) rfl rfl ?_
          refine LR.nil ?_
          refine QN.sub (hN20 (i + 1, to.set i ((q : Int) + 1), u.set q true, sc.set i 100) _ ?_ ?_) ⟨rfl, rfl, rfl, rfl, rfl, (iv (by omega)), trivial⟩
          · exact ⟨(by omega), ot, ou, os, (hB.yes hil hq2).2, nx95, nx96, nx97, dj92, dj93, dj94, hlm2⟩
          · first | omega | (simp only; omega) | (simp; omega)
        ·
          refine CW.skip ?_
          refine hK24 _ _ ?_
          refine hK23 _ _ ?_
          refine CW.region ?_
          refine LR.v (Y.move rfl rfl) (Wd.u rfl) rfl rfl ?_
          refine LR.v (Y.addi rfl rfl rfl (by omega)) (Wd.u rfl) rfl rfl ?_
          refine LR.v (Y.assign rfl rfl) (Wd.u rfl) rfl rfl ?_
          refine LR.nil ?_
          refine QN.sub (hN20 (i + 1, to, u, sc) _ ?_ ?_) ⟨rfl, rfl, rfl, rfl, rfl, (iv (by omega)), trivial⟩
          · exact ⟨(by omega), ot, ou, os, hB.no hil (by rw [← hk2]; omega), nx95, nx96, nx97, dj92, dj93, dj94, hlm2⟩
          · first | omega | (simp only; omega) | (simp; omega)
    ·
      have hi2 : i = gone.length := by omega
      rw [hi2] at hB
      obtain ⟨L, hL, hS⟩ := sortLk (candG (exL gone come).2.1 (exL gone come).2.2)
      have hC0 := RelC.init hB hL hS
      have hlt := hB.lt
      have hlu := hB.lu
      have hls := hB.ls
      have hnl := nz_len to
      refine CW.exit (hE21 (.exit 2) nofun _ _ (hE20 (.exit 2) nofun _ _ (hX19 _ _ ?_)))
      refine hK17 _ _ ?_
      refine CW.seq (fun K38 hK38 hE38 => ?_)
      refine CW.region ?_
      refine LR.v (Y.assign rfl rfl) (Wd.u rfl) rfl rfl ?_
      refine LR.v (Y.assign rfl rfl) (Wd.u rfl) rfl rfl ?_
      refine LR.nil ?_
      refine hK38 _ _ ?_
      refine CW.seq (fun K39 hK39 hE39 => ?_)
      refine CW.seq (fun K40 hK40 hE40 => ?_)
      refine CW.region ?_
      refine LR.v (Y.assign rfl rfl) (Wd.u rfl) rfl rfl ?_
      refine LR.nil ?_
      refine hK40 _ _ ?_
      refine CW.block (fun K41 hK41 hX41 hE41 => ?_)
      refine CW.loop (fun (i4 : (Nat)) => [(3, vg), (4, vc), (6, v78), (7, v81), (8, v84), (12, .int .i64 (unus (gone.take i4) ((nz to).take i4)).length), (13, .int .i64 (0)), (14, .int .i64 i4)])
        (fun (i4 : (Nat)) (H : Heap) => (i4 ≤ gone.length) ∧ ((unus (gone.take i4) ((nz to).take i4)).length ≤ i4) ∧ Nw HL2 H)
        (fun (i4 : (Nat)) => gone.length - i4) 0 ⟨rfl, rfl, rfl, rfl, rfl, rfl, rfl, rfl, trivial⟩ ?_ ?_
      ·
        exact ⟨(by omega), by simp [unus], Mo.refl _ _⟩
      intro i4 HL4 hI4 K42 hN42 hE42
      obtain ⟨hi, hun, hlm4⟩ := hI4
      replace hl := hl.nw hlm4
      replace hxo := fun c hx0 => (hxo c hx0).nw hlm4
      replace hxn := fun c hx1 => (hxn c hx1).nw hlm4
      replace og := og.nw hlm4
      replace oc := oc.nw hlm4
      replace os := os.nw hlm4
      replace ot := ot.nw hlm4
      replace ou := ou.nw hlm4
      replace hm0 := hm0.tr hlm4
      have hz21 := hlm4.size
      refine CW.seq (fun K43 hK43 hE43 => ?_)
      refine CW.seq (fun K44 hK44 hE44 => ?_)
      refine CW.region ?_
      refine LR.v (Y.move rfl rfl) (Wd.u rfl) rfl rfl ?_
      refine LR.v (Y.move rfl rfl) (Wd.u rfl) rfl rfl ?_
      refine LR.v (Y.len og.rd rfl Try.runUnderlying26 rfl) (Wd.u rfl) rfl rfl ?_
      refine LR.v (Y.lss rfl rfl rfl) (Wd.u rfl) rfl rfl ?_
      refine LR.nil ?_
      refine hK44 _ _ ?_
      refine CW.condp rfl (fun c165 => ?_) (fun c165 => ?_)
      ·
        refine CW.skip ?_
        refine hK43 _ _ ?_
        refine CW.seq (fun K45 hK45 hE45 => ?_)
        refine CW.block (fun K46 hK46 hX46 hE46 => ?_)
        refine CW.seq (fun K47 hK47 hE47 => ?_)
        refine CW.region ?_
        refine LR.v (Y.move rfl rfl) (Wd.u rfl) rfl rfl ?_
        refine LR.v (Y.move rfl rfl) (Wd.u rfl) rfl rfl ?_
        have hil : i4 < gone.length := by omega
        refine LR.v (Y.owAddr ot (i4) rfl Try.runUnderlying39 Try.sizeOf3 rfl rfl (by first | rfl | omega) (by first | omega | (simp; omega) | (simp; done))) (Wd.u rfl) rfl rfl ?_
        refine LR.v (Y.load1 (ot.pt (j := i4) (by first | omega | (simp; omega) | (simp; done))) rfl Try.isAgg3 rfl) (Wd.u rfl) rfl rfl ?_
        refine LR.v (Y.eql rfl rfl rfl) (Wd.u rfl) rfl rfl ?_
        refine LR.nil ?_
        refine hK47 _ _ ?_
        refine CW.condp rfl (fun c172 => ?_) (fun c172 => ?_)
        ·
          refine CW.region ?_
          refine LR.v (Y.move rfl rfl) (Wd.u rfl) rfl rfl ?_
          refine LR.v (Y.addi rfl rfl rfl (by omega)) (Wd.u rfl) rfl rfl ?_
          refine LR.v (Y.assign rfl rfl) (Wd.u rfl) rfl rfl ?_
          refine LR.nil ?_
          refine hK46 _ _ ?_
          refine hK45 _ _ ?_
          refine CW.region ?_
          refine LR.v (Y.move rfl rfl) (Wd.u rfl) rfl rfl ?_
          refine LR.v (Y.addi rfl rfl rfl (by omega)) (Wd.u rfl) rfl rfl ?_
          refine LR.v (Y.assign rfl rfl) (Wd.u rfl) rfl rfl ?_
          refine LR.nil ?_
          have hps := congrArg List.length (unus_take (l := gone) (u := nz to) hil (by omega))
          rw [List.length_append] at hps
          have hz9 : (nz to)[i4]'(by omega) = decide (to[i4]'(by omega) ≠ 0) := by simp [nz]
          have hps2 : (unus (gone.take (i4 + 1)) ((nz to).take (i4 + 1))).length = (unus (gone.take i4) ((nz to).take i4)).length + if to[i4]'(by omega) = 0 then 1 else 0 := by rw [hps, hz9]; by_cases h9 : to[i4]'(by omega) = 0 <;> simp [h9]
          first | rw [if_pos (by assumption)] at hps2 | rw [if_neg (by assumption)] at hps2
          refine QN.sub (hN42 (i4 + 1) _ ?_ ?_) ⟨rfl, rfl, rfl, rfl, rfl, (iv (by omega)), (iv (by omega)), (iv (by omega)), trivial⟩
          · exact ⟨(by omega), by omega, hlm4⟩
          · first | omega | (simp only; omega) | (simp; omega)
        ·
          refine CW.skip ?_
          refine hK46 _ _ ?_
          refine hK45 _ _ ?_
          refine CW.region ?_
          refine LR.v (Y.move rfl rfl) (Wd.u rfl) rfl rfl ?_
          refine LR.v (Y.addi rfl rfl rfl (by omega)) (Wd.u rfl) rfl rfl ?_
          refine LR.v (Y.assign rfl rfl) (Wd.u rfl) rfl rfl ?_
          refine LR.nil ?_
          have hps := congrArg List.length (unus_take (l := gone) (u := nz to) hil (by omega))
          rw [List.length_append] at hps
          have hz9 : (nz to)[i4]'(by omega) = decide (to[i4]'(by omega) ≠ 0) := by simp [nz]
          have hps2 : (unus (gone.take (i4 + 1)) ((nz to).take (i4 + 1))).length = (unus (gone.take i4) ((nz to).take i4)).length + if to[i4]'(by omega) = 0 then 1 else 0 := by rw [hps, hz9]; by_cases h9 : to[i4]'(by omega) = 0 <;> simp [h9]
          first | rw [if_pos (by assumption)] at hps2 | rw [if_neg (by assumption)] at hps2
          refine QN.sub (hN42 (i4 + 1) _ ?_ ?_) ⟨rfl, rfl, rfl, rfl, rfl, (iv (by omega)), (iv (by omega)), (iv (by omega)), trivial⟩
          · exact ⟨(by omega), by omega, hlm4⟩
          · first | omega | (simp only; omega) | (simp; omega)
      ·
        have hi3 : i4 = gone.length := by omega
        have hN : (unus (gone.take i4) ((nz to).take i4)).length = (unus gone (nz to)).length := by rw [hi3, List.take_length, List.take_of_length_le (by omega)]
        refine CW.exit (hE43 (.exit 6) nofun _ _ (hE42 (.exit 6) nofun _ _ (hX41 _ _ ?_)))
        refine hK39 _ _ ?_
        refine CW.seq (fun K48 hK48 hE48 => ?_)
        refine CW.seq (fun K49 hK49 hE49 => ?_)
        refine CW.region ?_
        refine LR.v (Y.assign rfl rfl) (Wd.u rfl) rfl rfl ?_
        refine LR.nil ?_
        refine hK49 _ _ ?_
        refine CW.block (fun K50 hK50 hX50 hE50 => ?_)
        refine CW.loop (fun (k5 : (Nat)) => [(3, vg), (4, vc), (6, v78), (7, v81), (8, v84), (12, .int .i64 (unus (gone.take i4) ((nz to).take i4)).length), (13, .int .i64 (unus (come.take k5) (u.take k5)).length), (15, .int .i64 k5)])
          (fun (k5 : (Nat)) (H : Heap) => (k5 ≤ come.length) ∧ ((unus (come.take k5) (u.take k5)).length ≤ k5) ∧ Nw HL4 H)
          (fun (k5 : (Nat)) => come.length - k5) 0 ⟨rfl, rfl, rfl, rfl, rfl, rfl, rfl, rfl, trivial⟩ ?_ ?_
        ·
          exact ⟨(by omega), by simp [unus], Mo.refl _ _⟩
        intro k5 HL5 hI5 K51 hN51 hE51
        obtain ⟨hk, hun, hlm5⟩ := hI5
        replace hl := hl.nw hlm5
        replace hxo := fun c hx0 => (hxo c hx0).nw hlm5
        replace hxn := fun c hx1 => (hxn c hx1).nw hlm5
        replace og := og.nw hlm5
        replace oc := oc.nw hlm5
        replace os := os.nw hlm5
        replace ot := ot.nw hlm5
        replace ou := ou.nw hlm5
        replace hm0 := hm0.tr hlm5
        have hz22 := hlm5.size
        refine CW.seq (fun K52 hK52 hE52 => ?_)
        refine CW.seq (fun K53 hK53 hE53 => ?_)
        refine CW.region ?_
        refine LR.v (Y.move rfl rfl) (Wd.u rfl) rfl rfl ?_
        refine LR.v (Y.move rfl rfl) (Wd.u rfl) rfl rfl ?_
        refine LR.v (Y.len oc.rd rfl Try.runUnderlying26 rfl) (Wd.u rfl) rfl rfl ?_
        refine LR.v (Y.lss rfl rfl rfl) (Wd.u rfl) rfl rfl ?_
        refine LR.nil ?_
        refine hK53 _ _ ?_
        refine CW.condp rfl (fun c178 => ?_) (fun c178 => ?_)
        ·
          refine CW.skip ?_
          refine hK52 _ _ ?_
          refine CW.seq (fun K54 hK54 hE54 => ?_)
          refine CW.block (fun K55 hK55 hX55 hE55 => ?_)
          refine CW.seq (fun K56 hK56 hE56 => ?_)
          refine CW.region ?_
          refine LR.v (Y.move rfl rfl) (Wd.u rfl) rfl rfl ?_
          refine LR.v (Y.move rfl rfl) (Wd.u rfl) rfl rfl ?_
          have hkl : k5 < come.length := by omega
          refine LR.v (Y.owAddr ou (k5) rfl Try.runUnderlying43 Try.sizeOf4 rfl rfl (by first | rfl | omega) (by first | omega | (simp; omega) | (simp; done))) (Wd.u rfl) rfl rfl ?_
          refine LR.v (Y.load1 (ou.pt (j := k5) (by first | omega | (simp; omega) | (simp; done))) rfl Try.isAgg4 rfl) (Wd.u rfl) rfl rfl ?_
          refine LR.v (Y.not rfl rfl) (Wd.u rfl) rfl rfl ?_
          refine LR.nil ?_
          refine hK56 _ _ ?_
          refine CW.cond rfl (fun c185 => ?_) (fun c185 => ?_)
          ·
            refine CW.region ?_
            refine LR.v (Y.move rfl rfl) (Wd.u rfl) rfl rfl ?_
            refine LR.v (Y.addi rfl rfl rfl (by omega)) (Wd.u rfl) rfl rfl ?_
            refine LR.v (Y.assign rfl rfl) (Wd.u rfl) rfl rfl ?_
            refine LR.nil ?_
            refine hK55 _ _ ?_
            refine hK54 _ _ ?_
            refine CW.region ?_
            refine LR.v (Y.move rfl rfl) (Wd.u rfl) rfl rfl ?_
            refine LR.v (Y.addi rfl rfl rfl (by omega)) (Wd.u rfl) rfl rfl ?_
            refine LR.v (Y.assign rfl rfl) (Wd.u rfl) rfl rfl ?_
            refine LR.nil ?_
            have hps := congrArg List.length (unus_take (l := come) (u := u) hkl hlu)
            rw [List.length_append] at hps
            have hps2 : (unus (come.take (k5 + 1)) (u.take (k5 + 1))).length = (unus (come.take k5) (u.take k5)).length + if u[k5]'(by omega) = true then 0 else 1 := by rw [hps]; by_cases h9 : u[k5]'(by omega) = true <;> simp [h9]
            first | rw [if_neg (by simpa using c185)] at hps2 | rw [if_pos (by simpa using c185)] at hps2
            refine QN.sub (hN51 (k5 + 1) _ ?_ ?_) ⟨rfl, rfl, rfl, rfl, rfl, (iv (by omega)), (iv (by omega)), (iv (by omega)), trivial⟩
            · exact ⟨(by omega), by omega, hlm5⟩
            · first | omega | (simp only; omega) | (simp; omega)
          ·
            refine CW.skip ?_
            refine hK55 _ _ ?_
            refine hK54 _ _ ?_
            refine CW.region ?_
            refine LR.v (Y.move rfl rfl) (Wd.u rfl) rfl rfl ?_
            refine LR.v (Y.addi rfl rfl rfl (by omega)) (Wd.u rfl) rfl rfl ?_
            refine LR.v (Y.assign rfl rfl) (Wd.u rfl) rfl rfl ?_
            refine LR.nil ?_
            have hps := congrArg List.length (unus_take (l := come) (u := u) hkl hlu)
            rw [List.length_append] at hps
            have hps2 : (unus (come.take (k5 + 1)) (u.take (k5 + 1))).length = (unus (come.take k5) (u.take k5)).length + if u[k5]'(by omega) = true then 0 else 1 := by rw [hps]; by_cases h9 : u[k5]'(by omega) = true <;> simp [h9]
            first | rw [if_neg (by simpa using c185)] at hps2 | rw [if_pos (by simpa using c185)] at hps2
            refine QN.sub (hN51 (k5 + 1) _ ?_ ?_) ⟨rfl, rfl, rfl, rfl, rfl, (iv (by omega)), (iv (by omega)), (iv (by omega)), trivial⟩
            · exact ⟨(by omega), by omega, hlm5⟩
            · first | omega | (simp only; omega) | (simp; omega)
        ·
          have hk3 : k5 = come.length := by omega
          have hM : (unus (come.take k5) (u.take k5)).length = (unus come u).length := by rw [hk3, List.take_length, List.take_of_length_le (by omega)]
          obtain ⟨sm, hsm⟩ : ∃ sm : Bool, sm = decide ((unus gone (nz to)).length ≤ 100 ∧ (unus come u).length ≤ 100) := ⟨_, rfl⟩
          rw [← hsm] at hC0
          refine CW.exit (hE52 (.exit 8) nofun _ _ (hE51 (.exit 8) nofun _ _ (hX50 _ _ ?_)))
          refine hK48 _ _ ?_
          refine CW.cut (fun (s_ : (List Int) × (List Bool) × (List Int)) => match s_ with | (to3, u3, sc3) => [(3, vg), (4, vc), (6, v78), (8, v84)])
            (fun (s_ : (List Int) × (List Bool) × (List Int)) (H : Heap) => match s_ with | (to3, u3, sc3) => (Ow (HL1.size + 1) 3 H fI 1 v78 to3) ∧ (Ow (H78.size + 1) 4 H fO 1 v81 u3) ∧ (Ow (H81.size + 1) 3 H fI 1 v84 sc3) ∧ ((outR come gone to3 sc3).Perm ((exL gone come).1 ++ grd [] [] L)) ∧ (to3.length = gone.length ∧ sc3.length = gone.length) ∧ (∀ j (h : j < to3.length), 0 ≤ to3[j] ∧ to3[j] ≤ come.length) ∧ (Nx (HL1.size + 1) HL5.size (HL1.size + 1)) ∧ (Nx (H78.size + 1) HL5.size (H78.size + 1)) ∧ (Nx (H81.size + 1) HL5.size (H81.size + 1)) ∧ (Dj (HL1.size + 1) (H78.size + 1)) ∧ (Dj (HL1.size + 1) (H81.size + 1)) ∧ (Dj (H78.size + 1) (H81.size + 1)) ∧ Mo (Ms [(HL1.size + 1), (H78.size + 1), (H81.size + 1)]) HL5 H) (fun K57 hK57 hE57 => ?_) ?_
          ·
            have hcm57 : Mo (Ms [(HL1.size + 1), (H78.size + 1), (H81.size + 1)]) HL5 HL5 := Mo.refl _ _
            have nx_hcm57_ot := Nx.refl (HL1.size + 1) HL5.size
            have nx_hcm57_ou := Nx.refl (H78.size + 1) HL5.size
            have nx_hcm57_os := Nx.refl (H81.size + 1) HL5.size
            refine CW.block (fun K58 hK58 hX58 hE58 => ?_)
            refine CW.loop (fun (s_ : (List Int) × (List Bool) × (List Int)) => match s_ with | (to2, u2, sc2) => [(3, vg), (4, vc), (6, v78), (7, v81), (8, v84), (12, .int .i64 (unus (gone.take i4) ((nz to).take i4)).length), (13, .int .i64 (unus (come.take k5) (u.take k5)).length)])
              (fun (s_ : (List Int) × (List Bool) × (List Int)) (H : Heap) => match s_ with | (to2, u2, sc2) => (Ow (HL1.size + 1) 3 H fI 1 v78 to2) ∧ (Ow (H78.size + 1) 4 H fO 1 v81 u2) ∧ (Ow (H81.size + 1) 3 H fI 1 v84 sc2) ∧ (RelC sm (exL gone come).1 L gone come to2 u2 sc2) ∧ (Nx (HL1.size + 1) HL5.size (HL1.size + 1)) ∧ (Nx (H78.size + 1) HL5.size (H78.size + 1)) ∧ (Nx (H81.size + 1) HL5.size (H81.size + 1)) ∧ (Dj (HL1.size + 1) (H78.size + 1)) ∧ (Dj (HL1.size + 1) (H81.size + 1)) ∧ (Dj (H78.size + 1) (H81.size + 1)) ∧ Mo (Ms [(HL1.size + 1), (H78.size + 1), (H81.size + 1)]) HL5 H)
              (fun (s_ : (List Int) × (List Bool) × (List Int)) => match s_ with | (to2, u2, sc2) => (unus gone (nz to2)).length) (to, u, sc) ⟨rfl, rfl, rfl, rfl, rfl, rfl, rfl, trivial⟩ ?_ ?_
            ·
              exact ⟨ot, ou, os, hC0, Nx.refl _ _, Nx.refl _ _, Nx.refl _ _, dj92, dj93, dj94, Mo.refl _ _⟩
            rintro ⟨to2, u2, sc2⟩ HL6 hI6 K59 hN59 hE59
            obtain ⟨ot, ou, os, hC, nxl_ot, nxl_ou, nxl_os, dj_ot_ou, dj_ot_os, dj_ou_os, hlm6⟩ := hI6
            have df98 := DF.app (df74) (bf_hl.mono hm0.size) nxl_ot
            have df99 := DF.app (df75) (bf_hxo.mono hm0.size) nxl_ot
            have df100 := DF.app (df76) (bf_hxn.mono hm0.size) nxl_ot
            have dj101 : Dj kg (HL1.size + 1) := Dj.app (dj77) og.le nxl_ot
            have dj102 : Dj kc (HL1.size + 1) := Dj.app (dj78) oc.le nxl_ot
            have nx103 : Nx 0 H0.size (HL1.size + 1) := Nx.tr (nx79) nxl_ot hm0.size
            have nx104 : Nx (HL1.size + 1) HL5.size (HL1.size + 1) := Nx.tr (nx_hcm57_ot) nxl_ot hcm57.size
            have df105 := DF.app (df80) (bf_hl.mono hm0.size) nxl_ou
            have df106 := DF.app (df81) (bf_hxo.mono hm0.size) nxl_ou
            have df107 := DF.app (df82) (bf_hxn.mono hm0.size) nxl_ou
            have dj108 : Dj kg (H78.size + 1) := Dj.app (dj83) og.le nxl_ou
            have dj109 : Dj kc (H78.size + 1) := Dj.app (dj84) oc.le nxl_ou
            have nx110 : Nx 0 H0.size (H78.size + 1) := Nx.tr (nx85) nxl_ou hm0.size
            have nx111 : Nx (H78.size + 1) HL5.size (H78.size + 1) := Nx.tr (nx_hcm57_ou) nxl_ou hcm57.size
            have df112 := DF.app (df86) (bf_hl.mono hm0.size) nxl_os
            have df113 := DF.app (df87) (bf_hxo.mono hm0.size) nxl_os
            have df114 := DF.app (df88) (bf_hxn.mono hm0.size) nxl_os
            have dj115 : Dj kg (H81.size + 1) := Dj.app (dj89) og.le nxl_os
            have dj116 : Dj kc (H81.size + 1) := Dj.app (dj90) oc.le nxl_os
            have nx117 : Nx 0 H0.size (H81.size + 1) := Nx.tr (nx91) nxl_os hm0.size
            have nx118 : Nx (H81.size + 1) HL5.size (H81.size + 1) := Nx.tr (nx_hcm57_os) nxl_os hcm57.size
            replace hl := hl.upL hlm6 (DFL.cons df74 (DFL.cons df80 (DFL.cons df86 DFL.nil)))
            replace hxo := fun c hx0 => (hxo c hx0).upL hlm6 (DFL.cons df75 (DFL.cons df81 (DFL.cons df87 DFL.nil)))
            replace hxn := fun c hx1 => (hxn c hx1).upL hlm6 (DFL.cons df76 (DFL.cons df82 (DFL.cons df88 DFL.nil)))
            replace og := og.upL hlm6 (DL.cons dj77 (DL.cons dj83 (DL.cons dj89 DL.nil)))
            replace oc := oc.upL hlm6 (DL.cons dj78 (DL.cons dj84 (DL.cons dj90 DL.nil)))
            replace hm0 := (Mo.trL (ks := []) (hm0.mdn []) hlm6 (MIL.cons (MI.app MI.z (nx79) (Nat.le_refl _)) (MIL.cons (MI.app MI.z (nx85) (Nat.le_refl _)) (MIL.cons (MI.app MI.z (nx91) (Nat.le_refl _)) MIL.nil)))).nil
            replace hcm57 := hcm57.trL hlm6 (MIL.cons (MI.app (MI.root (by simp)) (nx_hcm57_ot) (Nat.le_refl _)) (MIL.cons (MI.app (MI.root (by simp)) (nx_hcm57_ou) (Nat.le_refl _)) (MIL.cons (MI.app (MI.root (by simp)) (nx_hcm57_os) (Nat.le_refl _)) MIL.nil)))
            have hz23 := hlm6.size
            have hle_ot := ot.le
            have hle_ou := ou.le
            have hle_os := os.le
            have dj119 := dj_ot_ou
            have dj120 := dj_ot_os
            have dj121 := dj_ou_os
            have nx122 := nxl_ot
            have nx123 := nxl_ou
            have nx124 := nxl_os
            refine CW.seq (fun K60 hK60 hE60 => ?_)
            refine CW.seq (fun K61 hK61 hE61 => ?_)
            refine CW.region ?_
            refine LR.v (Y.move rfl rfl) (Wd.u rfl) rfl rfl ?_
            refine LR.v (Y.leq rfl rfl rfl) (Wd.u rfl) rfl rfl ?_
            refine LR.v (Y.move rfl rfl) (Wd.u rfl) rfl rfl ?_
            refine LR.splitp (d := 190) rfl (fun g190 => ?_) (fun g190 => ?_)
            ·
              refine LR.v (Y.move rfl rfl) (Wd.g rfl rfl rfl) rfl rfl ?_
              refine LR.v (Y.leq rfl rfl rfl) (Wd.g rfl rfl rfl) rfl rfl ?_
              refine LR.v (Y.pick_t rfl rfl rfl) (Wd.u rfl) rfl rfl ?_
              refine LR.nil ?_
              refine hK61 _ _ ?_
              refine CW.condp rfl (fun c193 => ?_) (fun c193 => ?_)
              ·
                have hs1 : sm = true := by rw [hsm]; exact decide_eq_true (by omega)
                have hlt2 := hC.lt
                have hlu2 := hC.lu
                have hls2 := hC.ls
                refine CW.skip ?_
                refine hK60 _ _ ?_
                refine CW.block (fun K62 hK62 hX62 hE62 => ?_)
                refine CW.seq (fun K63 hK63 hE63 => ?_)
                refine CW.region ?_
                refine LR.v (Y.assign rfl rfl) (Wd.u rfl) rfl rfl ?_
                refine LR.v (Y.assign rfl rfl) (Wd.u rfl) rfl rfl ?_
                refine LR.nil ?_
                refine hK63 _ _ ?_
                refine CW.seq (fun K64 hK64 hE64 => ?_)
                refine CW.region ?_
                refine LR.z (Z.allocv rfl Try.zeroValue38) (Wd.u rfl) rfl rfl (fun v18 H18 r18 => ?_)
                obtain ⟨rfl, vx, hs18, ob18, hH18⟩ := r18
                have hzs18 : H18.size = HL6.size + 1 := by rw [hH18]; simp
                have df125 := (DF.new (bf_hl.mono hm0.size) : DF _ (HL6.size + 1))
                have df126 := (DF.new (bf_hxo.mono hm0.size) : DF _ (HL6.size + 1))
                have df127 := (DF.new (bf_hxn.mono hm0.size) : DF _ (HL6.size + 1))
                have dj128 : Dj kg (HL6.size + 1) := Dj.new og.le
                have dj129 : Dj kc (HL6.size + 1) := Dj.new oc.le
                have dj130 : Dj (H81.size + 1) (HL6.size + 1) := Dj.new os.le
                have dj131 : Dj (HL1.size + 1) (HL6.size + 1) := Dj.new ot.le
                have dj132 : Dj (H78.size + 1) (HL6.size + 1) := Dj.new ou.le
                have nx133 : Nx 0 H0.size (HL6.size + 1) := Nx.new hm0.size
                have nx134 : Nx 0 HL5.size (HL6.size + 1) := Nx.new hcm57.size
                have nx135 : Nx 0 HL5.size (HL6.size + 1) := Nx.new hlm6.size
                replace hl := hl.nw hs18
                replace hxo := fun c hx0 => (hxo c hx0).nw hs18
                replace hxn := fun c hx1 => (hxn c hx1).nw hs18
                replace og := og.nw hs18
                replace oc := oc.nw hs18
                replace os := os.nw hs18
                replace ot := ot.nw hs18
                replace ou := ou.nw hs18
                replace hm0 := hm0.tr hs18
                replace hcm57 := hcm57.trN hs18
                replace hlm6 := hlm6.trN hs18
                have hz24 := hs18.size
                refine LR.nil ?_
                refine hK64 _ _ ?_
                refine CW.seq (fun K65 hK65 hE65 => ?_)
                refine CW.seq (fun K66 hK66 hE66 => ?_)
                refine CW.region ?_
                refine LR.v (Y.assign rfl rfl) (Wd.u rfl) rfl rfl ?_
                refine LR.nil ?_
                refine hK66 _ _ ?_
                refine CW.block (fun K67 hK67 hX67 hE67 => ?_)
                refine CW.loop (fun (s_ : (Nat) × (Int) × (Int) × (Pr)) => match s_ with | (i, bi, bk, x) => [(3, vg), (4, vc), (6, v78), (7, v81), (8, v84), (12, .int .i64 (unus (gone.take i4) ((nz to).take i4)).length), (13, .int .i64 (unus (come.take k5) (u.take k5)).length), (16, .int .i64 bi), (17, .int .i64 bk), (18, .pointer (some ⟨HL6.size, 0, none⟩)), (19, .int .i64 i)])
                  (fun (s_ : (Nat) × (Int) × (Int) × (Pr)) (H : Heap) => match s_ with | (i, bi, bk, x) => (i ≤ gone.length) ∧ (Var 38 H HL6.size (fPr x)) ∧ (SB gone come to2 u2 i 0 bi bk x) ∧ (x.o.length ≤ 9223372036854775806 ∧ x.n.length ≤ 9223372036854775806) ∧ Mo (Ms [(HL6.size + 1)]) H18 H)
                  (fun (s_ : (Nat) × (Int) × (Int) × (Pr)) => match s_ with | (i, bi, bk, x) => gone.length - i) (0, -1, -1, ⟨[], [], 0⟩) ⟨rfl, rfl, rfl, rfl, rfl, rfl, rfl, rfl, rfl, rfl, rfl, trivial⟩ ?_ ?_
                ·
                  exact ⟨(by omega), vx, SB.init, by simp, Mo.refl _ _⟩
                rintro ⟨i, bi, bk, x⟩ HL7 hI7 K68 hN68 hE68
                obtain ⟨hi, vx, hsb, hxl, hlm7⟩ := hI7
                replace hl := hl.upL hlm7 (DFL.cons df125 DFL.nil)
                replace hxo := fun c hx0 => (hxo c hx0).upL hlm7 (DFL.cons df126 DFL.nil)
                replace hxn := fun c hx1 => (hxn c hx1).upL hlm7 (DFL.cons df127 DFL.nil)
                replace og := og.upL hlm7 (DL.cons dj128 DL.nil)
                replace oc := oc.upL hlm7 (DL.cons dj129 DL.nil)
                replace os := os.upL hlm7 (DL.cons dj130 DL.nil)
                replace ot := ot.upL hlm7 (DL.cons dj131 DL.nil)
                replace ou := ou.upL hlm7 (DL.cons dj132 DL.nil)
                replace hm0 := (Mo.trL (ks := []) (hm0.mdn []) hlm7 (MIL.cons (MI.app MI.z (nx133) (Nat.le_refl _)) MIL.nil)).nil
                replace hcm57 := hcm57.trL hlm7 (MIL.cons (MI.app MI.z (nx134) (Nat.le_refl _)) MIL.nil)
                replace hlm6 := hlm6.trL hlm7 (MIL.cons (MI.app MI.z (nx135) (Nat.le_refl _)) MIL.nil)
                have hz25 := hlm7.size
                have nx_hlm7_vx := Nx.refl (HL6.size + 1) H18.size
                refine CW.seq (fun K69 hK69 hE69 => ?_)
                refine CW.seq (fun K70 hK70 hE70 => ?_)
                refine CW.region ?_
                refine LR.v (Y.move rfl rfl) (Wd.u rfl) rfl rfl ?_
                refine LR.v (Y.move rfl rfl) (Wd.u rfl) rfl rfl ?_
                refine LR.v (Y.len og.rd rfl Try.runUnderlying26 rfl) (Wd.u rfl) rfl rfl ?_
                refine LR.v (Y.lss rfl rfl rfl) (Wd.u rfl) rfl rfl ?_
                refine LR.nil ?_
                refine hK70 _ _ ?_
                refine CW.condp rfl (fun c197 => ?_) (fun c197 => ?_)
                ·
                  refine CW.skip ?_
                  refine hK69 _ _ ?_
                  refine CW.seq (fun K71 hK71 hE71 => ?_)
                  refine CW.block (fun K72 hK72 hX72 hE72 => ?_)
                  refine CW.seq (fun K73 hK73 hE73 => ?_)
                  refine CW.region ?_
                  refine LR.v (Y.assign rfl rfl) (Wd.u rfl) rfl rfl ?_
                  refine LR.nil ?_
                  refine hK73 _ _ ?_
                  refine CW.block (fun K74 hK74 hX74 hE74 => ?_)
                  refine CW.loop (fun (s_ : (Nat) × (Int) × (Int) × (Pr)) => match s_ with | (k, bi, bk, x) => [(3, vg), (4, vc), (6, v78), (7, v81), (8, v84), (12, .int .i64 (unus (gone.take i4) ((nz to).take i4)).length), (13, .int .i64 (unus (come.take k5) (u.take k5)).length), (16, .int .i64 bi), (17, .int .i64 bk), (18, .pointer (some ⟨HL6.size, 0, none⟩)), (19, .int .i64 i), (20, .int .i64 k)])
                    (fun (s_ : (Nat) × (Int) × (Int) × (Pr)) (H : Heap) => match s_ with | (k, bi, bk, x) => (k ≤ come.length) ∧ (Var 38 H HL6.size (fPr x)) ∧ (SB gone come to2 u2 i k bi bk x) ∧ (x.o.length ≤ 9223372036854775806 ∧ x.n.length ≤ 9223372036854775806) ∧ Mo (Ms [(HL6.size + 1)]) HL7 H)
                    (fun (s_ : (Nat) × (Int) × (Int) × (Pr)) => match s_ with | (k, bi, bk, x) => come.length - k) (0, bi, bk, x) ⟨rfl, rfl, rfl, rfl, rfl, rfl, rfl, rfl, rfl, rfl, rfl, rfl, trivial⟩ ?_ ?_
                  ·
                    exact ⟨(by omega), vx, (by omega), (by omega), Mo.refl _ _⟩
                  rintro ⟨k, bi, bk, x⟩ HL8 hI8 K75 hN75 hE75
                  obtain ⟨hk, vx, hsb, hxl, hlm8⟩ := hI8
                  replace hl := hl.upL hlm8 (DFL.cons df125 DFL.nil)
                  replace hxo := fun c hx0 => (hxo c hx0).upL hlm8 (DFL.cons df126 DFL.nil)
                  replace hxn := fun c hx1 => (hxn c hx1).upL hlm8 (DFL.cons df127 DFL.nil)
                  replace og := og.upL hlm8 (DL.cons dj128 DL.nil)
                  replace oc := oc.upL hlm8 (DL.cons dj129 DL.nil)
                  replace os := os.upL hlm8 (DL.cons dj130 DL.nil)
                  replace ot := ot.upL hlm8 (DL.cons dj131 DL.nil)
                  replace ou := ou.upL hlm8 (DL.cons dj132 DL.nil)
                  replace hm0 := (Mo.trL (ks := []) (hm0.mdn []) hlm8 (MIL.cons (MI.app MI.z (nx133) (Nat.le_refl _)) MIL.nil)).nil
                  replace hcm57 := hcm57.trL hlm8 (MIL.cons (MI.app MI.z (nx134) (Nat.le_refl _)) MIL.nil)
                  replace hlm6 := hlm6.trL hlm8 (MIL.cons (MI.app MI.z (nx135) (Nat.le_refl _)) MIL.nil)
                  replace hlm7 := hlm7.trL hlm8 (MIL.cons (MI.app (MI.root (by simp)) (nx_hlm7_vx) (Nat.le_refl _)) MIL.nil)
                  have hz26 := hlm8.size
                  have nx_hlm8_vx := Nx.refl (HL6.size + 1) HL7.size
                  have hil : i < gone.length := by omega
                  refine CW.seq (fun K76 hK76 hE76 => ?_)
                  refine CW.seq (fun K77 hK77 hE77 => ?_)
                  refine CW.region ?_
                  refine LR.v (Y.move rfl rfl) (Wd.u rfl) rfl rfl ?_
                  refine LR.v (Y.move rfl rfl) (Wd.u rfl) rfl rfl ?_
                  refine LR.v (Y.len oc.rd rfl Try.runUnderlying26 rfl) (Wd.u rfl) rfl rfl ?_
                  refine LR.v (Y.lss rfl rfl rfl) (Wd.u rfl) rfl rfl ?_
                  refine LR.nil ?_
                  refine hK77 _ _ ?_
                  refine CW.condp rfl (fun c203 => ?_) (fun c203 => ?_)
                  ·
                    refine CW.skip ?_
                    refine hK76 _ _ ?_
                    refine CW.seq (fun K78 hK78 hE78 => ?_)
                    refine CW.block (fun K79 hK79 hX79 hE79 => ?_)
                    refine CW.seq (fun K80 hK80 hE80 => ?_)
                    refine CW.seq (fun K81 hK81 hE81 => ?_)
                    refine CW.region ?_
                    refine LR.v (Y.move rfl rfl) (Wd.u rfl) rfl rfl ?_
                    refine LR.v (Y.move rfl rfl) (Wd.u rfl) rfl rfl ?_
                    refine LR.v (Y.owAddr ot (i) rfl Try.runUnderlying39 Try.sizeOf3 rfl rfl (by first | rfl | omega) (by first | omega | (simp; omega) | (simp; done))) (Wd.u rfl) rfl rfl ?_
                    refine LR.v (Y.load1 (ot.pt (j := i) (by first | omega | (simp; omega) | (simp; done))) rfl Try.isAgg3 rfl) (Wd.u rfl) rfl rfl ?_
                    refine LR.v (Y.neq rfl rfl rfl) (Wd.u rfl) rfl rfl ?_
                    refine LR.v (Y.move rfl rfl) (Wd.u rfl) rfl rfl ?_
                    refine LR.splitp (d := 211) rfl (fun g211 => ?_) (fun g211 => ?_)
                    ·
                      refine LR.gs rfl rfl rfl rfl rfl rfl ?_
                      refine LR.gs rfl rfl rfl rfl rfl rfl ?_
                      refine LR.gs rfl rfl rfl rfl rfl rfl ?_
                      refine LR.gs rfl rfl rfl rfl rfl rfl ?_
                      refine LR.v (Y.pick_t rfl rfl rfl) (Wd.u rfl) rfl rfl ?_
                      refine LR.nil ?_
                      refine hK81 _ _ ?_
                      refine CW.cond_t rfl ?_
                      refine CW.exit (hE80 (.exit 15) nofun _ _ (hX79 _ _ ?_))
                      refine hK78 _ _ ?_
                      refine CW.region ?_
                      refine LR.v (Y.move rfl rfl) (Wd.u rfl) rfl rfl ?_
                      refine LR.v (Y.addi rfl rfl rfl (by omega)) (Wd.u rfl) rfl rfl ?_
                      refine LR.v (Y.assign rfl rfl) (Wd.u rfl) rfl rfl ?_
                      refine LR.nil ?_
                      have hkl : k < come.length := by omega
                      have hsc9 : (mkL gone[i] come[k]).p.s = (scoreB gone[i].d come[k].d : Nat) := rfl
                      refine QN.sub (hN75 (k + 1, bi, bk, x) _ ?_ ?_) ⟨rfl, rfl, rfl, rfl, rfl, (iv (by omega)), (iv (by omega)), (iv (by omega)), (iv (by omega)), rfl, (iv (by omega)), (iv (by omega)), trivial⟩
                      · exact ⟨(by omega), vx, by first | exact hsb.keep (Cd.mk hil hkl hlt2 hlu2 (by omega) (by first | assumption | simp_all) (by omega)) (by omega) (by first | assumption | simp_all) | exact hsb.skip (Cd.un hil hkl hlt2 hlu2 (by rintro ⟨h1, h2, h3⟩; first | omega | contradiction | simp_all)), (by omega), hlm8⟩
                      · first | omega | (simp only; omega) | (simp; omega)
                    ·
                      refine LR.v (Y.move rfl rfl) (Wd.g rfl rfl rfl) rfl rfl ?_
                      refine LR.v (Y.move rfl rfl) (Wd.g rfl rfl rfl) rfl rfl ?_
                      have hkl : k < come.length := by omega
                      refine LR.v (Y.owAddr ou (k) rfl Try.runUnderlying43 Try.sizeOf4 rfl rfl (by first | rfl | omega) (by first | omega | (simp; omega) | (simp; done))) (Wd.g rfl rfl rfl) rfl rfl ?_
                      refine LR.v (Y.load1 (ou.pt (j := k) (by first | omega | (simp; omega) | (simp; done))) rfl Try.isAgg4 rfl) (Wd.g rfl rfl rfl) rfl rfl ?_
                      refine LR.v (Y.pick_f rfl rfl rfl) (Wd.u rfl) rfl rfl ?_
                      refine LR.nil ?_
                      refine hK81 _ _ ?_
                      refine CW.cond rfl (fun c216 => ?_) (fun c216 => ?_)
                      ·
                        refine CW.exit (hE80 (.exit 15) nofun _ _ (hX79 _ _ ?_))
                        refine hK78 _ _ ?_
                        refine CW.region ?_
                        refine LR.v (Y.move rfl rfl) (Wd.u rfl) rfl rfl ?_
                        refine LR.v (Y.addi rfl rfl rfl (by omega)) (Wd.u rfl) rfl rfl ?_
                        refine LR.v (Y.assign rfl rfl) (Wd.u rfl) rfl rfl ?_
                        refine LR.nil ?_
                        have hkl : k < come.length := by omega
                        have hsc9 : (mkL gone[i] come[k]).p.s = (scoreB gone[i].d come[k].d : Nat) := rfl
                        refine QN.sub (hN75 (k + 1, bi, bk, x) _ ?_ ?_) ⟨rfl, rfl, rfl, rfl, rfl, (iv (by omega)), (iv (by omega)), (iv (by omega)), (iv (by omega)), rfl, (iv (by omega)), (iv (by omega)), trivial⟩
                        · exact ⟨(by omega), vx, by first | exact hsb.keep (Cd.mk hil hkl hlt2 hlu2 (by omega) (by first | assumption | simp_all) (by omega)) (by omega) (by first | assumption | simp_all) | exact hsb.skip (Cd.un hil hkl hlt2 hlu2 (by rintro ⟨h1, h2, h3⟩; first | omega | contradiction | simp_all)), (by omega), hlm8⟩
                        · first | omega | (simp only; omega) | (simp; omega)
                      ·
                        refine CW.skip ?_
                        refine hK80 _ _ ?_
                        refine CW.seq (fun K82 hK82 hE82 => ?_)
                        refine CW.region_any (fun Hq => Nw HL8 Hq) [23] rfl ?_
                        have hq45 : Nw HL8 HL8 := Mo.refl _ _
                        refine LH.take 0 (by kernel_rfl) rfl (by kernel_rfl) (by kernel_rfl) (by kernel_rfl) (fun Hq hq => Y.move rfl rfl) (Wd.u rfl) rfl rfl hq45 ?_
                        refine LH.take 1 (by kernel_rfl) rfl (by kernel_rfl) (by kernel_rfl) (by kernel_rfl) (fun Hq hq => Y.move rfl rfl) (Wd.u rfl) rfl rfl hq45 ?_
                        have hkl : k < come.length := by omega
                        refine LH.take 2 (by kernel_rfl) rfl (by kernel_rfl) (by kernel_rfl) (by kernel_rfl) (fun Hq hq => Y.owAddr (og.nw hq) (i) rfl Try.runUnderlying26 Try.sizeOf35 rfl rfl (by first | rfl | omega) (by first | omega | (simp; omega) | (simp; done))) (Wd.u rfl) rfl rfl hq45 ?_
                        refine LH.take 3 (by kernel_rfl) rfl (by kernel_rfl) (by kernel_rfl) (by kernel_rfl) (fun Hq hq => Y.fieldAddr ((og.pt (j := i) (by first | omega | (simp; omega) | (simp; done))).nw hq) rfl Try.runUnderlying35 rfl rfl Try.sizeOf9 (by decide) rfl) (Wd.u rfl) rfl rfl hq45 ?_
                        refine LH.take 4 (by kernel_rfl) rfl (by kernel_rfl) (by kernel_rfl) (by kernel_rfl) (fun Hq hq => Y.load1 (((og.pt (j := i) (by first | omega | (simp; omega) | (simp; done))).drop 0).nw hq) rfl Try.isAgg9 rfl) (Wd.u rfl) rfl rfl hq45 ?_
                        refine LH.take 5 (by kernel_rfl) rfl (by kernel_rfl) (by kernel_rfl) (by kernel_rfl) (fun Hq hq => Y.move rfl rfl) (Wd.u rfl) rfl rfl hq45 ?_
                        refine LH.take 6 (by kernel_rfl) rfl (by kernel_rfl) (by kernel_rfl) (by kernel_rfl) (fun Hq hq => Y.move rfl rfl) (Wd.u rfl) rfl rfl hq45 ?_
                        refine LH.take 7 (by kernel_rfl) rfl (by kernel_rfl) (by kernel_rfl) (by kernel_rfl) (fun Hq hq => Y.owAddr (oc.nw hq) (k) rfl Try.runUnderlying26 Try.sizeOf35 rfl rfl (by first | rfl | omega) (by first | omega | (simp; omega) | (simp; done))) (Wd.u rfl) rfl rfl hq45 ?_
                        refine LH.take 8 (by kernel_rfl) rfl (by kernel_rfl) (by kernel_rfl) (by kernel_rfl) (fun Hq hq => Y.fieldAddr ((oc.pt (j := k) (by first | omega | (simp; omega) | (simp; done))).nw hq) rfl Try.runUnderlying35 rfl rfl Try.sizeOf9 (by decide) rfl) (Wd.u rfl) rfl rfl hq45 ?_
                        refine LH.take 9 (by kernel_rfl) rfl (by kernel_rfl) (by kernel_rfl) (by kernel_rfl) (fun Hq hq => Y.load1 (((oc.pt (j := k) (by first | omega | (simp; omega) | (simp; done))).drop 0).nw hq) rfl Try.isAgg9 rfl) (Wd.u rfl) rfl rfl hq45 ?_
                        refine LH.take 10 (by kernel_rfl) rfl (by kernel_rfl) (by kernel_rfl) (by kernel_rfl) (fun Hq hq => Y.move rfl rfl) (Wd.u rfl) rfl rfl hq45 ?_
                        refine LH.take 11 (by kernel_rfl) rfl (by kernel_rfl) (by kernel_rfl) (by kernel_rfl) (fun Hq hq => Y.move rfl rfl) (Wd.u rfl) rfl rfl hq45 ?_
                        refine LH.take 12 (by kernel_rfl) rfl (by kernel_rfl) (by kernel_rfl) (by kernel_rfl) (fun Hq hq => Y.owAddr (og.nw hq) (i) rfl Try.runUnderlying26 Try.sizeOf35 rfl rfl (by first | rfl | omega) (by first | omega | (simp; omega) | (simp; done))) (Wd.u rfl) rfl rfl hq45 ?_
                        refine LH.take 13 (by kernel_rfl) rfl (by kernel_rfl) (by kernel_rfl) (by kernel_rfl) (fun Hq hq => Y.fieldAddr ((og.pt (j := i) (by first | omega | (simp; omega) | (simp; done))).nw hq) rfl Try.runUnderlying35 rfl rfl Try.sizeOf22 (by decide) rfl) (Wd.u rfl) rfl rfl hq45 ?_
                        refine LH.take 14 (by kernel_rfl) rfl (by kernel_rfl) (by kernel_rfl) (by kernel_rfl) (fun Hq hq => Y.load1 (((og.pt (j := i) (by first | omega | (simp; omega) | (simp; done))).drop 2).nw hq) rfl Try.isAgg22 rfl) (Wd.u rfl) rfl rfl hq45 ?_
                        refine LH.take 15 (by kernel_rfl) rfl (by kernel_rfl) (by kernel_rfl) (by kernel_rfl) (fun Hq hq => Y.move rfl rfl) (Wd.u rfl) rfl rfl hq45 ?_
                        refine LH.take 16 (by kernel_rfl) rfl (by kernel_rfl) (by kernel_rfl) (by kernel_rfl) (fun Hq hq => Y.move rfl rfl) (Wd.u rfl) rfl rfl hq45 ?_
                        refine LH.take 17 (by kernel_rfl) rfl (by kernel_rfl) (by kernel_rfl) (by kernel_rfl) (fun Hq hq => Y.owAddr (oc.nw hq) (k) rfl Try.runUnderlying26 Try.sizeOf35 rfl rfl (by first | rfl | omega) (by first | omega | (simp; omega) | (simp; done))) (Wd.u rfl) rfl rfl hq45 ?_
                        refine LH.take 18 (by kernel_rfl) rfl (by kernel_rfl) (by kernel_rfl) (by kernel_rfl) (fun Hq hq => Y.fieldAddr ((oc.pt (j := k) (by first | omega | (simp; omega) | (simp; done))).nw hq) rfl Try.runUnderlying35 rfl rfl Try.sizeOf22 (by decide) rfl) (Wd.u rfl) rfl rfl hq45 ?_
                        refine LH.take 19 (by kernel_rfl) rfl (by kernel_rfl) (by kernel_rfl) (by kernel_rfl) (fun Hq hq => Y.load1 (((oc.pt (j := k) (by first | omega | (simp; omega) | (simp; done))).drop 2).nw hq) rfl Try.isAgg22 rfl) (Wd.u rfl) rfl rfl hq45 ?_
                        refine LH.two (i := 20) (j := 22) (by kernel_rfl) ?_ ?_
                        ·
                          -- call selvage/selvageref16.Score
                          refine LO.call rfl rfl Try.call12 rfl (Wd.u rfl) rfl rfl (rscore_ct _ _ gone[i].d come[k].d w0 _ (gone_R hg hxo _ (List.getElem_mem hil)).d (come_R hc hxn _ (List.getElem_mem hkl)).d (hgP _ (List.getElem_mem hil)).2 (hcP _ (List.getElem_mem hkl)).2) (fun v237 H237 r237 => ?_)
                          obtain ⟨rfl, hs237⟩ := r237
                          replace hl := hl.nw hs237
                          replace hxo := fun c hx0 => (hxo c hx0).nw hs237
                          replace hxn := fun c hx1 => (hxn c hx1).nw hs237
                          replace og := og.nw hs237
                          replace oc := oc.nw hs237
                          replace os := os.nw hs237
                          replace ot := ot.nw hs237
                          replace ou := ou.nw hs237
                          replace vx := vx.nw hs237
                          replace hm0 := hm0.tr hs237
                          replace hcm57 := hcm57.trN hs237
                          replace hlm6 := hlm6.trN hs237
                          replace hlm7 := hlm7.trN hs237
                          replace hlm8 := hlm8.trN hs237
                          replace hq45 := hq45.tr hs237
                          have hz27 := hs237.size
                          refine ⟨.inr hq45, LH.narrow (SH2 := fun Hq => Nw H237 Hq) (fun Hq hq => hq45.tr hq) ?_⟩
                          have hq45 : Nw H237 H237 := Mo.refl _ _
                          refine LH.take 21 (by kernel_rfl) rfl (by kernel_rfl) (by kernel_rfl) (by kernel_rfl) (fun Hq hq => Y.build (v := .agg (fPr (mkL gone[i] come[k]).p).toArray) rfl rfl (by intro w; kernel_rfl)) (Wd.u rfl) rfl rfl hq45 ?_
                          refine LH.one (i := 22) (by kernel_rfl) ?_
                          refine LO.z rfl (Z.allocv rfl Try.zeroValue38) (Wd.u rfl) rfl rfl (fun v21 H21 r21 => ?_)
                          obtain ⟨rfl, vp, hs21, ob21, hH21⟩ := r21
                          have hzs21 : H21.size = H237.size + 1 := by rw [hH21]; simp
                          have df136 := (DF.new (bf_hl.mono hm0.size) : DF _ (H237.size + 1))
                          have df137 := (DF.new (bf_hxo.mono hm0.size) : DF _ (H237.size + 1))
                          have df138 := (DF.new (bf_hxn.mono hm0.size) : DF _ (H237.size + 1))
                          have dj139 : Dj kg (H237.size + 1) := Dj.new og.le
                          have dj140 : Dj kc (H237.size + 1) := Dj.new oc.le
                          have dj141 : Dj (H81.size + 1) (H237.size + 1) := Dj.new os.le
                          have dj142 : Dj (HL1.size + 1) (H237.size + 1) := Dj.new ot.le
                          have dj143 : Dj (H78.size + 1) (H237.size + 1) := Dj.new ou.le
                          have dj144 : Dj (HL6.size + 1) (H237.size + 1) := Dj.new vx.lt
                          have nx145 : Nx 0 H0.size (H237.size + 1) := Nx.new hm0.size
                          have nx146 : Nx 0 HL5.size (H237.size + 1) := Nx.new hcm57.size
                          have nx147 : Nx 0 HL5.size (H237.size + 1) := Nx.new hlm6.size
                          have nx148 : Nx 0 H18.size (H237.size + 1) := Nx.new hlm7.size
                          have nx149 : Nx 0 HL7.size (H237.size + 1) := Nx.new hlm8.size
                          have nx150 : Nx 0 H237.size (H237.size + 1) := Nx.new hq45.size
                          replace hl := hl.nw hs21
                          replace hxo := fun c hx0 => (hxo c hx0).nw hs21
                          replace hxn := fun c hx1 => (hxn c hx1).nw hs21
                          replace og := og.nw hs21
                          replace oc := oc.nw hs21
                          replace os := os.nw hs21
                          replace ot := ot.nw hs21
                          replace ou := ou.nw hs21
                          replace vx := vx.nw hs21
                          replace hm0 := hm0.tr hs21
                          replace hcm57 := hcm57.trN hs21
                          replace hlm6 := hlm6.trN hs21
                          replace hlm7 := hlm7.trN hs21
                          replace hlm8 := hlm8.trN hs21
                          replace hq45 := hq45.tr hs21
                          have hz28 := hs21.size
                          refine ⟨.inr hq45, LH.narrow (SH2 := fun Hq => Mo (Ms [(H237.size + 1)]) H21 Hq) (fun Hq hq => (Mo.trL (ks := []) (hq45.mdn []) hq (MIL.cons (MI.app MI.z (nx150) (Nat.le_refl _)) MIL.nil)).nil) ?_⟩
                          have hq45 : Mo (Ms [(H237.size + 1)]) H21 H21 := Mo.refl _ _
                          have nx151 := Nx.refl (H237.size + 1) H21.size
                          refine LH.one (i := 23) (by kernel_rfl) ?_
                          refine LO.s rfl (S.var vp (_) (fPr (mkL gone[i] come[k]).p) rfl rfl rfl rfl (fPr_one _) Try.sizeOf38 (rfl) (Nat.le_of_ble_eq_true rfl) (rfl)) (Wd.u rfl) rfl (fun H45_23 r45_23 => ?_)
                          obtain ⟨vp, hs45_23⟩ := r45_23
                          replace hs45_23 := hs45_23.md1
                          replace hl := hl.upL hs45_23 (DFL.cons df136 DFL.nil)
                          replace hxo := fun c hx0 => (hxo c hx0).upL hs45_23 (DFL.cons df137 DFL.nil)
                          replace hxn := fun c hx1 => (hxn c hx1).upL hs45_23 (DFL.cons df138 DFL.nil)
                          replace og := og.upL hs45_23 (DL.cons dj139 DL.nil)
                          replace oc := oc.upL hs45_23 (DL.cons dj140 DL.nil)
                          replace os := os.upL hs45_23 (DL.cons dj141 DL.nil)
                          replace ot := ot.upL hs45_23 (DL.cons dj142 DL.nil)
                          replace ou := ou.upL hs45_23 (DL.cons dj143 DL.nil)
                          replace vx := vx.upL hs45_23 (DL.cons dj144 DL.nil)
                          replace hm0 := (Mo.trL (ks := []) (hm0.mdn []) hs45_23 (MIL.cons (MI.app MI.z (nx145) (Nat.le_refl _)) MIL.nil)).nil
                          replace hcm57 := hcm57.trL hs45_23 (MIL.cons (MI.app MI.z (nx146) (Nat.le_refl _)) MIL.nil)
                          replace hlm6 := hlm6.trL hs45_23 (MIL.cons (MI.app MI.z (nx147) (Nat.le_refl _)) MIL.nil)
                          replace hlm7 := hlm7.trL hs45_23 (MIL.cons (MI.app MI.z (nx148) (Nat.le_refl _)) MIL.nil)
                          replace hlm8 := hlm8.trL hs45_23 (MIL.cons (MI.app MI.z (nx149) (Nat.le_refl _)) MIL.nil)
                          replace hq45 := hq45.trL hs45_23 (MIL.cons (MI.app (MI.root (by simp)) (nx151) (Nat.le_refl _)) MIL.nil)
                          have hz29 := hs45_23.size
                          refine ⟨.inl rfl, ?_⟩
                          refine LH.done (by kernel_rfl) ?_
                          refine hK82 _ _ ?_
                          refine CW.seq (fun K83 hK83 hE83 => ?_)
                          refine CW.region ?_
                          refine LR.v (Y.fieldAddr vp.pt rfl Try.runUnderlying38 rfl rfl Try.sizeOf3 (by decide) rfl) (Wd.u rfl) rfl rfl ?_
                          refine LR.v (Y.load1 (vp.pt.drop 2) rfl Try.isAgg3 rfl) (Wd.u rfl) rfl rfl ?_
                          refine LR.v (Y.geq rfl rfl rfl) (Wd.u rfl) rfl rfl ?_
                          refine LR.v (Y.move rfl rfl) (Wd.u rfl) rfl rfl ?_
                          refine LR.splitp (d := 242) rfl (fun g242 => ?_) (fun g242 => ?_)
                          ·
                            refine LR.v (Y.move rfl rfl) (Wd.g rfl rfl rfl) rfl rfl ?_
                            refine LR.v (Y.lss rfl rfl rfl) (Wd.g rfl rfl rfl) rfl rfl ?_
                            refine LR.v (Y.move rfl rfl) (Wd.g rfl rfl rfl) rfl rfl ?_
                            refine LR.splitp (d := 245) rfl (fun g245 => ?_) (fun g245 => ?_)
                            ·
                              refine LR.gs rfl rfl rfl rfl rfl rfl ?_
                              refine LR.gs rfl rfl rfl rfl rfl rfl ?_
                              refine LR.gs rfl rfl rfl rfl rfl rfl ?_
                              refine LR.v (Y.pick_t rfl rfl rfl) (Wd.g rfl rfl rfl) rfl rfl ?_
                              refine LR.v (Y.pick_t rfl rfl rfl) (Wd.u rfl) rfl rfl ?_
                              refine LR.nil ?_
                              refine hK83 _ _ ?_
                              refine CW.cond_t rfl ?_
                              refine CW.region_tail 5 rfl (by kernel_rfl) (fun T47 hT47 => ?_)
                              refine LR.v (Y.move rfl rfl) (Wd.u rfl) rfl rfl ?_
                              refine LR.v (Y.move rfl rfl) (Wd.u rfl) rfl rfl ?_
                              refine LR.v (Y.loadN vp.pt rfl Try.isAgg38 Try.sizeOf38 (rfl) rfl) (Wd.u rfl) rfl rfl ?_
                              refine LR.v (Y.assign rfl rfl) (Wd.u rfl) rfl rfl ?_
                              refine LR.v (Y.assign rfl rfl) (Wd.u rfl) rfl rfl ?_
                              refine LR.nil (hT47 _ ?_)
                              refine LR.s (S.var vx (_) (fPr (mkL gone[i] come[k]).p) rfl rfl rfl rfl (fPr_one _) Try.sizeOf38 (rfl) (Nat.le_of_ble_eq_true rfl) (rfl)) (Wd.u rfl) rfl (fun H47_5 r47_5 => ?_)
                              obtain ⟨vx, hs47_5⟩ := r47_5
                              replace hs47_5 := hs47_5.md1
                              replace hl := hl.upL hs47_5 (DFL.cons df125 DFL.nil)
                              replace hxo := fun c hx0 => (hxo c hx0).upL hs47_5 (DFL.cons df126 DFL.nil)
                              replace hxn := fun c hx1 => (hxn c hx1).upL hs47_5 (DFL.cons df127 DFL.nil)
                              replace og := og.upL hs47_5 (DL.cons dj128 DL.nil)
                              replace oc := oc.upL hs47_5 (DL.cons dj129 DL.nil)
                              replace os := os.upL hs47_5 (DL.cons dj130 DL.nil)
                              replace ot := ot.upL hs47_5 (DL.cons dj131 DL.nil)
                              replace ou := ou.upL hs47_5 (DL.cons dj132 DL.nil)
                              replace vp := vp.upL hs47_5 (DL.cons dj144.symm DL.nil)
                              replace hm0 := (Mo.trL (ks := []) (hm0.mdn []) hs47_5 (MIL.cons (MI.app MI.z (nx133) (Nat.le_refl _)) MIL.nil)).nil
                              replace hcm57 := hcm57.trL hs47_5 (MIL.cons (MI.app MI.z (nx134) (Nat.le_refl _)) MIL.nil)
                              replace hlm6 := hlm6.trL hs47_5 (MIL.cons (MI.app MI.z (nx135) (Nat.le_refl _)) MIL.nil)
                              replace hlm7 := hlm7.trL hs47_5 (MIL.cons (MI.app (MI.root (by simp)) (nx_hlm7_vx) (Nat.le_refl _)) MIL.nil)
                              replace hlm8 := hlm8.trL hs47_5 (MIL.cons (MI.app (MI.root (by simp)) (nx_hlm8_vx) (Nat.le_refl _)) MIL.nil)
                              have hz30 := hs47_5.size
                              refine LR.nil ?_
                              refine hK79 _ _ ?_
                              refine hK78 _ _ ?_
                              refine CW.region ?_
                              refine LR.v (Y.move rfl rfl) (Wd.u rfl) rfl rfl ?_
                              refine LR.v (Y.addi rfl rfl rfl (by omega)) (Wd.u rfl) rfl rfl ?_
                              refine LR.v (Y.assign rfl rfl) (Wd.u rfl) rfl rfl ?_
                              refine LR.nil ?_
                              have hkl : k < come.length := by omega
                              have hsc9 : (mkL gone[i] come[k]).p.s = (scoreB gone[i].d come[k].d : Nat) := rfl
                              refine QN.sub (hN75 (k + 1, (i : Int), (k : Int), (mkL gone[i] come[k]).p) _ ?_ ?_) ⟨rfl, rfl, rfl, rfl, rfl, (iv (by omega)), (iv (by omega)), (iv (by omega)), (iv (by omega)), rfl, (iv (by omega)), (iv (by omega)), trivial⟩
                              · exact ⟨(by omega), vx, hsb.take (Cd.mk hil hkl hlt2 hlu2 (by omega) (by first | assumption | simp_all) (by omega)) (by first | exact .inl (by omega) | exact .inr (by assumption)), ⟨(hgP _ (List.getElem_mem hil)).1, (hcP _ (List.getElem_mem hkl)).1⟩, hlm8⟩
                              · first | omega | (simp only; omega) | (simp; omega)
                            ·
                              refine LR.v (Y.loadN vp.pt rfl Try.isAgg38 Try.sizeOf38 (rfl) rfl) (Wd.g rfl rfl rfl) rfl rfl ?_
                              refine LR.v (Y.loadN vx.pt rfl Try.isAgg38 Try.sizeOf38 (rfl) rfl) (Wd.g rfl rfl rfl) rfl rfl ?_
                              -- call selvage/selvageref16.ahead
                              refine LR.call rfl Try.call39 rfl (Wd.g rfl rfl rfl) rfl rfl (RenB.ahead_ct (mkL gone[i] come[k]).p x w0 _ ⟨(hgP _ (List.getElem_mem hil)).1, (hcP _ (List.getElem_mem hkl)).1⟩ hxl) (fun v248 H248 r248 => ?_)
                              obtain ⟨rfl, hs248⟩ := r248
                              replace hl := hl.nw hs248
                              replace hxo := fun c hx0 => (hxo c hx0).nw hs248
                              replace hxn := fun c hx1 => (hxn c hx1).nw hs248
                              replace og := og.nw hs248
                              replace oc := oc.nw hs248
                              replace os := os.nw hs248
                              replace ot := ot.nw hs248
                              replace ou := ou.nw hs248
                              replace vx := vx.nw hs248
                              replace vp := vp.nw hs248
                              replace hm0 := hm0.tr hs248
                              replace hcm57 := hcm57.trN hs248
                              replace hlm6 := hlm6.trN hs248
                              replace hlm7 := hlm7.trN hs248
                              replace hlm8 := hlm8.trN hs248
                              have hz31 := hs248.size
                              refine LR.v (Y.pick_f rfl rfl rfl) (Wd.g rfl rfl rfl) rfl rfl ?_
                              refine LR.v (Y.pick_t rfl rfl rfl) (Wd.u rfl) rfl rfl ?_
                              refine LR.nil ?_
                              refine hK83 _ _ ?_
                              refine CW.cond rfl (fun c250 => ?_) (fun c250 => ?_)
                              ·
                                refine CW.region_tail 5 rfl (by kernel_rfl) (fun T47 hT47 => ?_)
                                refine LR.v (Y.move rfl rfl) (Wd.u rfl) rfl rfl ?_
                                refine LR.v (Y.move rfl rfl) (Wd.u rfl) rfl rfl ?_
                                refine LR.v (Y.loadN vp.pt rfl Try.isAgg38 Try.sizeOf38 (rfl) rfl) (Wd.u rfl) rfl rfl ?_
                                refine LR.v (Y.assign rfl rfl) (Wd.u rfl) rfl rfl ?_
                                refine LR.v (Y.assign rfl rfl) (Wd.u rfl) rfl rfl ?_
                                refine LR.nil (hT47 _ ?_)
                                refine LR.s (S.var vx (_) (fPr (mkL gone[i] come[k]).p) rfl rfl rfl rfl (fPr_one _) Try.sizeOf38 (rfl) (Nat.le_of_ble_eq_true rfl) (rfl)) (Wd.u rfl) rfl (fun H47_5 r47_5 => ?_)
                                obtain ⟨vx, hs47_5⟩ := r47_5
                                replace hs47_5 := hs47_5.md1
                                replace hl := hl.upL hs47_5 (DFL.cons df125 DFL.nil)
                                replace hxo := fun c hx0 => (hxo c hx0).upL hs47_5 (DFL.cons df126 DFL.nil)
                                replace hxn := fun c hx1 => (hxn c hx1).upL hs47_5 (DFL.cons df127 DFL.nil)
                                replace og := og.upL hs47_5 (DL.cons dj128 DL.nil)
                                replace oc := oc.upL hs47_5 (DL.cons dj129 DL.nil)
                                replace os := os.upL hs47_5 (DL.cons dj130 DL.nil)
                                replace ot := ot.upL hs47_5 (DL.cons dj131 DL.nil)
                                replace ou := ou.upL hs47_5 (DL.cons dj132 DL.nil)
                                replace vp := vp.upL hs47_5 (DL.cons dj144.symm DL.nil)
                                replace hm0 := (Mo.trL (ks := []) (hm0.mdn []) hs47_5 (MIL.cons (MI.app MI.z (nx133) (Nat.le_refl _)) MIL.nil)).nil
                                replace hcm57 := hcm57.trL hs47_5 (MIL.cons (MI.app MI.z (nx134) (Nat.le_refl _)) MIL.nil)
                                replace hlm6 := hlm6.trL hs47_5 (MIL.cons (MI.app MI.z (nx135) (Nat.le_refl _)) MIL.nil)
                                replace hlm7 := hlm7.trL hs47_5 (MIL.cons (MI.app (MI.root (by simp)) (nx_hlm7_vx) (Nat.le_refl _)) MIL.nil)
                                replace hlm8 := hlm8.trL hs47_5 (MIL.cons (MI.app (MI.root (by simp)) (nx_hlm8_vx) (Nat.le_refl _)) MIL.nil)
                                have hz32 := hs47_5.size
                                refine LR.nil ?_
                                refine hK79 _ _ ?_
                                refine hK78 _ _ ?_
                                refine CW.region ?_
                                refine LR.v (Y.move rfl rfl) (Wd.u rfl) rfl rfl ?_
                                refine LR.v (Y.addi rfl rfl rfl (by omega)) (Wd.u rfl) rfl rfl ?_
                                refine LR.v (Y.assign rfl rfl) (Wd.u rfl) rfl rfl ?_
                                refine LR.nil ?_
                                have hkl : k < come.length := by omega
                                have hsc9 : (mkL gone[i] come[k]).p.s = (scoreB gone[i].d come[k].d : Nat) := rfl
                                refine QN.sub (hN75 (k + 1, (i : Int), (k : Int), (mkL gone[i] come[k]).p) _ ?_ ?_) ⟨rfl, rfl, rfl, rfl, rfl, (iv (by omega)), (iv (by omega)), (iv (by omega)), (iv (by omega)), rfl, (iv (by omega)), (iv (by omega)), trivial⟩
                                · exact ⟨(by omega), vx, hsb.take (Cd.mk hil hkl hlt2 hlu2 (by omega) (by first | assumption | simp_all) (by omega)) (by first | exact .inl (by omega) | exact .inr (by assumption)), ⟨(hgP _ (List.getElem_mem hil)).1, (hcP _ (List.getElem_mem hkl)).1⟩, hlm8⟩
                                · first | omega | (simp only; omega) | (simp; omega)
                              ·
                                refine CW.skip ?_
                                refine hK79 _ _ ?_
                                refine hK78 _ _ ?_
                                refine CW.region ?_
                                refine LR.v (Y.move rfl rfl) (Wd.u rfl) rfl rfl ?_
                                refine LR.v (Y.addi rfl rfl rfl (by omega)) (Wd.u rfl) rfl rfl ?_
                                refine LR.v (Y.assign rfl rfl) (Wd.u rfl) rfl rfl ?_
                                refine LR.nil ?_
                                have hkl : k < come.length := by omega
                                have hsc9 : (mkL gone[i] come[k]).p.s = (scoreB gone[i].d come[k].d : Nat) := rfl
                                refine QN.sub (hN75 (k + 1, bi, bk, x) _ ?_ ?_) ⟨rfl, rfl, rfl, rfl, rfl, (iv (by omega)), (iv (by omega)), (iv (by omega)), (iv (by omega)), rfl, (iv (by omega)), (iv (by omega)), trivial⟩
                                · exact ⟨(by omega), vx, by first | exact hsb.keep (Cd.mk hil hkl hlt2 hlu2 (by omega) (by first | assumption | simp_all) (by omega)) (by omega) (by first | assumption | simp_all) | exact hsb.skip (Cd.un hil hkl hlt2 hlu2 (by rintro ⟨h1, h2, h3⟩; first | omega | contradiction | simp_all)), (by omega), hlm8⟩
                                · first | omega | (simp only; omega) | (simp; omega)
                          ·
                            refine LR.gs rfl rfl rfl rfl rfl rfl ?_
                            refine LR.gs rfl rfl rfl rfl rfl rfl ?_
                            refine LR.gs rfl rfl rfl rfl rfl rfl ?_
                            refine LR.gsu rfl rfl rfl rfl rfl ?_
                            refine LR.gsu rfl rfl rfl rfl rfl ?_
                            refine LR.gsu rfl rfl rfl rfl rfl ?_
                            refine LR.gs rfl rfl rfl rfl rfl rfl ?_
                            refine LR.v (Y.pick_f rfl rfl rfl) (Wd.u rfl) rfl rfl ?_
                            refine LR.nil ?_
                            refine hK83 _ _ ?_
                            refine CW.cond_f rfl ?_
                            refine CW.skip ?_
                            refine hK79 _ _ ?_
                            refine hK78 _ _ ?_
                            refine CW.region ?_
                            refine LR.v (Y.move rfl rfl) (Wd.u rfl) rfl rfl ?_
                            refine LR.v (Y.addi rfl rfl rfl (by omega)) (Wd.u rfl) rfl rfl ?_
                            refine LR.v (Y.assign rfl rfl) (Wd.u rfl) rfl rfl ?_
                            refine LR.nil ?_
                            have hkl : k < come.length := by omega
                            have hsc9 : (mkL gone[i] come[k]).p.s = (scoreB gone[i].d come[k].d : Nat) := rfl
                            refine QN.sub (hN75 (k + 1, bi, bk, x) _ ?_ ?_) ⟨rfl, rfl, rfl, rfl, rfl, (iv (by omega)), (iv (by omega)), (iv (by omega)), (iv (by omega)), rfl, (iv (by omega)), (iv (by omega)), trivial⟩
                            · exact ⟨(by omega), vx, by first | exact hsb.keep (Cd.mk hil hkl hlt2 hlu2 (by omega) (by first | assumption | simp_all) (by omega)) (by omega) (by first | assumption | simp_all) | exact hsb.skip (Cd.un hil hkl hlt2 hlu2 (by rintro ⟨h1, h2, h3⟩; first | omega | contradiction | simp_all)), (by omega), hlm8⟩
                            · first | omega | (simp only; omega) | (simp; omega)
                        ·
                          refine LO.z rfl (Z.allocv rfl Try.zeroValue38) (Wd.u rfl) rfl rfl (fun v21 H21 r21 => ?_)
                          obtain ⟨rfl, vp, hs21, ob21, hH21⟩ := r21
                          have hzs21 : H21.size = HL8.size + 1 := by rw [hH21]; simp
                          have df152 := (DF.new (bf_hl.mono hm0.size) : DF _ (HL8.size + 1))
                          have df153 := (DF.new (bf_hxo.mono hm0.size) : DF _ (HL8.size + 1))
                          have df154 := (DF.new (bf_hxn.mono hm0.size) : DF _ (HL8.size + 1))
                          have dj155 : Dj kg (HL8.size + 1) := Dj.new og.le
                          have dj156 : Dj kc (HL8.size + 1) := Dj.new oc.le
                          have dj157 : Dj (H81.size + 1) (HL8.size + 1) := Dj.new os.le
                          have dj158 : Dj (HL1.size + 1) (HL8.size + 1) := Dj.new ot.le
                          have dj159 : Dj (H78.size + 1) (HL8.size + 1) := Dj.new ou.le
                          have dj160 : Dj (HL6.size + 1) (HL8.size + 1) := Dj.new vx.lt
                          have nx161 : Nx 0 H0.size (HL8.size + 1) := Nx.new hm0.size
                          have nx162 : Nx 0 HL5.size (HL8.size + 1) := Nx.new hcm57.size
                          have nx163 : Nx 0 HL5.size (HL8.size + 1) := Nx.new hlm6.size
                          have nx164 : Nx 0 H18.size (HL8.size + 1) := Nx.new hlm7.size
                          have nx165 : Nx 0 HL7.size (HL8.size + 1) := Nx.new hlm8.size
                          have nx166 : Nx 0 HL8.size (HL8.size + 1) := Nx.new hq45.size
                          replace hl := hl.nw hs21
                          replace hxo := fun c hx0 => (hxo c hx0).nw hs21
                          replace hxn := fun c hx1 => (hxn c hx1).nw hs21
                          replace og := og.nw hs21
                          replace oc := oc.nw hs21
                          replace os := os.nw hs21
                          replace ot := ot.nw hs21
                          replace ou := ou.nw hs21
                          replace vx := vx.nw hs21
                          replace hm0 := hm0.tr hs21
                          replace hcm57 := hcm57.trN hs21
                          replace hlm6 := hlm6.trN hs21
                          replace hlm7 := hlm7.trN hs21
                          replace hlm8 := hlm8.trN hs21
                          replace hq45 := hq45.tr hs21
                          have hz33 := hs21.size
                          refine ⟨.inr hq45, LH.narrow (SH2 := fun Hq => Mo (Ms [(HL8.size + 1)]) H21 Hq) (fun Hq hq => (Mo.trL (ks := []) (hq45.mdn []) hq (MIL.cons (MI.app MI.z (nx166) (Nat.le_refl _)) MIL.nil)).nil) ?_⟩
                          have hq45 : Mo (Ms [(HL8.size + 1)]) H21 H21 := Mo.refl _ _
                          have nx167 := Nx.refl (HL8.size + 1) H21.size
                          refine LH.one (i := 20) (by kernel_rfl) ?_
                          -- call selvage/selvageref16.Score
                          refine LO.call rfl rfl Try.call12 rfl (Wd.u rfl) rfl rfl (rscore_ct _ _ gone[i].d come[k].d w0 _ (gone_R hg hxo _ (List.getElem_mem hil)).d (come_R hc hxn _ (List.getElem_mem hkl)).d (hgP _ (List.getElem_mem hil)).2 (hcP _ (List.getElem_mem hkl)).2) (fun v237 H237 r237 => ?_)
                          obtain ⟨rfl, hs237⟩ := r237
                          replace hl := hl.nw hs237
                          replace hxo := fun c hx0 => (hxo c hx0).nw hs237
                          replace hxn := fun c hx1 => (hxn c hx1).nw hs237
                          replace og := og.nw hs237
                          replace oc := oc.nw hs237
                          replace os := os.nw hs237
                          replace ot := ot.nw hs237
                          replace ou := ou.nw hs237
                          replace vx := vx.nw hs237
                          replace vp := vp.nw hs237
                          replace hm0 := hm0.tr hs237
                          replace hcm57 := hcm57.trN hs237
                          replace hlm6 := hlm6.trN hs237
                          replace hlm7 := hlm7.trN hs237
                          replace hlm8 := hlm8.trN hs237
                          replace hq45 := hq45.trN hs237
                          have hz34 := hs237.size
                          refine ⟨.inr hq45, LH.narrow (SH2 := fun Hq => Mo (Ms [(HL8.size + 1)]) H237 Hq) (fun Hq hq => hq45.trL hq (MIL.cons (MI.app (MI.root (by simp)) (nx167) (Nat.le_refl _)) MIL.nil)) ?_⟩
                          have hq45 : Mo (Ms [(HL8.size + 1)]) H237 H237 := Mo.refl _ _
                          have nx168 := Nx.refl (HL8.size + 1) H237.size
                          refine LH.take 21 (by kernel_rfl) rfl (by kernel_rfl) (by kernel_rfl) (by kernel_rfl) (fun Hq hq => Y.build (v := .agg (fPr (mkL gone[i] come[k]).p).toArray) rfl rfl (by intro w; kernel_rfl)) (Wd.u rfl) rfl rfl hq45 ?_
                          refine LH.one (i := 23) (by kernel_rfl) ?_
                          refine LO.s rfl (S.var vp (_) (fPr (mkL gone[i] come[k]).p) rfl rfl rfl rfl (fPr_one _) Try.sizeOf38 (rfl) (Nat.le_of_ble_eq_true rfl) (rfl)) (Wd.u rfl) rfl (fun H45_23 r45_23 => ?_)
                          obtain ⟨vp, hs45_23⟩ := r45_23
                          replace hs45_23 := hs45_23.md1
                          replace hl := hl.upL hs45_23 (DFL.cons df152 DFL.nil)
                          replace hxo := fun c hx0 => (hxo c hx0).upL hs45_23 (DFL.cons df153 DFL.nil)
                          replace hxn := fun c hx1 => (hxn c hx1).upL hs45_23 (DFL.cons df154 DFL.nil)
                          replace og := og.upL hs45_23 (DL.cons dj155 DL.nil)
                          replace oc := oc.upL hs45_23 (DL.cons dj156 DL.nil)
                          replace os := os.upL hs45_23 (DL.cons dj157 DL.nil)
                          replace ot := ot.upL hs45_23 (DL.cons dj158 DL.nil)
                          replace ou := ou.upL hs45_23 (DL.cons dj159 DL.nil)
                          replace vx := vx.upL hs45_23 (DL.cons dj160 DL.nil)
                          replace hm0 := (Mo.trL (ks := []) (hm0.mdn []) hs45_23 (MIL.cons (MI.app MI.z (nx161) (Nat.le_refl _)) MIL.nil)).nil
                          replace hcm57 := hcm57.trL hs45_23 (MIL.cons (MI.app MI.z (nx162) (Nat.le_refl _)) MIL.nil)
                          replace hlm6 := hlm6.trL hs45_23 (MIL.cons (MI.app MI.z (nx163) (Nat.le_refl _)) MIL.nil)
                          replace hlm7 := hlm7.trL hs45_23 (MIL.cons (MI.app MI.z (nx164) (Nat.le_refl _)) MIL.nil)
                          replace hlm8 := hlm8.trL hs45_23 (MIL.cons (MI.app MI.z (nx165) (Nat.le_refl _)) MIL.nil)
                          replace hq45 := hq45.trL hs45_23 (MIL.cons (MI.app (MI.root (by simp)) (nx168) (Nat.le_refl _)) MIL.nil)
                          have hz35 := hs45_23.size
                          refine ⟨.inl rfl, ?_⟩
                          refine LH.done (by kernel_rfl) ?_
                          refine hK82 _ _ ?_
                          refine CW.seq (fun K84 hK84 hE84 => ?_)
                          refine CW.region ?_
                          refine LR.v (Y.fieldAddr vp.pt rfl Try.runUnderlying38 rfl rfl Try.sizeOf3 (by decide) rfl) (Wd.u rfl) rfl rfl ?_
                          refine LR.v (Y.load1 (vp.pt.drop 2) rfl Try.isAgg3 rfl) (Wd.u rfl) rfl rfl ?_
                          refine LR.v (Y.geq rfl rfl rfl) (Wd.u rfl) rfl rfl ?_
                          refine LR.v (Y.move rfl rfl) (Wd.u rfl) rfl rfl ?_
                          refine LR.splitp (d := 242) rfl (fun g242 => ?_) (fun g242 => ?_)
                          ·
                            refine LR.v (Y.move rfl rfl) (Wd.g rfl rfl rfl) rfl rfl ?_
                            refine LR.v (Y.lss rfl rfl rfl) (Wd.g rfl rfl rfl) rfl rfl ?_
                            refine LR.v (Y.move rfl rfl) (Wd.g rfl rfl rfl) rfl rfl ?_
                            refine LR.splitp (d := 245) rfl (fun g245 => ?_) (fun g245 => ?_)
                            ·
                              refine LR.gs rfl rfl rfl rfl rfl rfl ?_
                              refine LR.gs rfl rfl rfl rfl rfl rfl ?_
                              refine LR.gs rfl rfl rfl rfl rfl rfl ?_
                              refine LR.v (Y.pick_t rfl rfl rfl) (Wd.g rfl rfl rfl) rfl rfl ?_
                              refine LR.v (Y.pick_t rfl rfl rfl) (Wd.u rfl) rfl rfl ?_
                              refine LR.nil ?_
                              refine hK84 _ _ ?_
                              refine CW.cond_t rfl ?_
                              refine CW.region_tail 5 rfl (by kernel_rfl) (fun T47 hT47 => ?_)
                              refine LR.v (Y.move rfl rfl) (Wd.u rfl) rfl rfl ?_
                              refine LR.v (Y.move rfl rfl) (Wd.u rfl) rfl rfl ?_
                              refine LR.v (Y.loadN vp.pt rfl Try.isAgg38 Try.sizeOf38 (rfl) rfl) (Wd.u rfl) rfl rfl ?_
                              refine LR.v (Y.assign rfl rfl) (Wd.u rfl) rfl rfl ?_
                              refine LR.v (Y.assign rfl rfl) (Wd.u rfl) rfl rfl ?_
                              refine LR.nil (hT47 _ ?_)
                              refine LR.s (S.var vx (_) (fPr (mkL gone[i] come[k]).p) rfl rfl rfl rfl (fPr_one _) Try.sizeOf38 (rfl) (Nat.le_of_ble_eq_true rfl) (rfl)) (Wd.u rfl) rfl (fun H47_5 r47_5 => ?_)
                              obtain ⟨vx, hs47_5⟩ := r47_5
                              replace hs47_5 := hs47_5.md1
                              replace hl := hl.upL hs47_5 (DFL.cons df125 DFL.nil)
                              replace hxo := fun c hx0 => (hxo c hx0).upL hs47_5 (DFL.cons df126 DFL.nil)
                              replace hxn := fun c hx1 => (hxn c hx1).upL hs47_5 (DFL.cons df127 DFL.nil)
                              replace og := og.upL hs47_5 (DL.cons dj128 DL.nil)
                              replace oc := oc.upL hs47_5 (DL.cons dj129 DL.nil)
                              replace os := os.upL hs47_5 (DL.cons dj130 DL.nil)
                              replace ot := ot.upL hs47_5 (DL.cons dj131 DL.nil)
                              replace ou := ou.upL hs47_5 (DL.cons dj132 DL.nil)
                              replace vp := vp.upL hs47_5 (DL.cons dj160.symm DL.nil)
                              replace hm0 := (Mo.trL (ks := []) (hm0.mdn []) hs47_5 (MIL.cons (MI.app MI.z (nx133) (Nat.le_refl _)) MIL.nil)).nil
                              replace hcm57 := hcm57.trL hs47_5 (MIL.cons (MI.app MI.z (nx134) (Nat.le_refl _)) MIL.nil)
                              replace hlm6 := hlm6.trL hs47_5 (MIL.cons (MI.app MI.z (nx135) (Nat.le_refl _)) MIL.nil)
                              replace hlm7 := hlm7.trL hs47_5 (MIL.cons (MI.app (MI.root (by simp)) (nx_hlm7_vx) (Nat.le_refl _)) MIL.nil)
                              replace hlm8 := hlm8.trL hs47_5 (MIL.cons (MI.app (MI.root (by simp)) (nx_hlm8_vx) (Nat.le_refl _)) MIL.nil)
                              have hz36 := hs47_5.size
                              refine LR.nil ?_
                              refine hK79 _ _ ?_
                              refine hK78 _ _ ?_
                              refine CW.region ?_
                              refine LR.v (Y.move rfl rfl) (Wd.u rfl) rfl rfl ?_
                              refine LR.v (Y.addi rfl rfl rfl (by omega)) (Wd.u rfl) rfl rfl ?_
                              refine LR.v (Y.assign rfl rfl) (Wd.u rfl) rfl rfl ?_
                              refine LR.nil ?_
                              have hkl : k < come.length := by omega
                              have hsc9 : (mkL gone[i] come[k]).p.s = (scoreB gone[i].d come[k].d : Nat) := rfl
                              refine QN.sub (hN75 (k + 1, (i : Int), (k : Int), (mkL gone[i] come[k]).p) _ ?_ ?_) ⟨rfl, rfl, rfl, rfl, rfl, (iv (by omega)), (iv (by omega)), (iv (by omega)), (iv (by omega)), rfl, (iv (by omega)), (iv (by omega)), trivial⟩
                              · exact ⟨(by omega), vx, hsb.take (Cd.mk hil hkl hlt2 hlu2 (by omega) (by first | assumption | simp_all) (by omega)) (by first | exact .inl (by omega) | exact .inr (by assumption)), ⟨(hgP _ (List.getElem_mem hil)).1, (hcP _ (List.getElem_mem hkl)).1⟩, hlm8⟩
                              · first | omega | (simp only; omega) | (simp; omega)
                            ·
                              refine LR.v (Y.loadN vp.pt rfl Try.isAgg38 Try.sizeOf38 (rfl) rfl) (Wd.g rfl rfl rfl) rfl rfl ?_
                              refine LR.v (Y.loadN vx.pt rfl Try.isAgg38 Try.sizeOf38 (rfl) rfl) (Wd.g rfl rfl rfl) rfl rfl ?_
                              -- call selvage/selvageref16.ahead
                              refine LR.call rfl Try.call39 rfl (Wd.g rfl rfl rfl) rfl rfl (RenB.ahead_ct (mkL gone[i] come[k]).p x w0 _ ⟨(hgP _ (List.getElem_mem hil)).1, (hcP _ (List.getElem_mem hkl)).1⟩ hxl) (fun v248 H248 r248 => ?_)
                              obtain ⟨rfl, hs248⟩ := r248
                              replace hl := hl.nw hs248
                              replace hxo := fun c hx0 => (hxo c hx0).nw hs248
                              replace hxn := fun c hx1 => (hxn c hx1).nw hs248
                              replace og := og.nw hs248
                              replace oc := oc.nw hs248
                              replace os := os.nw hs248
                              replace ot := ot.nw hs248
                              replace ou := ou.nw hs248
                              replace vx := vx.nw hs248
                              replace vp := vp.nw hs248
                              replace hm0 := hm0.tr hs248
                              replace hcm57 := hcm57.trN hs248
                              replace hlm6 := hlm6.trN hs248
                              replace hlm7 := hlm7.trN hs248
                              replace hlm8 := hlm8.trN hs248
                              have hz37 := hs248.size
                              refine LR.v (Y.pick_f rfl rfl rfl) (Wd.g rfl rfl rfl) rfl rfl ?_
                              refine LR.v (Y.pick_t rfl rfl rfl) (Wd.u rfl) rfl rfl ?_
                              refine LR.nil ?_
                              refine hK84 _ _ ?_
                              refine CW.cond rfl (fun c250 => ?_) (fun c250 => ?_)
                              ·
                                refine CW.region_tail 5 rfl (by kernel_rfl) (fun T47 hT47 => ?_)
                                refine LR.v (Y.move rfl rfl) (Wd.u rfl) rfl rfl ?_
                                refine LR.v (Y.move rfl rfl) (Wd.u rfl) rfl rfl ?_
                                refine LR.v (Y.loadN vp.pt rfl Try.isAgg38 Try.sizeOf38 (rfl) rfl) (Wd.u rfl) rfl rfl ?_
                                refine LR.v (Y.assign rfl rfl) (Wd.u rfl) rfl rfl ?_
                                refine LR.v (Y.assign rfl rfl) (Wd.u rfl) rfl rfl ?_
                                refine LR.nil (hT47 _ ?_)
                                refine LR.s (S.var vx (_) (fPr (mkL gone[i] come[k]).p) rfl rfl rfl rfl (fPr_one _) Try.sizeOf38 (rfl) (Nat.le_of_ble_eq_true rfl) (rfl)) (Wd.u rfl) rfl (fun H47_5 r47_5 => ?_)
                                obtain ⟨vx, hs47_5⟩ := r47_5
                                replace hs47_5 := hs47_5.md1
                                replace hl := hl.upL hs47_5 (DFL.cons df125 DFL.nil)
                                replace hxo := fun c hx0 => (hxo c hx0).upL hs47_5 (DFL.cons df126 DFL.nil)
                                replace hxn := fun c hx1 => (hxn c hx1).upL hs47_5 (DFL.cons df127 DFL.nil)
                                replace og := og.upL hs47_5 (DL.cons dj128 DL.nil)
                                replace oc := oc.upL hs47_5 (DL.cons dj129 DL.nil)
                                replace os := os.upL hs47_5 (DL.cons dj130 DL.nil)
                                replace ot := ot.upL hs47_5 (DL.cons dj131 DL.nil)
                                replace ou := ou.upL hs47_5 (DL.cons dj132 DL.nil)
                                replace vp := vp.upL hs47_5 (DL.cons dj160.symm DL.nil)
                                replace hm0 := (Mo.trL (ks := []) (hm0.mdn []) hs47_5 (MIL.cons (MI.app MI.z (nx133) (Nat.le_refl _)) MIL.nil)).nil
                                replace hcm57 := hcm57.trL hs47_5 (MIL.cons (MI.app MI.z (nx134) (Nat.le_refl _)) MIL.nil)
                                replace hlm6 := hlm6.trL hs47_5 (MIL.cons (MI.app MI.z (nx135) (Nat.le_refl _)) MIL.nil)
                                replace hlm7 := hlm7.trL hs47_5 (MIL.cons (MI.app (MI.root (by simp)) (nx_hlm7_vx) (Nat.le_refl _)) MIL.nil)
                                replace hlm8 := hlm8.trL hs47_5 (MIL.cons (MI.app (MI.root (by simp)) (nx_hlm8_vx) (Nat.le_refl _)) MIL.nil)
                                have hz38 := hs47_5.size
                                refine LR.nil ?_
                                refine hK79 _ _ ?_
                                refine hK78 _ _ ?_
                                refine CW.region ?_
                                refine LR.v (Y.move rfl rfl) (Wd.u rfl) rfl rfl ?_
                                refine LR.v (Y.addi rfl rfl rfl (by omega)) (Wd.u rfl) rfl rfl ?_
                                refine LR.v (Y.assign rfl rfl) (Wd.u rfl) rfl rfl ?_
                                refine LR.nil ?_
                                have hkl : k < come.length := by omega
                                have hsc9 : (mkL gone[i] come[k]).p.s = (scoreB gone[i].d come[k].d : Nat) := rfl
                                refine QN.sub (hN75 (k + 1, (i : Int), (k : Int), (mkL gone[i] come[k]).p) _ ?_ ?_) ⟨rfl, rfl, rfl, rfl, rfl, (iv (by omega)), (iv (by omega)), (iv (by omega)), (iv (by omega)), rfl, (iv (by omega)), (iv (by omega)), trivial⟩
                                · exact ⟨(by omega), vx, hsb.take (Cd.mk hil hkl hlt2 hlu2 (by omega) (by first | assumption | simp_all) (by omega)) (by first | exact .inl (by omega) | exact .inr (by assumption)), ⟨(hgP _ (List.getElem_mem hil)).1, (hcP _ (List.getElem_mem hkl)).1⟩, hlm8⟩
                                · first | omega | (simp only; omega) | (simp; omega)
                              ·
                                refine CW.skip ?_
                                refine hK79 _ _ ?_
                                refine hK78 _ _ ?_
                                refine CW.region ?_
                                refine LR.v (Y.move rfl rfl) (Wd.u rfl) rfl rfl ?_
                                refine LR.v (Y.addi rfl rfl rfl (by omega)) (Wd.u rfl) rfl rfl ?_
                                refine LR.v (Y.assign rfl rfl) (Wd.u rfl) rfl rfl ?_
                                refine LR.nil ?_
                                have hkl : k < come.length := by omega
                                have hsc9 : (mkL gone[i] come[k]).p.s = (scoreB gone[i].d come[k].d : Nat) := rfl
                                refine QN.sub (hN75 (k + 1, bi, bk, x) _ ?_ ?_) ⟨rfl, rfl, rfl, rfl, rfl, (iv (by omega)), (iv (by omega)), (iv (by omega)), (iv (by omega)), rfl, (iv (by omega)), (iv (by omega)), trivial⟩
                                · exact ⟨(by omega), vx, by first | exact hsb.keep (Cd.mk hil hkl hlt2 hlu2 (by omega) (by first | assumption | simp_all) (by omega)) (by omega) (by first | assumption | simp_all) | exact hsb.skip (Cd.un hil hkl hlt2 hlu2 (by rintro ⟨h1, h2, h3⟩; first | omega | contradiction | simp_all)), (by omega), hlm8⟩
                                · first | omega | (simp only; omega) | (simp; omega)
                          ·
                            refine LR.gs rfl rfl rfl rfl rfl rfl ?_
                            refine LR.gs rfl rfl rfl rfl rfl rfl ?_
                            refine LR.gs rfl rfl rfl rfl rfl rfl ?_
                            refine LR.gsu rfl rfl rfl rfl rfl ?_
                            refine LR.gsu rfl rfl rfl rfl rfl ?_
                            refine LR.gsu rfl rfl rfl rfl rfl ?_
                            refine LR.gs rfl rfl rfl rfl rfl rfl ?_
                            refine LR.v (Y.pick_f rfl rfl rfl) (Wd.u rfl) rfl rfl ?_
                            refine LR.nil ?_
                            refine hK84 _ _ ?_
                            refine CW.cond_f rfl ?_
                            refine CW.skip ?_
                            refine hK79 _ _ ?_
                            refine hK78 _ _ ?_
                            refine CW.region ?_
                            refine LR.v (Y.move rfl rfl) (Wd.u rfl) rfl rfl ?_
                            refine LR.v (Y.addi rfl rfl rfl (by omega)) (Wd.u rfl) rfl rfl ?_
                            refine LR.v (Y.assign rfl rfl) (Wd.u rfl) rfl rfl ?_
                            refine LR.nil ?_
                            have hkl : k < come.length := by omega
                            have hsc9 : (mkL gone[i] come[k]).p.s = (scoreB gone[i].d come[k].d : Nat) := rfl
                            refine QN.sub (hN75 (k + 1, bi, bk, x) _ ?_ ?_) ⟨rfl, rfl, rfl, rfl, rfl, (iv (by omega)), (iv (by omega)), (iv (by omega)), (iv (by omega)), rfl, (iv (by omega)), (iv (by omega)), trivial⟩
                            · exact ⟨(by omega), vx, by first | exact hsb.keep (Cd.mk hil hkl hlt2 hlu2 (by omega) (by first | assumption | simp_all) (by omega)) (by omega) (by first | assumption | simp_all) | exact hsb.skip (Cd.un hil hkl hlt2 hlu2 (by rintro ⟨h1, h2, h3⟩; first | omega | contradiction | simp_all)), (by omega), hlm8⟩
                            · first | omega | (simp only; omega) | (simp; omega)
                  ·
                    refine CW.exit (hE76 (.exit 14) nofun _ _ (hE75 (.exit 14) nofun _ _ (hX74 _ _ ?_)))
                    refine hK72 _ _ ?_
                    refine hK71 _ _ ?_
                    refine CW.region ?_
                    refine LR.v (Y.move rfl rfl) (Wd.u rfl) rfl rfl ?_
                    refine LR.v (Y.addi rfl rfl rfl (by omega)) (Wd.u rfl) rfl rfl ?_
                    refine LR.v (Y.assign rfl rfl) (Wd.u rfl) rfl rfl ?_
                    refine LR.nil ?_
                    refine QN.sub (hN68 (i + 1, bi, bk, x) _ ?_ ?_) ⟨rfl, rfl, rfl, rfl, rfl, (iv (by omega)), (iv (by omega)), (iv (by omega)), (iv (by omega)), rfl, (iv (by omega)), trivial⟩
                    · exact ⟨(by omega), vx, hsb.row (by omega), (by omega), hlm7⟩
                    · first | omega | (simp only; omega) | (simp; omega)
                ·
                  have hi4 : i = gone.length := by omega
                  rw [hi4] at hsb
                  refine CW.exit (hE69 (.exit 12) nofun _ _ (hE68 (.exit 12) nofun _ _ (hX67 _ _ ?_)))
                  refine hK65 _ _ ?_
                  refine CW.seq (fun K85 hK85 hE85 => ?_)
                  refine CW.seq (fun K86 hK86 hE86 => ?_)
                  refine CW.region ?_
                  refine LR.v (Y.move rfl rfl) (Wd.u rfl) rfl rfl ?_
                  refine LR.v (Y.lss rfl rfl rfl) (Wd.u rfl) rfl rfl ?_
                  refine LR.nil ?_
                  refine hK86 _ _ ?_
                  refine CW.condp rfl (fun c255 => ?_) (fun c255 => ?_)
                  ·
                    refine CW.exit (hE85 (.exit 10) nofun _ _ (hE62 (.exit 10) nofun (by simp) _ _ (hE59 (.exit 10) nofun _ _ (hX58 _ _ ?_))))
                    refine QN.sub (hK57 (to2, u2, sc2) _ ?_) ⟨rfl, rfl, rfl, rfl, trivial⟩
                    exact ⟨ot, ou, os, hC.done (fun _ => hsb.none (by omega)), ⟨hC.lt, hC.ls⟩, hC.r, nx104, nx111, nx118, dj119, dj120, dj121, hcm57⟩
                  ·
                    obtain ⟨a, b, y, hba, hbb, hal, hbl, hcd, hxy, hmin⟩ := hsb.best (by omega)
                    have hC1 := hC
                    rw [hs1] at hC1
                    have hst := hC1.step hng hnc hcd hmin
                    refine CW.skip ?_
                    refine hK85 _ _ ?_
                    refine CW.region_any (fun Hq => Mo (Ms [(HL1.size + 1), (H78.size + 1), (H81.size + 1)]) HL7 Hq) [15] rfl ?_
                    have hq49 : Mo (Ms [(HL1.size + 1), (H78.size + 1), (H81.size + 1)]) HL7 HL7 := Mo.refl _ _
                    have nx169 := Nx.refl (HL1.size + 1) HL7.size
                    have nx170 := Nx.refl (H78.size + 1) HL7.size
                    have nx171 := Nx.refl (H81.size + 1) HL7.size
                    refine LH.take 0 (by kernel_rfl) rfl (by kernel_rfl) (by kernel_rfl) (by kernel_rfl) (fun Hq hq => Y.move rfl rfl) (Wd.u rfl) rfl rfl hq49 ?_
                    refine LH.take 1 (by kernel_rfl) rfl (by kernel_rfl) (by kernel_rfl) (by kernel_rfl) (fun Hq hq => Y.cast (v2 := .int .i64 a) (Y.move rfl rfl) (by rw [hba])) (Wd.u rfl) rfl rfl hq49 ?_
                    refine LH.take 2 (by kernel_rfl) rfl (by kernel_rfl) (by kernel_rfl) (by kernel_rfl) (fun Hq hq => Y.move rfl rfl) (Wd.u rfl) rfl rfl hq49 ?_
                    refine LH.take 3 (by kernel_rfl) rfl (by kernel_rfl) (by kernel_rfl) (by kernel_rfl) (fun Hq hq => Y.cast (v2 := .int .i64 b) (Y.move rfl rfl) (by rw [hbb])) (Wd.u rfl) rfl rfl hq49 ?_
                    refine LH.take 4 (by kernel_rfl) rfl (by kernel_rfl) (by kernel_rfl) (by kernel_rfl) (fun Hq hq => Y.move rfl rfl) (Wd.u rfl) rfl rfl hq49 ?_
                    refine LH.take 5 (by kernel_rfl) rfl (by kernel_rfl) (by kernel_rfl) (by kernel_rfl) (fun Hq hq => Y.cast (v2 := .int .i64 a) (Y.move rfl rfl) (by rw [hba])) (Wd.u rfl) rfl rfl hq49 ?_
                    refine LH.take 6 (by kernel_rfl) rfl (by kernel_rfl) (by kernel_rfl) (by kernel_rfl) (fun Hq hq => Y.cast (v2 := .int .i64 b) (Y.move rfl rfl) (by rw [hbb])) (Wd.u rfl) rfl rfl hq49 ?_
                    refine LH.take 7 (by kernel_rfl) rfl (by kernel_rfl) (by kernel_rfl) (by kernel_rfl) (fun Hq hq => Y.addi rfl rfl rfl (by omega)) (Wd.u rfl) rfl rfl hq49 ?_
                    refine LH.take 8 (by kernel_rfl) rfl (by kernel_rfl) (by kernel_rfl) (by kernel_rfl) (fun Hq hq => Y.fieldAddr (vx.upL hq (DL.cons dj131.symm (DL.cons dj132.symm (DL.cons dj130.symm DL.nil)))).pt rfl Try.runUnderlying38 rfl rfl Try.sizeOf3 (by decide) rfl) (Wd.u rfl) rfl rfl hq49 ?_
                    refine LH.take 9 (by kernel_rfl) rfl (by kernel_rfl) (by kernel_rfl) (by kernel_rfl) (fun Hq hq => Y.cast (v2 := .int .i64 y.p.s) (Y.load1 ((vx.upL hq (DL.cons dj131.symm (DL.cons dj132.symm (DL.cons dj130.symm DL.nil)))).pt.drop 2) rfl Try.isAgg3 rfl) (by rw [hxy])) (Wd.u rfl) rfl rfl hq49 ?_
                    refine LH.take 10 (by kernel_rfl) rfl (by kernel_rfl) (by kernel_rfl) (by kernel_rfl) (fun Hq hq => Y.owAddrX ot (a) rfl Try.runUnderlying39 Try.sizeOf3 rfl rfl (by first | rfl | omega) (by first | omega | (simp; omega) | (simp; done))) (Wd.u rfl) rfl rfl hq49 ?_
                    refine LH.one (i := 11) (by kernel_rfl) ?_
                    refine LO.s rfl (S.oww ot (a) 0 (((b : Int) + 1)) rfl rfl rfl rfl Try.sizeOf3 (by first | omega | (simp; omega) | (simp; done)) (by decide) (rfl)) (Wd.u rfl) rfl (fun H49_11 r49_11 => ?_)
                    obtain ⟨ot, hs49_11⟩ := r49_11
                    replace hs49_11 := hs49_11.md
                    replace hl := hl.upL hs49_11 (DFL.cons df98 DFL.nil)
                    replace hxo := fun c hx0 => (hxo c hx0).upL hs49_11 (DFL.cons df99 DFL.nil)
                    replace hxn := fun c hx1 => (hxn c hx1).upL hs49_11 (DFL.cons df100 DFL.nil)
                    replace og := og.upL hs49_11 (DL.cons dj101 DL.nil)
                    replace oc := oc.upL hs49_11 (DL.cons dj102 DL.nil)
                    replace os := os.upL hs49_11 (DL.cons dj120.symm DL.nil)
                    replace ou := ou.upL hs49_11 (DL.cons dj119.symm DL.nil)
                    replace vx := vx.upL hs49_11 (DL.cons dj131.symm DL.nil)
                    replace hm0 := (Mo.trL (ks := []) (hm0.mdn []) hs49_11 (MIL.cons (MI.app MI.z (nx103) (Nat.le_refl _)) MIL.nil)).nil
                    replace hcm57 := hcm57.trL hs49_11 (MIL.cons (MI.app (MI.root (by simp)) (nx104) (Nat.le_refl _)) MIL.nil)
                    replace hlm6 := hlm6.trL hs49_11 (MIL.cons (MI.app (MI.root (by simp)) (nx122) (Nat.le_refl _)) MIL.nil)
                    replace hq49 := hq49.trL hs49_11 (MIL.cons (MI.app (MI.root (by simp)) (nx169) (Nat.le_refl _)) MIL.nil)
                    have hz39 := hs49_11.size
                    refine ⟨.inr hq49, LH.narrow (SH2 := fun Hq => Mo (Ms [(HL1.size + 1), (H78.size + 1), (H81.size + 1)]) H49_11 Hq) (fun Hq hq => hq49.trL hq (MIL.cons (MI.app (MI.root (by simp)) (nx169) (Nat.le_refl _)) (MIL.cons (MI.app (MI.root (by simp)) (nx170) (Nat.le_refl _)) (MIL.cons (MI.app (MI.root (by simp)) (nx171) (Nat.le_refl _)) MIL.nil)))) ?_⟩
                    have hq49 : Mo (Ms [(HL1.size + 1), (H78.size + 1), (H81.size + 1)]) H49_11 H49_11 := Mo.refl _ _
                    have nx172 := Nx.refl (HL1.size + 1) H49_11.size
                    have nx173 := Nx.refl (H78.size + 1) H49_11.size
                    have nx174 := Nx.refl (H81.size + 1) H49_11.size
                    refine LH.take 12 (by kernel_rfl) rfl (by kernel_rfl) (by kernel_rfl) (by kernel_rfl) (fun Hq hq => Y.owAddrX ou (b) rfl Try.runUnderlying43 Try.sizeOf4 rfl rfl (by first | rfl | omega) (by first | omega | (simp; omega) | (simp; done))) (Wd.u rfl) rfl rfl hq49 ?_
                    refine LH.one (i := 13) (by kernel_rfl) ?_
                    refine LO.s rfl (S.oww ou (b) 0 (true) rfl rfl rfl rfl Try.sizeOf4 (by first | omega | (simp; omega) | (simp; done)) (by decide) (rfl)) (Wd.u rfl) rfl (fun H49_13 r49_13 => ?_)
                    obtain ⟨ou, hs49_13⟩ := r49_13
                    replace hs49_13 := hs49_13.md
                    replace hl := hl.upL hs49_13 (DFL.cons df105 DFL.nil)
                    replace hxo := fun c hx0 => (hxo c hx0).upL hs49_13 (DFL.cons df106 DFL.nil)
                    replace hxn := fun c hx1 => (hxn c hx1).upL hs49_13 (DFL.cons df107 DFL.nil)
                    replace og := og.upL hs49_13 (DL.cons dj108 DL.nil)
                    replace oc := oc.upL hs49_13 (DL.cons dj109 DL.nil)
                    replace os := os.upL hs49_13 (DL.cons dj121.symm DL.nil)
                    replace ot := ot.upL hs49_13 (DL.cons dj119 DL.nil)
                    replace vx := vx.upL hs49_13 (DL.cons dj132.symm DL.nil)
                    replace hm0 := (Mo.trL (ks := []) (hm0.mdn []) hs49_13 (MIL.cons (MI.app MI.z (nx110) (Nat.le_refl _)) MIL.nil)).nil
                    replace hcm57 := hcm57.trL hs49_13 (MIL.cons (MI.app (MI.root (by simp)) (nx111) (Nat.le_refl _)) MIL.nil)
                    replace hlm6 := hlm6.trL hs49_13 (MIL.cons (MI.app (MI.root (by simp)) (nx123) (Nat.le_refl _)) MIL.nil)
                    replace hq49 := hq49.trL hs49_13 (MIL.cons (MI.app (MI.root (by simp)) (nx173) (Nat.le_refl _)) MIL.nil)
                    have hz40 := hs49_13.size
                    refine ⟨.inr hq49, LH.narrow (SH2 := fun Hq => Mo (Ms [(HL1.size + 1), (H78.size + 1), (H81.size + 1)]) H49_13 Hq) (fun Hq hq => hq49.trL hq (MIL.cons (MI.app (MI.root (by simp)) (nx172) (Nat.le_refl _)) (MIL.cons (MI.app (MI.root (by simp)) (nx173) (Nat.le_refl _)) (MIL.cons (MI.app (MI.root (by simp)) (nx174) (Nat.le_refl _)) MIL.nil)))) ?_⟩
                    have hq49 : Mo (Ms [(HL1.size + 1), (H78.size + 1), (H81.size + 1)]) H49_13 H49_13 := Mo.refl _ _
                    have nx175 := Nx.refl (HL1.size + 1) H49_13.size
                    have nx176 := Nx.refl (H78.size + 1) H49_13.size
                    have nx177 := Nx.refl (H81.size + 1) H49_13.size
                    refine LH.take 14 (by kernel_rfl) rfl (by kernel_rfl) (by kernel_rfl) (by kernel_rfl) (fun Hq hq => Y.owAddrX os (a) rfl Try.runUnderlying39 Try.sizeOf3 rfl rfl (by first | rfl | omega) (by first | omega | (simp; omega) | (simp; done))) (Wd.u rfl) rfl rfl hq49 ?_
                    refine LH.one (i := 15) (by kernel_rfl) ?_
                    refine LO.s rfl (S.oww os (a) 0 (y.p.s) rfl rfl rfl rfl Try.sizeOf3 (by first | omega | (simp; omega) | (simp; done)) (by decide) (rfl)) (Wd.u rfl) rfl (fun H49_15 r49_15 => ?_)
                    obtain ⟨os, hs49_15⟩ := r49_15
                    replace hs49_15 := hs49_15.md
                    replace hl := hl.upL hs49_15 (DFL.cons df112 DFL.nil)
                    replace hxo := fun c hx0 => (hxo c hx0).upL hs49_15 (DFL.cons df113 DFL.nil)
                    replace hxn := fun c hx1 => (hxn c hx1).upL hs49_15 (DFL.cons df114 DFL.nil)
                    replace og := og.upL hs49_15 (DL.cons dj115 DL.nil)
                    replace oc := oc.upL hs49_15 (DL.cons dj116 DL.nil)
                    replace ot := ot.upL hs49_15 (DL.cons dj120 DL.nil)
                    replace ou := ou.upL hs49_15 (DL.cons dj121 DL.nil)
                    replace vx := vx.upL hs49_15 (DL.cons dj130.symm DL.nil)
                    replace hm0 := (Mo.trL (ks := []) (hm0.mdn []) hs49_15 (MIL.cons (MI.app MI.z (nx117) (Nat.le_refl _)) MIL.nil)).nil
                    replace hcm57 := hcm57.trL hs49_15 (MIL.cons (MI.app (MI.root (by simp)) (nx118) (Nat.le_refl _)) MIL.nil)
                    replace hlm6 := hlm6.trL hs49_15 (MIL.cons (MI.app (MI.root (by simp)) (nx124) (Nat.le_refl _)) MIL.nil)
                    replace hq49 := hq49.trL hs49_15 (MIL.cons (MI.app (MI.root (by simp)) (nx177) (Nat.le_refl _)) MIL.nil)
                    have hz41 := hs49_15.size
                    refine ⟨.inl rfl, ?_⟩
                    refine LH.done (by kernel_rfl) ?_
                    refine hK62 _ _ ?_
                    refine QN.sub (hN59 (to2.set a ((b : Int) + 1), u2.set b true, sc2.set a y.p.s) _ ?_ ?_) ⟨rfl, rfl, rfl, rfl, rfl, (iv (by omega)), (iv (by omega)), trivial⟩
                    · exact ⟨ot, ou, os, by rw [hs1]; exact hst.1, nx122, nx123, nx124, dj119, dj120, dj121, hlm6⟩
                    · first | omega | (simp only; omega) | (simp; omega)
              ·
                refine CW.exit (hE60 (.exit 10) nofun _ _ (hE59 (.exit 10) nofun _ _ (hX58 _ _ ?_)))
                refine QN.sub (hK57 (to2, u2, sc2) _ ?_) ⟨rfl, rfl, rfl, rfl, trivial⟩
                exact ⟨ot, ou, os, hC.done (fun h9 => by rw [hsm] at h9; have h8 := of_decide_eq_true h9; omega), ⟨hC.lt, hC.ls⟩, hC.r, nx104, nx111, nx118, dj119, dj120, dj121, hcm57⟩
            ·
              refine LR.gs rfl rfl rfl rfl rfl rfl ?_
              refine LR.gs rfl rfl rfl rfl rfl rfl ?_
              refine LR.v (Y.pick_f rfl rfl rfl) (Wd.u rfl) rfl rfl ?_
              refine LR.nil ?_
              refine hK61 _ _ ?_
              refine CW.cond_f rfl ?_
              refine CW.exit (hE60 (.exit 10) nofun _ _ (hE59 (.exit 10) nofun _ _ (hX58 _ _ ?_)))
              refine QN.sub (hK57 (to2, u2, sc2) _ ?_) ⟨rfl, rfl, rfl, rfl, trivial⟩
              exact ⟨ot, ou, os, hC.done (fun h9 => by rw [hsm] at h9; have h8 := of_decide_eq_true h9; omega), ⟨hC.lt, hC.ls⟩, hC.r, nx104, nx111, nx118, dj119, dj120, dj121, hcm57⟩
          ·
            rintro ⟨to3, u3, sc3⟩ Hcut10 hIcut10
            obtain ⟨ot, ou, os, hP, hlt3, hr3, nxl_ot, nxl_ou, nxl_os, dj_ot_ou, dj_ot_os, dj_ou_os, hlmcut10⟩ := hIcut10
            have df178 := DF.app (df74) (bf_hl.mono hm0.size) nxl_ot
            have df179 := DF.app (df75) (bf_hxo.mono hm0.size) nxl_ot
            have df180 := DF.app (df76) (bf_hxn.mono hm0.size) nxl_ot
            have dj181 : Dj kg (HL1.size + 1) := Dj.app (dj77) og.le nxl_ot
            have dj182 : Dj kc (HL1.size + 1) := Dj.app (dj78) oc.le nxl_ot
            have nx183 : Nx 0 H0.size (HL1.size + 1) := Nx.tr (nx79) nxl_ot hm0.size
            have df184 := DF.app (df80) (bf_hl.mono hm0.size) nxl_ou
            have df185 := DF.app (df81) (bf_hxo.mono hm0.size) nxl_ou
            have df186 := DF.app (df82) (bf_hxn.mono hm0.size) nxl_ou
            have dj187 : Dj kg (H78.size + 1) := Dj.app (dj83) og.le nxl_ou
            have dj188 : Dj kc (H78.size + 1) := Dj.app (dj84) oc.le nxl_ou
            have nx189 : Nx 0 H0.size (H78.size + 1) := Nx.tr (nx85) nxl_ou hm0.size
            have df190 := DF.app (df86) (bf_hl.mono hm0.size) nxl_os
            have df191 := DF.app (df87) (bf_hxo.mono hm0.size) nxl_os
            have df192 := DF.app (df88) (bf_hxn.mono hm0.size) nxl_os
            have dj193 : Dj kg (H81.size + 1) := Dj.app (dj89) og.le nxl_os
            have dj194 : Dj kc (H81.size + 1) := Dj.app (dj90) oc.le nxl_os
            have nx195 : Nx 0 H0.size (H81.size + 1) := Nx.tr (nx91) nxl_os hm0.size
            replace hl := hl.upL hlmcut10 (DFL.cons df74 (DFL.cons df80 (DFL.cons df86 DFL.nil)))
            replace hxo := fun c hx0 => (hxo c hx0).upL hlmcut10 (DFL.cons df75 (DFL.cons df81 (DFL.cons df87 DFL.nil)))
            replace hxn := fun c hx1 => (hxn c hx1).upL hlmcut10 (DFL.cons df76 (DFL.cons df82 (DFL.cons df88 DFL.nil)))
            replace og := og.upL hlmcut10 (DL.cons dj77 (DL.cons dj83 (DL.cons dj89 DL.nil)))
            replace oc := oc.upL hlmcut10 (DL.cons dj78 (DL.cons dj84 (DL.cons dj90 DL.nil)))
            replace hm0 := (Mo.trL (ks := []) (hm0.mdn []) hlmcut10 (MIL.cons (MI.app MI.z (nx79) (Nat.le_refl _)) (MIL.cons (MI.app MI.z (nx85) (Nat.le_refl _)) (MIL.cons (MI.app MI.z (nx91) (Nat.le_refl _)) MIL.nil)))).nil
            have hz42 := hlmcut10.size
            have hle_ot := ot.le
            have hle_ou := ou.le
            have hle_os := os.le
            have dj196 := dj_ot_ou
            have dj197 := dj_ot_os
            have dj198 := dj_ou_os
            have nx199 := nxl_ot
            have nx200 := nxl_ou
            have nx201 := nxl_os
            refine CW.seq (fun K87 hK87 hE87 => ?_)
            refine CW.region ?_
            refine LR.v (Y.assign rfl rfl) (Wd.u rfl) rfl rfl ?_
            refine LR.nil ?_
            refine hK87 _ _ ?_
            refine CW.seq (fun K88 hK88 hE88 => ?_)
            refine CW.seq (fun K89 hK89 hE89 => ?_)
            refine CW.region ?_
            refine LR.v (Y.assign rfl rfl) (Wd.u rfl) rfl rfl ?_
            refine LR.nil ?_
            refine hK89 _ _ ?_
            refine CW.block (fun K90 hK90 hX90 hE90 => ?_)
            refine CW.loop (fun (s_ : (Nat) × (Value) × (Nat) × (List Pr)) => match s_ with | (i, vo, ko, out) => [(3, vg), (4, vc), (6, v78), (8, v84), (22, vo), (23, .int .i64 i)])
              (fun (s_ : (Nat) × (Value) × (Nat) × (List Pr)) (H : Heap) => match s_ with | (i, vo, ko, out) => (i ≤ gone.length) ∧ (Ow ko 38 H fPr 3 vo out) ∧ (outR come (gone.take i) (to3.take i) (sc3.take i) = out) ∧ (out.length ≤ i) ∧ (Nx 0 Hcut10.size ko) ∧ Nw Hcut10 H)
              (fun (s_ : (Nat) × (Value) × (Nat) × (List Pr)) => match s_ with | (i, vo, ko, out) => gone.length - i) (0, .slice none 0 0, 0, []) ⟨rfl, rfl, rfl, rfl, rfl, rfl, trivial⟩ ?_ ?_
            ·
              exact ⟨(by omega), Ow.nil fPr_len fPr_one, rfl, (by simp), Nx.refl _ _, Mo.refl _ _⟩
            rintro ⟨i, vo, ko, out⟩ HL9 hI9 K91 hN91 hE91
            obtain ⟨hi, ow, he, hol, nxl_ow, hlm9⟩ := hI9
            have df202 := DF.app (DF.z) (bf_hl.mono hm0.size) nxl_ow
            have df203 := DF.app (DF.z) (bf_hxo.mono hm0.size) nxl_ow
            have df204 := DF.app (DF.z) (bf_hxn.mono hm0.size) nxl_ow
            have dj205 : Dj kg ko := Dj.app (Dj.z) og.le nxl_ow
            have dj206 : Dj kc ko := Dj.app (Dj.z) oc.le nxl_ow
            have dj207 : Dj (H81.size + 1) ko := Dj.app (Dj.z) os.le nxl_ow
            have dj208 : Dj (HL1.size + 1) ko := Dj.app (Dj.z) ot.le nxl_ow
            have dj209 : Dj (H78.size + 1) ko := Dj.app (Dj.z) ou.le nxl_ow
            have nx210 : Nx 0 H0.size ko := Nx.tr (Nx.refl 0 _) nxl_ow hm0.size
            replace hl := hl.nw hlm9
            replace hxo := fun c hx0 => (hxo c hx0).nw hlm9
            replace hxn := fun c hx1 => (hxn c hx1).nw hlm9
            replace og := og.nw hlm9
            replace oc := oc.nw hlm9
            replace os := os.nw hlm9
            replace ot := ot.nw hlm9
            replace ou := ou.nw hlm9
            replace hm0 := hm0.tr hlm9
            have hz43 := hlm9.size
            have hle_ow := ow.le
            have nx211 := nxl_ow
            refine CW.seq (fun K92 hK92 hE92 => ?_)
            refine CW.seq (fun K93 hK93 hE93 => ?_)
            refine CW.region ?_
            refine LR.v (Y.move rfl rfl) (Wd.u rfl) rfl rfl ?_
            refine LR.v (Y.move rfl rfl) (Wd.u rfl) rfl rfl ?_
            refine LR.v (Y.len og.rd rfl Try.runUnderlying26 rfl) (Wd.u rfl) rfl rfl ?_
            refine LR.v (Y.lss rfl rfl rfl) (Wd.u rfl) rfl rfl ?_
            refine LR.nil ?_
            refine hK93 _ _ ?_
            refine CW.condp rfl (fun c272 => ?_) (fun c272 => ?_)
            ·
              refine CW.skip ?_
              refine hK92 _ _ ?_
              refine CW.seq (fun K94 hK94 hE94 => ?_)
              refine CW.block (fun K95 hK95 hX95 hE95 => ?_)
              refine CW.seq (fun K96 hK96 hE96 => ?_)
              refine CW.region ?_
              refine LR.v (Y.move rfl rfl) (Wd.u rfl) rfl rfl ?_
              refine LR.v (Y.move rfl rfl) (Wd.u rfl) rfl rfl ?_
              have hil : i < gone.length := by omega
              obtain ⟨hlt4, hls4⟩ := id hlt3
              have hil3 : i < to3.length := by omega
              have hrq := hr3 i hil3
              refine LR.v (Y.owAddr ot (i) rfl Try.runUnderlying39 Try.sizeOf3 rfl rfl (by first | rfl | omega) (by first | omega | (simp; omega) | (simp; done))) (Wd.u rfl) rfl rfl ?_
              refine LR.v (Y.load1 (ot.pt (j := i) (by first | omega | (simp; omega) | (simp; done))) rfl Try.isAgg3 rfl) (Wd.u rfl) rfl rfl ?_
              refine LR.v (Y.gtr rfl rfl rfl) (Wd.u rfl) rfl rfl ?_
              refine LR.nil ?_
              refine hK96 _ _ ?_
              refine CW.condp rfl (fun c279 => ?_) (fun c279 => ?_)
              ·
                obtain ⟨q, hq⟩ : ∃ q : Nat, to3[i] = (q : Int) + 1 := ⟨(to3[i] - 1).toNat, by omega⟩
                have hql : q < come.length := by omega
                have hcq : come.getD (to3[i] - 1).toNat zFl = come[q] := by rw [show (to3[i] - 1).toNat = q by omega]; simp [List.getD, hql]
                refine CW.region_any (fun Hq => Mo (Ms [ko]) HL9 Hq) [] rfl ?_
                have hq55 : Mo (Ms [ko]) HL9 HL9 := Mo.refl _ _
                have nx212 := Nx.refl ko HL9.size
                refine LH.take 0 (by kernel_rfl) rfl (by kernel_rfl) (by kernel_rfl) (by kernel_rfl) (fun Hq hq => Y.move rfl rfl) (Wd.u rfl) rfl rfl hq55 ?_
                refine LH.take 1 (by kernel_rfl) rfl (by kernel_rfl) (by kernel_rfl) (by kernel_rfl) (fun Hq hq => Y.move rfl rfl) (Wd.u rfl) rfl rfl hq55 ?_
                refine LH.take 2 (by kernel_rfl) rfl (by kernel_rfl) (by kernel_rfl) (by kernel_rfl) (fun Hq hq => Y.move rfl rfl) (Wd.u rfl) rfl rfl hq55 ?_
                refine LH.take 3 (by kernel_rfl) rfl (by kernel_rfl) (by kernel_rfl) (by kernel_rfl) (fun Hq hq => Y.owAddr (og.upL hq (DL.cons dj205 DL.nil)) (i) rfl Try.runUnderlying26 Try.sizeOf35 rfl rfl (by first | rfl | omega) (by first | omega | (simp; omega) | (simp; done))) (Wd.u rfl) rfl rfl hq55 ?_
                refine LH.take 4 (by kernel_rfl) rfl (by kernel_rfl) (by kernel_rfl) (by kernel_rfl) (fun Hq hq => Y.fieldAddr ((og.upL hq (DL.cons dj205 DL.nil)).pt (j := i) (by first | omega | (simp; omega) | (simp; done))) rfl Try.runUnderlying35 rfl rfl Try.sizeOf9 (by decide) rfl) (Wd.u rfl) rfl rfl hq55 ?_
                refine LH.take 5 (by kernel_rfl) rfl (by kernel_rfl) (by kernel_rfl) (by kernel_rfl) (fun Hq hq => Y.load1 (((og.upL hq (DL.cons dj205 DL.nil)).pt (j := i) (by first | omega | (simp; omega) | (simp; done))).drop 0) rfl Try.isAgg9 rfl) (Wd.u rfl) rfl rfl hq55 ?_
                refine LH.take 6 (by kernel_rfl) rfl (by kernel_rfl) (by kernel_rfl) (by kernel_rfl) (fun Hq hq => Y.move rfl rfl) (Wd.u rfl) rfl rfl hq55 ?_
                refine LH.take 7 (by kernel_rfl) rfl (by kernel_rfl) (by kernel_rfl) (by kernel_rfl) (fun Hq hq => Y.move rfl rfl) (Wd.u rfl) rfl rfl hq55 ?_
                refine LH.take 8 (by kernel_rfl) rfl (by kernel_rfl) (by kernel_rfl) (by kernel_rfl) (fun Hq hq => Y.move rfl rfl) (Wd.u rfl) rfl rfl hq55 ?_
                refine LH.take 9 (by kernel_rfl) rfl (by kernel_rfl) (by kernel_rfl) (by kernel_rfl) (fun Hq hq => Y.owAddr (ot.upL hq (DL.cons dj208 DL.nil)) (i) rfl Try.runUnderlying39 Try.sizeOf3 rfl rfl (by first | rfl | omega) (by first | omega | (simp; omega) | (simp; done))) (Wd.u rfl) rfl rfl hq55 ?_
                refine LH.take 10 (by kernel_rfl) rfl (by kernel_rfl) (by kernel_rfl) (by kernel_rfl) (fun Hq hq => Y.load1 ((ot.upL hq (DL.cons dj208 DL.nil)).pt (j := i) (by first | omega | (simp; omega) | (simp; done))) rfl Try.isAgg3 rfl) (Wd.u rfl) rfl rfl hq55 ?_
                refine LH.take 11 (by kernel_rfl) rfl (by kernel_rfl) (by kernel_rfl) (by kernel_rfl) (fun Hq hq => Y.subi rfl rfl rfl (by omega)) (Wd.u rfl) rfl rfl hq55 ?_
                refine LH.take 12 (by kernel_rfl) rfl (by kernel_rfl) (by kernel_rfl) (by kernel_rfl) (fun Hq hq => Y.owAddr (oc.upL hq (DL.cons dj206 DL.nil)) (q) rfl Try.runUnderlying26 Try.sizeOf35 rfl rfl (by omega) (by first | omega | (simp; omega) | (simp; done))) (Wd.u rfl) rfl rfl hq55 ?_
                refine LH.take 13 (by kernel_rfl) rfl (by kernel_rfl) (by kernel_rfl) (by kernel_rfl) (fun Hq hq => Y.fieldAddr ((oc.upL hq (DL.cons dj206 DL.nil)).pt (j := q) (by first | omega | (simp; omega) | (simp; done))) rfl Try.runUnderlying35 rfl rfl Try.sizeOf9 (by decide) rfl) (Wd.u rfl) rfl rfl hq55 ?_
                refine LH.take 14 (by kernel_rfl) rfl (by kernel_rfl) (by kernel_rfl) (by kernel_rfl) (fun Hq hq => Y.load1 (((oc.upL hq (DL.cons dj206 DL.nil)).pt (j := q) (by first | omega | (simp; omega) | (simp; done))).drop 0) rfl Try.isAgg9 rfl) (Wd.u rfl) rfl rfl hq55 ?_
                refine LH.take 15 (by kernel_rfl) rfl (by kernel_rfl) (by kernel_rfl) (by kernel_rfl) (fun Hq hq => Y.move rfl rfl) (Wd.u rfl) rfl rfl hq55 ?_
                refine LH.take 16 (by kernel_rfl) rfl (by kernel_rfl) (by kernel_rfl) (by kernel_rfl) (fun Hq hq => Y.move rfl rfl) (Wd.u rfl) rfl rfl hq55 ?_
                refine LH.take 17 (by kernel_rfl) rfl (by kernel_rfl) (by kernel_rfl) (by kernel_rfl) (fun Hq hq => Y.owAddr (os.upL hq (DL.cons dj207 DL.nil)) (i) rfl Try.runUnderlying39 Try.sizeOf3 rfl rfl (by first | rfl | omega) (by first | omega | (simp; omega) | (simp; done))) (Wd.u rfl) rfl rfl hq55 ?_
                refine LH.take 18 (by kernel_rfl) rfl (by kernel_rfl) (by kernel_rfl) (by kernel_rfl) (fun Hq hq => Y.load1 ((os.upL hq (DL.cons dj207 DL.nil)).pt (j := i) (by first | omega | (simp; omega) | (simp; done))) rfl Try.isAgg3 rfl) (Wd.u rfl) rfl rfl hq55 ?_
                refine LH.take 19 (by kernel_rfl) rfl (by kernel_rfl) (by kernel_rfl) (by kernel_rfl) (fun Hq hq => Y.build (v := .agg (fPr ⟨gone[i].p, come[q].p, sc3[i]⟩).toArray) rfl rfl (by intro w; kernel_rfl)) (Wd.u rfl) rfl rfl hq55 ?_
                refine LH.one (i := 20) (by kernel_rfl) ?_
                refine LO.z rfl (Z.litw _ ([(⟨gone[i].p, come[q].p, sc3[i]⟩ : Pr)]) rfl inf31 rfl rfl rfl (by decide) (by decide) fPr_len fPr_one (rfl)) (Wd.u rfl) rfl rfl (fun v300 H300 r300 => ?_)
                obtain ⟨nw300, hs300, ob300, hH300⟩ := r300
                have hzs300 : H300.size = HL9.size + 1 := by rw [hH300]; simp
                have df213 := (DF.new (bf_hl.mono hm0.size) : DF _ (HL9.size + 1))
                have df214 := (DF.new (bf_hxo.mono hm0.size) : DF _ (HL9.size + 1))
                have df215 := (DF.new (bf_hxn.mono hm0.size) : DF _ (HL9.size + 1))
                have dj216 : Dj kg (HL9.size + 1) := Dj.new og.le
                have dj217 : Dj kc (HL9.size + 1) := Dj.new oc.le
                have dj218 : Dj (H81.size + 1) (HL9.size + 1) := Dj.new os.le
                have dj219 : Dj (HL1.size + 1) (HL9.size + 1) := Dj.new ot.le
                have dj220 : Dj (H78.size + 1) (HL9.size + 1) := Dj.new ou.le
                have dj221 : Dj ko (HL9.size + 1) := Dj.new ow.le
                have nx222 : Nx 0 H0.size (HL9.size + 1) := Nx.new hm0.size
                have nx223 : Nx 0 Hcut10.size (HL9.size + 1) := Nx.new hlm9.size
                have nx224 : Nx 0 HL9.size (HL9.size + 1) := Nx.new hq55.size
                replace hl := hl.nw hs300
                replace hxo := fun c hx0 => (hxo c hx0).nw hs300
                replace hxn := fun c hx1 => (hxn c hx1).nw hs300
                replace og := og.nw hs300
                replace oc := oc.nw hs300
                replace os := os.nw hs300
                replace ot := ot.nw hs300
                replace ou := ou.nw hs300
                replace ow := ow.nw hs300
                replace hm0 := hm0.tr hs300
                replace hlm9 := hlm9.tr hs300
                replace hq55 := hq55.trN hs300
                have hz44 := hs300.size
                refine ⟨.inr hq55, LH.narrow (SH2 := fun Hq => Mo (Ms [ko, (HL9.size + 1)]) H300 Hq) (fun Hq hq => hq55.trL hq (MIL.cons (MI.app (MI.root (by simp)) (nx212) (Nat.le_refl _)) (MIL.cons (MI.app MI.z (nx224) (Nat.le_refl _)) MIL.nil))) ?_⟩
                have hq55 : Mo (Ms [ko, (HL9.size + 1)]) H300 H300 := Mo.refl _ _
                have nx225 := Nx.refl ko H300.size
                have nx226 := Nx.refl (HL9.size + 1) H300.size
                refine LH.one (i := 21) (by kernel_rfl) ?_
                refine LO.z rfl (Z.apnd ow nw300.rd rfl inf31 rfl rfl (by simp; omega) (by simp; omega)) (Wd.u rfl) rfl rfl (fun v301 H301 r301 => ?_)
                obtain ⟨k301, ow, hk301, hs301⟩ := r301
                replace hk301 : Nx ko H300.size k301 := hk301
                replace hs301 := hs301.md
                have df227 := DF.app (df202) (bf_hl.mono hm0.size) hk301
                have df228 := DF.app (df203) (bf_hxo.mono hm0.size) hk301
                have df229 := DF.app (df204) (bf_hxn.mono hm0.size) hk301
                have dj230 : Dj kg k301 := Dj.app (dj205) og.le hk301
                have dj231 : Dj kc k301 := Dj.app (dj206) oc.le hk301
                have dj232 : Dj (H81.size + 1) k301 := Dj.app (dj207) os.le hk301
                have dj233 : Dj (HL1.size + 1) k301 := Dj.app (dj208) ot.le hk301
                have dj234 : Dj (H78.size + 1) k301 := Dj.app (dj209) ou.le hk301
                have dj235 : Dj (HL9.size + 1) k301 := Dj.app (dj221.symm) nw300.le hk301
                have nx236 : Nx 0 H0.size k301 := Nx.tr (nx210) hk301 hm0.size
                have nx237 : Nx 0 Hcut10.size k301 := Nx.tr (nx211) hk301 hlm9.size
                have nx238 : Nx ko H300.size k301 := Nx.tr (nx225) hk301 hq55.size
                replace hl := hl.upL hs301 (DFL.cons df202 DFL.nil)
                replace hxo := fun c hx0 => (hxo c hx0).upL hs301 (DFL.cons df203 DFL.nil)
                replace hxn := fun c hx1 => (hxn c hx1).upL hs301 (DFL.cons df204 DFL.nil)
                replace og := og.upL hs301 (DL.cons dj205 DL.nil)
                replace oc := oc.upL hs301 (DL.cons dj206 DL.nil)
                replace os := os.upL hs301 (DL.cons dj207 DL.nil)
                replace ot := ot.upL hs301 (DL.cons dj208 DL.nil)
                replace ou := ou.upL hs301 (DL.cons dj209 DL.nil)
                replace nw300 := nw300.upL hs301 (DL.cons dj221.symm DL.nil)
                replace hm0 := (Mo.trL (ks := []) (hm0.mdn []) hs301 (MIL.cons (MI.app MI.z (nx210) (Nat.le_refl _)) MIL.nil)).nil
                replace hlm9 := (Mo.trL (ks := []) (hlm9.mdn []) hs301 (MIL.cons (MI.app MI.z (nx211) (Nat.le_refl _)) MIL.nil)).nil
                replace hq55 := hq55.trL hs301 (MIL.cons (MI.app (MI.root (by simp)) (nx225) (Nat.le_refl _)) MIL.nil)
                have hz45 := hs301.size
                have hle_ow := ow.le
                refine ⟨.inr hq55, LH.narrow (SH2 := fun Hq => Mo (Ms [k301, (HL9.size + 1)]) H301 Hq) (fun Hq hq => hq55.trL hq (MIL.cons (MI.app (MI.root (by simp)) (nx238) (Nat.le_refl _)) (MIL.cons (MI.app (MI.root (by simp)) (nx226) (Nat.le_refl _)) MIL.nil))) ?_⟩
                have hq55 : Mo (Ms [k301, (HL9.size + 1)]) H301 H301 := Mo.refl _ _
                have nx239 := Nx.refl k301 H301.size
                have nx240 := Nx.refl (HL9.size + 1) H301.size
                refine LH.take 22 (by kernel_rfl) rfl (by kernel_rfl) (by kernel_rfl) (by kernel_rfl) (fun Hq hq => Y.assign rfl rfl) (Wd.u rfl) rfl rfl hq55 ?_
                refine LH.done (by kernel_rfl) ?_
                refine hK95 _ _ ?_
                refine hK94 _ _ ?_
                refine CW.region ?_
                refine LR.v (Y.move rfl rfl) (Wd.u rfl) rfl rfl ?_
                refine LR.v (Y.addi rfl rfl rfl (by omega)) (Wd.u rfl) rfl rfl ?_
                refine LR.v (Y.assign rfl rfl) (Wd.u rfl) rfl rfl ?_
                refine LR.nil ?_
                refine QN.sub (hN91 (i + 1, v301, k301, out ++ [⟨gone[i].p, come[q].p, sc3[i]⟩]) _ ?_ ?_) ⟨rfl, rfl, rfl, rfl, rfl, (iv (by omega)), trivial⟩
                · exact ⟨(by omega), ow, by rw [outR_take hil hlt3.1 hlt3.2, if_pos (by omega), he, hcq], (by simp; omega), nx237, hlm9⟩
                · first | omega | (simp only; omega) | (simp; omega)
              ·
                refine CW.skip ?_
                refine hK95 _ _ ?_
                refine hK94 _ _ ?_
                refine CW.region ?_
                refine LR.v (Y.move rfl rfl) (Wd.u rfl) rfl rfl ?_
                refine LR.v (Y.addi rfl rfl rfl (by omega)) (Wd.u rfl) rfl rfl ?_
                refine LR.v (Y.assign rfl rfl) (Wd.u rfl) rfl rfl ?_
                refine LR.nil ?_
                refine QN.sub (hN91 (i + 1, vo, ko, out) _ ?_ ?_) ⟨rfl, rfl, rfl, rfl, rfl, (iv (by omega)), trivial⟩
                · exact ⟨(by omega), ow, by rw [outR_take hil hlt3.1 hlt3.2, if_neg (by omega), he, List.append_nil], (by omega), nx211, hlm9⟩
                · first | omega | (simp only; omega) | (simp; omega)
            ·
              have hi5 : i = gone.length := by omega
              rw [hi5, List.take_length, List.take_of_length_le (by omega), List.take_of_length_le (by omega)] at he
              rw [← hg, ← hc] at hL hP he
              have hdp := det_of hL hS hP hasc
              rw [he] at hdp
              refine CW.exit (hE92 (.exit 16) nofun _ _ (hE91 (.exit 16) nofun _ _ (hX90 _ _ ?_)))
              refine hK88 _ _ ?_
              refine CW.seq (fun K97 hK97 hE97 => ?_)
              refine CW.region ?_
              refine LR.v (Y.move rfl rfl) (Wd.u rfl) rfl rfl ?_
              refine LR.v (Y.assign rfl rfl) (Wd.u rfl) rfl rfl ?_
              refine LR.nil ?_
              refine hK97 _ _ ?_
              refine CW.ret (hret .ret (.inr rfl) _ _ _ (res1 rfl rfl) ?_)
              exact ⟨vo, ko, out, rfl, ow, nx210, hdp, hm0⟩

end Go.Proofs.Ytclhnkmkejijjaa.RenU
