/-
  The disk: a crash.
-/
import Derived.Test.YtfbfjhppppoilaaDoorSimN
namespace Go.Proofs.YtfbfjhppppoilaaDoor.SimP
open Go.Proofs.YtfbfjhppppoilaaDoor.E Go.RowKit Go.Proofs.YtfbfjhppppoilaaDoor.SimA Go.Proofs.YtfbfjhppppoilaaDoor.SimB Go.Proofs.YtfbfjhppppoilaaDoor.SimC Go.Proofs.YtfbfjhppppoilaaDoor.SimD Go.Proofs.YtfbfjhppppoilaaDoor.SimE Go.Proofs.YtfbfjhppppoilaaDoor.SimF Go.Proofs.YtfbfjhppppoilaaDoor.SimG Go.Proofs.YtfbfjhppppoilaaDoor.SimH Go.Proofs.YtfbfjhppppoilaaDoor.SimI Go.Proofs.YtfbfjhppppoilaaDoor.SimJ Go.Proofs.YtfbfjhppppoilaaDoor.SimK Go.Proofs.YtfbfjhppppoilaaDoor.SimL Go.Proofs.YtfbfjhppppoilaaDoor.SimM Go.Proofs.YtfbfjhppppoilaaDoor.SimN
set_option maxRecDepth 20000
set_option linter.unusedVariables false
set_option linter.unusedSimpArgs false
set_option linter.unusedSectionVars false
set_option maxHeartbeats 8000000 in
theorem crash_ct (K : List Nat) (g : Gh) (b : Nat) (D : Dk) (G : Nat → Prop) (pv : SV) (picks : List Int) (w0 : World) (H0 : Heap)
    (hf : PDk K g H0 b D) (hpk : Rd G H0 fI 1 pv.v picks) (bf_hpk : BF G H0.size) (dpkK : DFL G K) (hB : Bd 274877906944 D) (hwy : ∀ i, waysF (fget D.fs i).w ≤ 2305843009213693952) (hpw : ∀ x ∈ picks, -9223372036854775808 ≤ x ∧ x ≤ 9223372036854775807) :
    Ct Tryd.prog w0 25 #[ptr b, pv.v] H0 (fun r H2 => ∃ K2 : List Nat, ∃ g2 : Gh, r = .int .i64 ((D.crashA picks).2 : Int) ∧ (PDk K2 g2 H2 b (D.crash picks)) ∧ (NxK K H0.size K2) ∧ Mo (Ms K) H0 H2) := by
  refine Ct.enter (args := [ptr b, pv.v]) Tryd.func25 rfl rfl rfl ?_
  intro Q0 hret
  have hm0 : Mo (Ms K) H0 H0 := Mo.refl _ _
  have nx_hm0_hf := NxK.refl K H0.size
  have hbk_hf := hf.bk
  have habs0 := hf.abs
  have hdm0 := hf.dml
  have hop0 := hB.op
  have hmn0 := hf.hm.mo.nodup
  have hlg0 := hB.lg
  have hsl0 := hB.sl
  have hcl0 := crashN_len D picks
  refine CW.seq (fun K1 hK1 hE1 => ?_)
  refine CW.region ?_
  refine LR.v (Y.assign rfl rfl) (Wd.u rfl) rfl rfl ?_
  refine LR.nil ?_
  refine hK1 _ _ ?_
  refine CW.seq (fun K2 hK2 hE2 => ?_)
  refine CW.region ?_
  refine LR.v (Y.move rfl rfl) (Wd.u rfl) rfl rfl ?_
  refine LR.v (Y.build (v := .agg #[pv.v, .int .i64 ((0 : Nat) : Int)]) rfl rfl (by intro w; kernel_rfl)) (Wd.u rfl) rfl rfl ?_
  refine LR.z (Z.boxv rfl rfl) (Wd.u rfl) rfl rfl (fun v20 H20 r20 => ?_)
  obtain ⟨rfl, hp, hs20, ob20, hH20⟩ := r20
  have hzs20 : H20.size = H0.size + 1 := by rw [hH20]; simp
  have dj1 : DL (H0.size + 1) K := DL.newK hf.bk
  have df2 := (DF.new (bf_hpk.mono hm0.size) : DF _ (H0.size + 1))
  have nx3 : Nx 0 H0.size (H0.size + 1) := Nx.new hm0.size
  replace hf := hf.nw hs20
  replace hpk := hpk.nw hs20
  replace hm0 := hm0.trN hs20
  have hz1 := hs20.size
  replace hp : Var 89 H20 H0.size ([pv.v, .int .i64 ((0 : Nat) : Int)]) := hp
  refine LR.v (Y.assign rfl rfl) (Wd.u rfl) rfl rfl ?_
  refine LR.nil ?_
  refine hK2 _ _ ?_
  refine CW.seq (fun K3 hK3 hE3 => ?_)
  refine CW.region ?_
  refine LR.v (Y.move rfl rfl) (Wd.u rfl) rfl rfl ?_
  refine LR.v (Y.nilCheck rfl rfl) (Wd.u rfl) rfl rfl ?_
  refine LR.v (Y.fieldAddr hf.vb.pt rfl Tryd.runUnderlying64 rfl rfl Tryd.sizeOf57 (by decide) rfl) (Wd.u rfl) rfl rfl ?_
  refine LR.v (Y.load1 (hf.vb.pt.drop 2) rfl Tryd.isAgg57 rfl) (Wd.u rfl) rfl rfl ?_
  have hmo := hf.hm
  have hlt_hmo := hmo.lt
  -- call maps.Keys[map[string]*selvage/simfs.directory,string,*selvage/simfs.directory]
  refine LR.call rfl Tryd.call42 rfl (Wd.u rfl) rfl rfl (keysD g.mb w0 _) (fun v25 H25 r25 => ?_)
  obtain ⟨bx, rfl, hx, hkx, hs25⟩ := r25
  have dj4 : DL (bx + 1) K := DL.app2 (DL.zK) hf.bk hkx
  have df5 := DF.app (DF.z) (bf_hpk.mono hm0.size) hkx
  have dj6 : Dj (H0.size + 1) (bx + 1) := Dj.app (Dj.z) hp.lt hkx
  have dj7 : Dj (g.mb + 1) (bx + 1) := Dj.app (Dj.z) hmo.lt hkx
  have nx8 : Nx 0 H0.size (bx + 1) := Nx.tr (Nx.refl 0 _) hkx hm0.size
  replace hf := hf.nw hs25
  replace hpk := hpk.nw hs25
  replace hp := hp.nw hs25
  replace hmo := hmo.nw hs25
  replace hm0 := hm0.trN hs25
  have hz2 := hs25.size
  have hle_hx := hx.le
  -- call slices.Sorted[string]
  refine LR.call rfl Tryd.call41 rfl (Wd.u rfl) rfl rfl (sortedD bx g.mb ptr g.dm w0 _ hx hmo (by omega)) (fun v26 H26 r26 => ?_)
  obtain ⟨s26, k26, L, rfl, ows, hk26, hL, hs26⟩ := r26
  have dj9 : DL k26 K := DL.app2 (DL.zK) hf.bk hk26
  have df10 := DF.app (DF.z) (bf_hpk.mono hm0.size) hk26
  have dj11 : Dj (H0.size + 1) k26 := Dj.app (Dj.z) hp.lt hk26
  have dj12 : Dj (g.mb + 1) k26 := Dj.app (Dj.z) hmo.lt hk26
  have dj13 : Dj (bx + 1) k26 := Dj.app (Dj.z) hx.le hk26
  have nx14 : Nx 0 H0.size k26 := Nx.tr (Nx.refl 0 _) hk26 hm0.size
  replace hf := hf.nw hs26
  replace hpk := hpk.nw hs26
  replace hp := hp.nw hs26
  replace hmo := hmo.nw hs26
  replace hx := hx.nw hs26
  replace hm0 := hm0.trN hs26
  have hz3 := hs26.size
  have hle_ows := ows.le
  have hLn := rise_nodup hL.1
  have hLl := nodup_le hLn (fun k hk => (hL.2 k).1 hk)
  rw [List.length_map] at hLl
  have hno : ∀ q, q ∉ L → mget g.dm q = none := fun q hq => by
    cases hm : mget g.dm q with
    | none => rfl
    | some x => exact absurd ((hL.2 q).2 (isSome_iff_key.1 (by rw [hm]; rfl))) hq
  refine LR.v (Y.assign rfl rfl) (Wd.u rfl) rfl rfl ?_
  refine LR.nil ?_
  refine hK3 _ _ ?_
  refine CW.seq (fun K4 hK4 hE4 => ?_)
  refine CW.seq (fun K5 hK5 hE5 => ?_)
  refine CW.region ?_
  refine LR.v (Y.move rfl rfl) (Wd.u rfl) rfl rfl ?_
  refine LR.v (Y.len ows.rd rfl Tryd.runUnderlying42 rfl) (Wd.u rfl) rfl rfl ?_
  refine LR.v (Y.move rfl rfl) (Wd.u rfl) rfl rfl ?_
  refine LR.nil ?_
  refine hK5 _ _ ?_
  refine CW.block (fun K6 hK6 hX6 hE6 => ?_)
  refine CW.loop (fun (s_ : (Nat) × (List Nat) × (Gh) × (Dk) × (Nat)) => match s_ with | (i, K1, g1, Di, a1) => [(0, ptr b), (5, .pointer (some ⟨H0.size, 0, none⟩)), (6, s26.v), (27, s26.v), (28, .int .i64 (L.length : Int)), (29, .int .i64 (i : Int))])
    (fun (s_ : (Nat) × (List Nat) × (Gh) × (Dk) × (Nat)) (H : Heap) => match s_ with | (i, K1, g1, Di, a1) => (PDk K1 g1 H b Di) ∧ (Var 89 H H0.size [pv.v, .int .i64 (a1 : Int)]) ∧ (i ≤ L.length) ∧ (Mid picks D Di (L.take i)) ∧ (a1 = ((L.take i).foldl (crashD picks D) (D.stays, 0)).2) ∧ (g1.fb = g.fb ∧ g1.dm = g.dm) ∧ (NxK K H26.size K1) ∧ (DL (H0.size + 1) K1) ∧ Mo (Ms (K ++ [(H0.size + 1)])) H26 H)
    (fun (s_ : (Nat) × (List Nat) × (Gh) × (Dk) × (Nat)) => match s_ with | (i, K1, g1, Di, a1) => L.length - i) (0, K, g, D, 0) ⟨rfl, rfl, rfl, rfl, rfl, rfl, trivial⟩ ?_ ?_
  ·
    exact ⟨hf, hp, (by omega), Mid.start hB.an hB.ast, rfl, ⟨rfl, rfl⟩, NxK.refl _ _, dj1, Mo.refl _ _⟩
  rintro ⟨i, K1, g1, Di, a1⟩ HL1 hI1 K7 hN7 hE7
  obtain ⟨hf, hp, hi, hM, ha, hg1, nxl_hf, dj_hf_hp, hlm1⟩ := hI1
  have df15 := DFL.appK (dpkK) (bf_hpk.mono hm0.size) nxl_hf
  have dj16 : DL (bx + 1) K1 := DL.appK (dj4) hx.le nxl_hf
  have dj17 : DL k26 K1 := DL.appK (dj9) ows.le nxl_hf
  have nx18 : NxK K H0.size K1 := NxK.tr (nx_hm0_hf) nxl_hf hm0.size
  replace hpk := hpk.upL hlm1 (DFL.app dpkK (DFL.cons df2 DFL.nil))
  -- LOST hmo
  replace hx := hx.upL hlm1 (DL.app dj4 (DL.cons dj6.symm DL.nil))
  replace ows := ows.upL hlm1 (DL.app dj9 (DL.cons dj11.symm DL.nil))
  replace hm0 := hm0.trL hlm1 (MIL.app (MIL.ofK (nx_hm0_hf) (by intro k hk; simp [hk])) (MIL.cons (MI.app MI.z (nx3) (Nat.le_refl _)) MIL.nil))
  have hz4 := hlm1.size
  have hbk_hf := hf.bk
  have dj19 := dj_hf_hp
  have nx20 := nxl_hf
  have nx_hlm1_hp := Nx.refl (H0.size + 1) H26.size
  have hal := crashD_at picks D (L.take i) (D.stays, 0)
  rw [← ha, List.length_take] at hal
  simp only at hal
  refine CW.seq (fun K8 hK8 hE8 => ?_)
  refine CW.region ?_
  refine LR.v (Y.lss rfl rfl rfl) (Wd.u rfl) rfl rfl ?_
  refine LR.nil ?_
  refine hK8 _ _ ?_
  refine CW.seq (fun K9 hK9 hE9 => ?_)
  refine CW.condp rfl (fun c30 => ?_) (fun c30 => ?_)
  ·
    have hil : i < L.length := by omega
    have hni : L[i] ∉ L.take i := fun hq => by
      have h9 := hLn
      rw [← List.take_append_drop i L, List.nodup_append] at h9
      exact h9.2.2 _ hq _ (by rw [List.drop_eq_getElem_cons hil]; exact List.mem_cons_self) rfl
    have hst := hM.step hni hB.ld
    have hmem_db : L[i] ∈ g.dm.map (·.1) := (hL.2 _).1 (List.getElem_mem hil)
    obtain ⟨db, hdb⟩ : ∃ db, mget g.dm L[i] = some db := by
      rw [← isSome_iff_key] at hmem_db
      cases hq : mget g.dm L[i] with
      | none => rw [hq] at hmem_db; cases hmem_db
      | some db => exact ⟨db, rfl⟩
    have hdb1 : mget g1.dm L[i] = some db := by rw [hg1.2]; exact hdb
    have hchl : (Di.chgs L[i]).length ≤ D.log.length := by rw [hM.ch, if_neg hni]; exact List.length_filter_le _ _
    refine CW.skip ?_
    refine hK9 _ _ ?_
    refine CW.seq (fun K10 hK10 hE10 => ?_)
    refine CW.block (fun K11 hK11 hX11 hE11 => ?_)
    refine CW.seq (fun K12 hK12 hE12 => ?_)
    refine CW.region ?_
    refine LR.v (Y.owAddr ows (i) rfl Tryd.runUnderlying42 Tryd.sizeOf9 rfl rfl (by first | rfl | omega) (by first | omega | (simp; omega) | (simp; done))) (Wd.u rfl) rfl rfl ?_
    refine LR.v (Y.load1 (ows.pt (j := i) (by first | omega | (simp; omega) | (simp; done))) rfl Tryd.isAgg9 rfl) (Wd.u rfl) rfl rfl ?_
    refine LR.v (Y.assign rfl rfl) (Wd.u rfl) rfl rfl ?_
    refine LR.nil ?_
    refine hK12 _ _ ?_
    refine CW.seq (fun K13 hK13 hE13 => ?_)
    obtain ⟨nbB, sbB, kcB, svB, nmB, smB, hdB⟩ := hf.dirs _ db hdb1
    have hop : Mo (Ms [(db + 1), (sbB + 1), kcB, (H0.size + 1)]) HL1 HL1 := Mo.refl _ _
    have km21 : KM K1 (db + 1) := (hf.km1 hdB.rd (by simp))
    have vd := hdB.vd
    have hlt_vd := vd.lt
    have df22 := DFL.at (df15) km21
    have dj23 : Dj (bx + 1) (db + 1) := DL.at (dj16) km21
    have dj24 : Dj k26 (db + 1) := DL.at (dj17) km21
    have dj25 : Dj (H0.size + 1) (db + 1) := DL.at (dj19) km21
    have nx26 : MI K H0.size (db + 1) := MIL.at (MIL.ofK (nx18) (by intro k hk; simp [hk])) km21
    have nx27 : MI (K ++ [(H0.size + 1)]) H26.size (db + 1) := MIL.at (MIL.ofK (nx20) (by intro k hk; simp [hk])) km21
    have nx28 := Nx.refl (db + 1) HL1.size
    have km29 : KM K1 (sbB + 1) := (hf.km1 hdB.rs (by simp))
    have hsm := hdB.hs
    have hlt_hsm := hsm.lt
    have df30 := DFL.at (df15) km29
    have dj31 : Dj (bx + 1) (sbB + 1) := DL.at (dj16) km29
    have dj32 : Dj k26 (sbB + 1) := DL.at (dj17) km29
    have dj33 : Dj (H0.size + 1) (sbB + 1) := DL.at (dj19) km29
    have nx34 : MI K H0.size (sbB + 1) := MIL.at (MIL.ofK (nx18) (by intro k hk; simp [hk])) km29
    have nx35 : MI (K ++ [(H0.size + 1)]) H26.size (sbB + 1) := MIL.at (MIL.ofK (nx20) (by intro k hk; simp [hk])) km29
    have nx36 := Nx.refl (sbB + 1) HL1.size
    have km37 : KM K1 kcB := (hf.km hdB.rc (by simp))
    have hcr := hdB.hc
    have hle_hcr := hcr.le
    have df38 := DFL.at (df15) km37
    have dj39 : Dj (bx + 1) kcB := DL.at (dj16) km37
    have dj40 : Dj k26 kcB := DL.at (dj17) km37
    have dj41 : Dj (H0.size + 1) kcB := DL.at (dj19) km37
    have nx42 : MI K H0.size kcB := MIL.at (MIL.ofK (nx18) (by intro k hk; simp [hk])) km37
    have nx43 : MI (K ++ [(H0.size + 1)]) H26.size kcB := MIL.at (MIL.ofK (nx20) (by intro k hk; simp [hk])) km37
    have nx44 := Nx.refl kcB HL1.size
    have nx45 := Nx.refl (H0.size + 1) HL1.size
    have dj46 : Dj (db + 1) (sbB + 1) := dj_r (r1_ hdB.rd) (r1_ hdB.rs) (by simp)
    have dj47 : Dj (db + 1) kcB := dj_r (r1_ hdB.rd) hdB.rc (by simp)
    have dj48 : Dj (sbB + 1) kcB := dj_r (r1_ hdB.rs) hdB.rc (by simp)
    refine CW.region ?_
    refine LR.v (Y.move rfl rfl) (Wd.u rfl) rfl rfl ?_
    refine LR.v (Y.nilCheck rfl rfl) (Wd.u rfl) rfl rfl ?_
    refine LR.v (Y.fieldAddr hf.vb.pt rfl Tryd.runUnderlying64 rfl rfl Tryd.sizeOf57 (by decide) rfl) (Wd.u rfl) rfl rfl ?_
    refine LR.v (Y.load1 (hf.vb.pt.drop 2) rfl Tryd.isAgg57 rfl) (Wd.u rfl) rfl rfl ?_
    refine LR.v (Y.move rfl rfl) (Wd.u rfl) rfl rfl ?_
    refine LR.v (Y.cast (v2 := ptr db) (look_p adO hf.hm.mo (fun _ => rfl) keyStr rfl Tryd.runUnderlying57 Tryd.underlying9 Tryd.zeroValue77 rfl rfl) (by rw [hdb1]; rfl)) (Wd.u rfl) rfl rfl ?_
    refine LR.v (Y.assign rfl rfl) (Wd.u rfl) rfl rfl ?_
    refine LR.nil ?_
    refine hK13 _ _ ?_
    refine CW.cut (fun (s_ : (Nms) × (Nat)) => match s_ with | (m3, a2) => [(0, ptr b), (5, .pointer (some ⟨H0.size, 0, none⟩)), (6, s26.v), (9, ptr db), (27, s26.v), (28, .int .i64 (L.length : Int)), (29, .int .i64 (i : Int))])
      (fun (s_ : (Nms) × (Nat)) (H : Heap) => match s_ with | (m3, a2) => (Mp H Str (fvl g1.fb) sbB m3) ∧ (Var 89 H H0.size [pv.v, .int .i64 (a2 : Int)]) ∧ (∀ q, mget m3 q = if dirP q = L[i] then mget (crashD picks Di (Di.stays, a1) L[i]).1 q else none) ∧ (a2 = (crashD picks Di (Di.stays, a1) L[i]).2) ∧ Mo (Ms [(sbB + 1), (H0.size + 1)]) HL1 H) (fun K14 hK14 hE14 => ?_) ?_
    ·
      have hcm14 : Mo (Ms [(sbB + 1), (H0.size + 1)]) HL1 HL1 := Mo.refl _ _
      have nx_hcm14_hsm := Nx.refl (sbB + 1) HL1.size
      have nx_hcm14_hp := Nx.refl (H0.size + 1) HL1.size
      refine CW.seq (fun K15 hK15 hE15 => ?_)
      refine CW.region ?_
      refine LR.v (Y.move rfl rfl) (Wd.u rfl) rfl rfl ?_
      refine LR.v (Y.nilCheck rfl rfl) (Wd.u rfl) rfl rfl ?_
      refine LR.v (Y.fieldAddr vd.pt rfl Tryd.runUnderlying84 rfl rfl Tryd.sizeOf82 (by decide) rfl) (Wd.u rfl) rfl rfl ?_
      refine LR.v (Y.load1 (vd.pt.drop 2) rfl Tryd.isAgg82 rfl) (Wd.u rfl) rfl rfl ?_
      refine LR.v (Y.len hcr.rd rfl Tryd.runUnderlying82 rfl) (Wd.u rfl) rfl rfl ?_
      refine LR.v (Y.gtr rfl rfl rfl) (Wd.u rfl) rfl rfl ?_
      refine LR.nil ?_
      refine hK15 _ _ ?_
      refine CW.condp rfl (fun c44 => ?_) (fun c44 => ?_)
      ·
        refine CW.seq (fun K16 hK16 hE16 => ?_)
        refine CW.region_any (fun Hq => Mo (Ms [(H0.size + 1)]) HL1 Hq) [] rfl ?_
        have hq8 : Mo (Ms [(H0.size + 1)]) HL1 HL1 := Mo.refl _ _
        have nx49 := Nx.refl (H0.size + 1) HL1.size
        refine LH.take 0 (by kernel_rfl) rfl (by kernel_rfl) (by kernel_rfl) (by kernel_rfl) (fun Hq hq => Y.move rfl rfl) (Wd.u rfl) rfl rfl hq8 ?_
        refine LH.take 1 (by kernel_rfl) rfl (by kernel_rfl) (by kernel_rfl) (by kernel_rfl) (fun Hq hq => Y.nilCheck rfl rfl) (Wd.u rfl) rfl rfl hq8 ?_
        refine LH.take 2 (by kernel_rfl) rfl (by kernel_rfl) (by kernel_rfl) (by kernel_rfl) (fun Hq hq => Y.fieldAddr (vd.upL hq (DL.cons dj25.symm DL.nil)).pt rfl Tryd.runUnderlying84 rfl rfl Tryd.sizeOf82 (by decide) rfl) (Wd.u rfl) rfl rfl hq8 ?_
        refine LH.take 3 (by kernel_rfl) rfl (by kernel_rfl) (by kernel_rfl) (by kernel_rfl) (fun Hq hq => Y.load1 ((vd.upL hq (DL.cons dj25.symm DL.nil)).pt.drop 2) rfl Tryd.isAgg82 rfl) (Wd.u rfl) rfl rfl hq8 ?_
        refine LH.take 4 (by kernel_rfl) rfl (by kernel_rfl) (by kernel_rfl) (by kernel_rfl) (fun Hq hq => Y.move rfl rfl) (Wd.u rfl) rfl rfl hq8 ?_
        refine LH.take 5 (by kernel_rfl) rfl (by kernel_rfl) (by kernel_rfl) (by kernel_rfl) (fun Hq hq => Y.move rfl rfl) (Wd.u rfl) rfl rfl hq8 ?_
        refine LH.take 6 (by kernel_rfl) rfl (by kernel_rfl) (by kernel_rfl) (by kernel_rfl) (fun Hq hq => Y.nilCheck rfl rfl) (Wd.u rfl) rfl rfl hq8 ?_
        refine LH.take 7 (by kernel_rfl) rfl (by kernel_rfl) (by kernel_rfl) (by kernel_rfl) (fun Hq hq => Y.fieldAddr (vd.upL hq (DL.cons dj25.symm DL.nil)).pt rfl Tryd.runUnderlying84 rfl rfl Tryd.sizeOf82 (by decide) rfl) (Wd.u rfl) rfl rfl hq8 ?_
        refine LH.take 8 (by kernel_rfl) rfl (by kernel_rfl) (by kernel_rfl) (by kernel_rfl) (fun Hq hq => Y.load1 ((vd.upL hq (DL.cons dj25.symm DL.nil)).pt.drop 2) rfl Tryd.isAgg82 rfl) (Wd.u rfl) rfl rfl hq8 ?_
        refine LH.take 9 (by kernel_rfl) rfl (by kernel_rfl) (by kernel_rfl) (by kernel_rfl) (fun Hq hq => Y.len (hcr.upL hq (DL.cons dj41.symm DL.nil)).rd rfl Tryd.runUnderlying82 rfl) (Wd.u rfl) rfl rfl hq8 ?_
        refine LH.take 10 (by kernel_rfl) rfl (by kernel_rfl) (by kernel_rfl) (by kernel_rfl) (fun Hq hq => Y.cast (v2 := .int .i64 (((Di.chgs L[i]).length + 1 : Nat) : Int)) (Y.addi (a := ((Di.chgs L[i]).length : Int)) (b := 1) rfl rfl rfl (by omega)) (ivv (by omega))) (Wd.u rfl) rfl rfl hq8 ?_
        refine LH.take 14 (by kernel_rfl) rfl (by kernel_rfl) (by kernel_rfl) (by kernel_rfl) (fun Hq hq => Y.move rfl rfl) (Wd.u rfl) rfl rfl hq8 ?_
        refine LH.one (i := 11) (by kernel_rfl) ?_
        -- call (*selvage/simfs.picker).next
        refine LO.call rfl rfl Tryd.call43 rfl (Wd.u rfl) rfl rfl (next_ct G H0.size a1 pv picks ((Di.chgs L[i]).length + 1) w0 _ hp hpk (bf_hpk.mono (by omega)) (df2) (by omega) (by omega) hpw) (fun v56 H56 r56 => ?_)
        obtain ⟨rfl, hp, hs56⟩ := r56
        replace hpk := hpk.upL hs56 (DFL.cons df2 DFL.nil)
        replace hx := hx.upL hs56 (DL.cons dj6.symm DL.nil)
        replace ows := ows.upL hs56 (DL.cons dj11.symm DL.nil)
        replace vd := vd.upL hs56 (DL.cons dj25.symm DL.nil)
        replace hsm := hsm.upL hs56 (DL.cons dj33.symm DL.nil)
        replace hcr := hcr.upL hs56 (DL.cons dj41.symm DL.nil)
        replace hm0 := hm0.trL hs56 (MIL.cons (MI.app MI.z (nx3) (Nat.le_refl _)) MIL.nil)
        replace hlm1 := hlm1.trL hs56 (MIL.cons (MI.app (MI.root (by simp)) (nx_hlm1_hp) (Nat.le_refl _)) MIL.nil)
        replace hop := hop.trL hs56 (MIL.cons (MI.app (MI.root (by simp)) (nx45) (Nat.le_refl _)) MIL.nil)
        replace hcm14 := hcm14.trL hs56 (MIL.cons (MI.app (MI.root (by simp)) (nx_hcm14_hp) (Nat.le_refl _)) MIL.nil)
        replace hq8 := hq8.trL hs56 (MIL.cons (MI.app (MI.root (by simp)) (nx49) (Nat.le_refl _)) MIL.nil)
        have hz5 := hs56.size
        obtain ⟨kk, hkk⟩ : ∃ kk, kk = pickN picks a1 ((Di.chgs L[i]).length + 1) := ⟨_, rfl⟩
        have hkl := pickN_lt picks a1 (m := (Di.chgs L[i]).length + 1) (by omega)
        rw [← hkk] at hkl
        refine ⟨.inr hq8, LH.narrow (SH2 := fun Hq => Mo (Ms [(H0.size + 1)]) H56 Hq) (fun Hq hq => hq8.trL hq (MIL.cons (MI.app (MI.root (by simp)) (nx49) (Nat.le_refl _)) MIL.nil)) ?_⟩
        have hq8 : Mo (Ms [(H0.size + 1)]) H56 H56 := Mo.refl _ _
        have nx50 := Nx.refl (H0.size + 1) H56.size
        refine LH.e (g := fun v => v) 12 (by kernel_rfl) rfl (by kernel_rfl) (by kernel_rfl) (by kernel_rfl) (Y.slice hcr.rd (0) (kk) rfl Tryd.runUnderlying82 Tryd.sizeOf96 rfl (.inl ⟨rfl, rfl⟩) (.inr ⟨_, _, _, rfl, rfl, (by rw [hkk])⟩) (by omega) (by omega)) (Wd.u rfl) rfl rfl hq8 (fun v57 rd57 => ?_)
        have bf_rd57 := BF.of hcr.le
        refine LH.take 13 (by kernel_rfl) rfl (by kernel_rfl) (by kernel_rfl) (by kernel_rfl) (fun Hq hq => Y.cast (v2 := .int .i64 (kk : Int)) (Y.len (rd57.upL hq (DFL.cons (DF.of dj41.symm) DFL.nil)) rfl Tryd.runUnderlying82 rfl) (ivv (by simp; omega))) (Wd.u rfl) rfl rfl hq8 ?_
        refine LH.done (by kernel_rfl) ?_
        refine hK16 _ _ ?_
        refine CW.block (fun K17 hK17 hX17 hE17 => ?_)
        refine CW.loop (fun (s_ : (Nat) × (Nms)) => match s_ with | (i2, m2) => [(0, ptr b), (5, .pointer (some ⟨H0.size, 0, none⟩)), (6, s26.v), (9, ptr db), (27, s26.v), (28, .int .i64 (L.length : Int)), (29, .int .i64 (i : Int)), (57, v57), (58, .int .i64 (kk : Int)), (59, .int .i64 (i2 : Int))])
          (fun (s_ : (Nat) × (Nms)) (H : Heap) => match s_ with | (i2, m2) => (Mp H Str (fvl g1.fb) sbB m2) ∧ (i2 ≤ kk) ∧ (∀ q, mget m2 q = if dirP q = L[i] then mget (apl (((Di.chgs L[i]).take kk).take i2) Di.stays) q else none) ∧ Mo (Ms [(sbB + 1)]) H56 H)
          (fun (s_ : (Nat) × (Nms)) => match s_ with | (i2, m2) => kk - i2) (0, smB) ⟨rfl, rfl, rfl, rfl, rfl, rfl, rfl, rfl, rfl, rfl, trivial⟩ ?_ ?_
        ·
          exact ⟨hsm, (by omega), fun q => hdB.es q, Mo.refl _ _⟩
        rintro ⟨i2, m2⟩ HL2 hI2 K18 hN18 hE18
        obtain ⟨hsm, hi2, hm2, hlm2⟩ := hI2
        replace hpk := hpk.upL hlm2 (DFL.cons df30 DFL.nil)
        replace hx := hx.upL hlm2 (DL.cons dj31 DL.nil)
        replace ows := ows.upL hlm2 (DL.cons dj32 DL.nil)
        replace hp := hp.upL hlm2 (DL.cons dj33 DL.nil)
        replace vd := vd.upL hlm2 (DL.cons dj46 DL.nil)
        replace hcr := hcr.upL hlm2 (DL.cons dj48.symm DL.nil)
        replace rd57 := rd57.upL hlm2 (DFL.cons (DF.of dj48.symm) DFL.nil)
        replace hm0 := hm0.trL hlm2 (MIL.cons (nx34) MIL.nil)
        replace hlm1 := hlm1.trL hlm2 (MIL.cons (nx35) MIL.nil)
        replace hop := hop.trL hlm2 (MIL.cons (MI.app (MI.root (by simp)) (nx36) (Nat.le_refl _)) MIL.nil)
        replace hcm14 := hcm14.trL hlm2 (MIL.cons (MI.app (MI.root (by simp)) (nx_hcm14_hsm) (Nat.le_refl _)) MIL.nil)
        have hz6 := hlm2.size
        have nx_hlm2_hsm := Nx.refl (sbB + 1) H56.size
        refine CW.seq (fun K19 hK19 hE19 => ?_)
        refine CW.region ?_
        refine LR.v (Y.lss rfl rfl rfl) (Wd.u rfl) rfl rfl ?_
        refine LR.nil ?_
        refine hK19 _ _ ?_
        refine CW.seq (fun K20 hK20 hE20 => ?_)
        refine CW.condp rfl (fun c60 => ?_) (fun c60 => ?_)
        ·
          have hi2l : i2 < kk := by omega
          have hi2c : i2 < ((Di.chgs L[i]).take kk).length := by rw [List.length_take]; omega
          obtain ⟨c2, hc2⟩ : ∃ c2, c2 = ((Di.chgs L[i]).take kk)[i2] := ⟨_, rfl⟩
          have hcm := chgs_mem (List.mem_of_mem_take (hc2 ▸ List.getElem_mem hi2c : c2 ∈ (Di.chgs L[i]).take kk))
          have hcl : (c2.g ≠ [] → dirP c2.g = L[i]) ∧ ∀ j, c2.f = some j → dirP c2.n = L[i] := ⟨fun hg => by rw [dir_g hg]; exact hcm.2, fun j hj => by rw [hB.ld c2 (hM.lg c2 hcm.1) j hj]; exact hcm.2⟩
          refine CW.skip ?_
          refine hK20 _ _ ?_
          refine CW.seq (fun K21 hK21 hE21 => ?_)
          refine CW.block (fun K22 hK22 hX22 hE22 => ?_)
          refine CW.seq (fun K23 hK23 hE23 => ?_)
          refine CW.region ?_
          refine LR.e (g := fun ad => .pointer (some ad)) (Y.indexAddrF rd57 (i2) rfl Tryd.runUnderlying82 Tryd.sizeOf96 rfl rfl (by first | rfl | omega) (by simp; omega)) (Wd.u rfl) rfl rfl (fun ad61 pt61 => ?_)
          have bf_pt61 := bf_rd57
          refine LR.v (Y.cast (v2 := .agg (fC g1.fb c2).toArray) (Y.loadN pt61.pt rfl Tryd.isAgg96 Tryd.sizeOf96 (fC_len _ _) rfl) (by rw [hc2]; simp)) (Wd.u rfl) rfl rfl ?_
          refine LR.z (Z.allocv rfl Tryd.zeroValue96) (Wd.u rfl) rfl rfl (fun v11 H11 r11 => ?_)
          obtain ⟨rfl, v11, hs11, ob11, hH11⟩ := r11
          have hzs11 : H11.size = HL2.size + 1 := by rw [hH11]; simp
          have df51 := (DF.new (bf_hpk.mono hm0.size) : DF _ (HL2.size + 1))
          have dj52 : Dj (bx + 1) (HL2.size + 1) := Dj.new hx.le
          have dj53 : Dj k26 (HL2.size + 1) := Dj.new ows.le
          have dj54 : Dj (H0.size + 1) (HL2.size + 1) := Dj.new hp.lt
          have dj55 : Dj (db + 1) (HL2.size + 1) := Dj.new vd.lt
          have dj56 : Dj (sbB + 1) (HL2.size + 1) := Dj.new hsm.lt
          have dj57 : Dj kcB (HL2.size + 1) := Dj.new hcr.le
          have df58 := (DF.new (bf_rd57.mono (by omega)) : DF _ (HL2.size + 1))
          have df59 := (DF.new (bf_pt61.mono (by omega)) : DF _ (HL2.size + 1))
          have nx60 : Nx 0 H0.size (HL2.size + 1) := Nx.new hm0.size
          have nx61 : Nx 0 H26.size (HL2.size + 1) := Nx.new hlm1.size
          have nx62 : Nx 0 HL1.size (HL2.size + 1) := Nx.new hop.size
          have nx63 : Nx 0 HL1.size (HL2.size + 1) := Nx.new hcm14.size
          have nx64 : Nx 0 H56.size (HL2.size + 1) := Nx.new hlm2.size
          replace hpk := hpk.nw hs11
          replace hx := hx.nw hs11
          replace ows := ows.nw hs11
          replace hp := hp.nw hs11
          replace vd := vd.nw hs11
          replace hsm := hsm.nw hs11
          replace hcr := hcr.nw hs11
          replace rd57 := rd57.nw hs11
          replace pt61 := pt61.nw hs11
          replace hm0 := hm0.trN hs11
          replace hlm1 := hlm1.trN hs11
          replace hop := hop.trN hs11
          replace hcm14 := hcm14.trN hs11
          replace hlm2 := hlm2.trN hs11
          have hz7 := hs11.size
          refine LR.s (S.var v11 (_) (fC g1.fb c2) rfl rfl rfl rfl (fC_one _ _) Tryd.sizeOf96 (fC_len _ _) (by decide) ((splice_all2 (fC_len _ _).symm))) (Wd.u rfl) rfl (fun H10_3 r10_3 => ?_)
          obtain ⟨v11, hs10_3⟩ := r10_3
          replace hs10_3 := hs10_3.md1
          replace hpk := hpk.upL hs10_3 (DFL.cons df51 DFL.nil)
          replace hx := hx.upL hs10_3 (DL.cons dj52 DL.nil)
          replace ows := ows.upL hs10_3 (DL.cons dj53 DL.nil)
          replace hp := hp.upL hs10_3 (DL.cons dj54 DL.nil)
          replace vd := vd.upL hs10_3 (DL.cons dj55 DL.nil)
          replace hsm := hsm.upL hs10_3 (DL.cons dj56 DL.nil)
          replace hcr := hcr.upL hs10_3 (DL.cons dj57 DL.nil)
          replace rd57 := rd57.upL hs10_3 (DFL.cons df58 DFL.nil)
          replace pt61 := pt61.upL hs10_3 (DFL.cons df59 DFL.nil)
          replace hm0 := hm0.trL hs10_3 (MIL.cons (MI.app MI.z (nx60) (Nat.le_refl _)) MIL.nil)
          replace hlm1 := hlm1.trL hs10_3 (MIL.cons (MI.app MI.z (nx61) (Nat.le_refl _)) MIL.nil)
          replace hop := hop.trL hs10_3 (MIL.cons (MI.app MI.z (nx62) (Nat.le_refl _)) MIL.nil)
          replace hcm14 := hcm14.trL hs10_3 (MIL.cons (MI.app MI.z (nx63) (Nat.le_refl _)) MIL.nil)
          replace hlm2 := hlm2.trL hs10_3 (MIL.cons (MI.app MI.z (nx64) (Nat.le_refl _)) MIL.nil)
          have hz8 := hs10_3.size
          refine LR.nil ?_
          refine hK23 _ _ ?_
          refine CW.region_tail 6 rfl (by kernel_rfl) (fun T11 hT11 => ?_)
          refine LR.v (Y.move rfl rfl) (Wd.u rfl) rfl rfl ?_
          refine LR.v (Y.nilCheck rfl rfl) (Wd.u rfl) rfl rfl ?_
          refine LR.v (Y.fieldAddr vd.pt rfl Tryd.runUnderlying84 rfl rfl Tryd.sizeOf81 (by decide) rfl) (Wd.u rfl) rfl rfl ?_
          refine LR.v (Y.fieldAddr vd.pt rfl Tryd.runUnderlying81 rfl rfl Tryd.sizeOf79 (by decide) rfl) (Wd.u rfl) rfl rfl ?_
          refine LR.v (Y.load1 (vd.pt.drop 1) rfl Tryd.isAgg79 rfl) (Wd.u rfl) rfl rfl ?_
          refine LR.v (Y.loadN v11.pt rfl Tryd.isAgg96 Tryd.sizeOf96 (fC_len _ _) rfl) (Wd.u rfl) rfl rfl ?_
          refine LR.nil (hT11 _ ?_)
          -- call (selvage/simfs.names).put
          refine LR.call rfl Tryd.call44 rfl (Wd.u rfl) rfl rfl (put_ct g1.fb sbB m2 c2 w0 _ hsm) (fun v69 H69 r69 => ?_)
          obtain ⟨hsm, hs69⟩ := r69
          replace hpk := hpk.upL hs69 (DFL.cons df30 DFL.nil)
          replace hx := hx.upL hs69 (DL.cons dj31 DL.nil)
          replace ows := ows.upL hs69 (DL.cons dj32 DL.nil)
          replace hp := hp.upL hs69 (DL.cons dj33 DL.nil)
          replace vd := vd.upL hs69 (DL.cons dj46 DL.nil)
          replace hcr := hcr.upL hs69 (DL.cons dj48.symm DL.nil)
          replace rd57 := rd57.upL hs69 (DFL.cons (DF.of dj48.symm) DFL.nil)
          replace v11 := v11.upL hs69 (DL.cons dj56.symm DL.nil)
          replace hm0 := hm0.trL hs69 (MIL.cons (nx34) MIL.nil)
          replace hlm1 := hlm1.trL hs69 (MIL.cons (nx35) MIL.nil)
          replace hop := hop.trL hs69 (MIL.cons (MI.app (MI.root (by simp)) (nx36) (Nat.le_refl _)) MIL.nil)
          replace hcm14 := hcm14.trL hs69 (MIL.cons (MI.app (MI.root (by simp)) (nx_hcm14_hsm) (Nat.le_refl _)) MIL.nil)
          replace hlm2 := hlm2.trL hs69 (MIL.cons (MI.app (MI.root (by simp)) (nx_hlm2_hsm) (Nat.le_refl _)) MIL.nil)
          have hz9 := hs69.size
          refine LR.nil ?_
          refine hK22 _ _ ?_
          refine hK21 _ _ ?_
          refine CW.region ?_
          refine LR.v (Y.addi rfl rfl rfl (by omega)) (Wd.u rfl) rfl rfl ?_
          refine LR.v (Y.move rfl rfl) (Wd.u rfl) rfl rfl ?_
          refine LR.nil ?_
          refine QN.sub (hN18 (i2 + 1, Chg.apM c2 m2) _ ?_ ?_) ⟨rfl, rfl, rfl, rfl, rfl, (iv (by omega)), (iv (by omega)), rfl, (iv (by omega)), (iv (by omega)), trivial⟩
          · exact ⟨hsm, (by omega), fun q => by
              rw [mget_apM, hm2, List.take_succ_eq_append_getElem hi2c, apl_app, ← hc2]
              by_cases hq : dirP q = L[i]
              · rw [if_pos hq, if_pos hq]; exact (mget_ap c2 _ q).symm
              · rw [if_neg hq, if_neg hq]; exact at_out (fun j hj => hcl.2 j hj) hcl.1 hq, hlm2⟩
          · first | omega | (simp only; omega) | (simp; omega)
        ·
          refine CW.exit (hE20 (.exit 2) nofun _ _ (hE18 (.exit 2) nofun _ _ (hX17 _ _ ?_)))
          have hne : Di.chgs L[i] ≠ [] := fun e => by rw [e] at c44; simp at c44
          have hi2e : i2 = kk := by omega
          refine QN.sub (hK14 (m2, a1 + 1) _ ?_) ⟨rfl, rfl, rfl, rfl, rfl, (iv (by omega)), (iv (by omega)), trivial⟩
          exact ⟨hsm, hp, fun q => by rw [hm2, crashD_st, hi2e, ← hkk, List.take_take, Nat.min_self], by unfold crashD; rw [if_neg hne], hcm14⟩
      ·
        refine CW.skip ?_
        have hne : Di.chgs L[i] = [] := List.eq_nil_of_length_eq_zero (by omega)
        refine QN.sub (hK14 (smB, a1) _ ?_) ⟨rfl, rfl, rfl, rfl, rfl, (iv (by omega)), (iv (by omega)), trivial⟩
        exact ⟨hsm, hp, fun q => by rw [crashD_skip hne]; exact hdB.es q, by rw [crashD_skip hne], hcm14⟩
    ·
      rintro ⟨m3, a2⟩ Hcutc44 hIcutc44
      obtain ⟨hsm, hp, hm3, ha2, hlmcutc44⟩ := hIcutc44
      replace hpk := hpk.upL hlmcutc44 (DFL.cons df30 (DFL.cons df2 DFL.nil))
      replace hx := hx.upL hlmcutc44 (DL.cons dj31 (DL.cons dj6.symm DL.nil))
      replace ows := ows.upL hlmcutc44 (DL.cons dj32 (DL.cons dj11.symm DL.nil))
      replace vd := vd.upL hlmcutc44 (DL.cons dj46 (DL.cons dj25.symm DL.nil))
      replace hcr := hcr.upL hlmcutc44 (DL.cons dj48.symm (DL.cons dj41.symm DL.nil))
      replace hm0 := hm0.trL hlmcutc44 (MIL.cons (nx34) (MIL.cons (MI.app MI.z (nx3) (Nat.le_refl _)) MIL.nil))
      replace hlm1 := hlm1.trL hlmcutc44 (MIL.cons (nx35) (MIL.cons (MI.app (MI.root (by simp)) (nx_hlm1_hp) (Nat.le_refl _)) MIL.nil))
      replace hop := hop.trL hlmcutc44 (MIL.cons (MI.app (MI.root (by simp)) (nx36) (Nat.le_refl _)) (MIL.cons (MI.app (MI.root (by simp)) (nx45) (Nat.le_refl _)) MIL.nil))
      have hz10 := hlmcutc44.size
      have nx_hlmcutc44_hsm := Nx.refl (sbB + 1) HL1.size
      have nx_hlmcutc44_hp := Nx.refl (H0.size + 1) HL1.size
      refine CW.region ?_
      refine LR.v (Y.move rfl rfl) (Wd.u rfl) rfl rfl ?_
      refine LR.v (Y.move rfl rfl) (Wd.u rfl) rfl rfl ?_
      refine LR.v (Y.move rfl rfl) (Wd.u rfl) rfl rfl ?_
      refine LR.v (Y.nilCheck rfl rfl) (Wd.u rfl) rfl rfl ?_
      refine LR.v (Y.fieldAddr vd.pt rfl Tryd.runUnderlying84 rfl rfl Tryd.sizeOf81 (by decide) rfl) (Wd.u rfl) rfl rfl ?_
      refine LR.v (Y.fieldAddr vd.pt rfl Tryd.runUnderlying81 rfl rfl Tryd.sizeOf79 (by decide) rfl) (Wd.u rfl) rfl rfl ?_
      refine LR.v (Y.load1 (vd.pt.drop 1) rfl Tryd.isAgg79 rfl) (Wd.u rfl) rfl rfl ?_
      -- call maps.Clone[selvage/simfs.names,string,*selvage/simfs.file]
      refine LR.call rfl Tryd.call40 rfl (Wd.u rfl) rfl rfl (mclone_ct sbB m3 w0 _ hsm) (fun v78 H78 r78 => ?_)
      obtain ⟨b78, rfl, hm78, hk78, hs78⟩ := r78
      have df65 := DF.app (DF.z) (bf_hpk.mono hm0.size) hk78
      have dj66 : Dj (bx + 1) (b78 + 1) := Dj.app (Dj.z) hx.le hk78
      have dj67 : Dj k26 (b78 + 1) := Dj.app (Dj.z) ows.le hk78
      have dj68 : Dj (H0.size + 1) (b78 + 1) := Dj.app (Dj.z) hp.lt hk78
      have dj69 : Dj (db + 1) (b78 + 1) := Dj.app (Dj.z) vd.lt hk78
      have dj70 : Dj (sbB + 1) (b78 + 1) := Dj.app (Dj.z) hsm.lt hk78
      have dj71 : Dj kcB (b78 + 1) := Dj.app (Dj.z) hcr.le hk78
      have nx72 : Nx 0 H0.size (b78 + 1) := Nx.tr (Nx.refl 0 _) hk78 hm0.size
      have nx73 : Nx 0 H26.size (b78 + 1) := Nx.tr (Nx.refl 0 _) hk78 hlm1.size
      have nx74 : Nx 0 HL1.size (b78 + 1) := Nx.tr (Nx.refl 0 _) hk78 hop.size
      replace hpk := hpk.nw hs78
      replace hx := hx.nw hs78
      replace ows := ows.nw hs78
      replace hp := hp.nw hs78
      replace vd := vd.nw hs78
      replace hsm := hsm.nw hs78
      replace hcr := hcr.nw hs78
      replace hm0 := hm0.trN hs78
      replace hlm1 := hlm1.trN hs78
      replace hop := hop.trN hs78
      have hz11 := hs78.size
      have hle_hm78 := hm78.le
      refine LR.v (Y.nilCheck rfl rfl) (Wd.u rfl) rfl rfl ?_
      refine LR.v (Y.fieldAddr vd.pt rfl Tryd.runUnderlying84 rfl rfl Tryd.sizeOf81 (by decide) rfl) (Wd.u rfl) rfl rfl ?_
      refine LR.v (Y.fieldAddr vd.pt rfl Tryd.runUnderlying81 rfl rfl Tryd.sizeOf79 (by decide) rfl) (Wd.u rfl) rfl rfl ?_
      refine LR.s (S.var1 vd 0 ([.map (some b78), .map (some sbB), svB.v]) rfl rfl rfl (rfl) Tryd.sizeOf79 (by simp) (rfl)) (Wd.u rfl) rfl (fun H13_11 r13_11 => ?_)
      obtain ⟨vd, hs13_11⟩ := r13_11
      replace hs13_11 := hs13_11.md1
      replace hpk := hpk.upL hs13_11 (DFL.cons df22 DFL.nil)
      replace hx := hx.upL hs13_11 (DL.cons dj23 DL.nil)
      replace ows := ows.upL hs13_11 (DL.cons dj24 DL.nil)
      replace hp := hp.upL hs13_11 (DL.cons dj25 DL.nil)
      replace hsm := hsm.upL hs13_11 (DL.cons dj46.symm DL.nil)
      replace hcr := hcr.upL hs13_11 (DL.cons dj47.symm DL.nil)
      replace hm78 := hm78.upL hs13_11 (DL.cons dj69.symm DL.nil)
      replace hm0 := hm0.trL hs13_11 (MIL.cons (nx26) MIL.nil)
      replace hlm1 := hlm1.trL hs13_11 (MIL.cons (nx27) MIL.nil)
      replace hop := hop.trL hs13_11 (MIL.cons (MI.app (MI.root (by simp)) (nx28) (Nat.le_refl _)) MIL.nil)
      have hz12 := hs13_11.size
      refine LR.v (Y.nilCheck rfl rfl) (Wd.u rfl) rfl rfl ?_
      refine LR.v (Y.fieldAddr vd.pt rfl Tryd.runUnderlying84 rfl rfl Tryd.sizeOf82 (by decide) rfl) (Wd.u rfl) rfl rfl ?_
      refine LR.s (S.var1 vd 2 ([.map (some b78), .map (some sbB), .slice none 0 0]) rfl rfl rfl (rfl) Tryd.sizeOf82 (by simp) (rfl)) (Wd.u rfl) rfl (fun H13_14 r13_14 => ?_)
      obtain ⟨vd, hs13_14⟩ := r13_14
      replace hs13_14 := hs13_14.md1
      replace hpk := hpk.upL hs13_14 (DFL.cons df22 DFL.nil)
      replace hx := hx.upL hs13_14 (DL.cons dj23 DL.nil)
      replace ows := ows.upL hs13_14 (DL.cons dj24 DL.nil)
      replace hp := hp.upL hs13_14 (DL.cons dj25 DL.nil)
      replace hsm := hsm.upL hs13_14 (DL.cons dj46.symm DL.nil)
      replace hcr := hcr.upL hs13_14 (DL.cons dj47.symm DL.nil)
      replace hm78 := hm78.upL hs13_14 (DL.cons dj69.symm DL.nil)
      replace hm0 := hm0.trL hs13_14 (MIL.cons (nx26) MIL.nil)
      replace hlm1 := hlm1.trL hs13_14 (MIL.cons (nx27) MIL.nil)
      replace hop := hop.trL hs13_14 (MIL.cons (MI.app (MI.root (by simp)) (nx28) (Nat.le_refl _)) MIL.nil)
      have hz13 := hs13_14.size
      refine LR.nil ?_
      have dj75 : DL (bx + 1) ((b78 + 1) :: K1) := (DL.cons (dj66) (dj16))
      have dj76 : DL k26 ((b78 + 1) :: K1) := (DL.cons (dj67) (dj17))
      have dj77 : DL (H0.size + 1) ((b78 + 1) :: K1) := (DL.cons (dj68) (dj19))
      have df78 : DFL _ ((b78 + 1) :: K1) := (DFL.cons (df65) (df15))
      have nx79 : NxK K H0.size ((b78 + 1) :: K1) := (NxK.cons (nx72) (nx18))
      have nx80 : NxK K H26.size ((b78 + 1) :: K1) := (NxK.cons (nx73) (nx20))
      replace hf := dcrash hf (dj19) hdb1 hdB hM.ast (fun c hc => hB.ld c (hM.lg c hc)) hop vd hsm hm78 hm3 (DL.nxK hf.bk (nx74))
      have hbk_hf := hf.bk
      refine hK11 _ _ ?_
      refine hK10 _ _ ?_
      refine CW.region ?_
      refine LR.v (Y.addi rfl rfl rfl (by omega)) (Wd.u rfl) rfl rfl ?_
      refine LR.v (Y.move rfl rfl) (Wd.u rfl) rfl rfl ?_
      refine LR.nil ?_
      refine QN.sub (hN7 (i + 1, (b78 + 1) :: K1, { g1 with ρ := uprk g1.ρ (b78 + 1) (.now L[i]) }, stepM picks Di a1 L[i], a2) _ ?_ ?_) ⟨rfl, rfl, rfl, rfl, (iv (by omega)), (iv (by omega)), trivial⟩
      · exact ⟨hf, hp, (by omega), by rw [List.take_succ_eq_append_getElem hil, ha]; exact hst.1, by rw [List.take_succ_eq_append_getElem hil, ← hst.2, ← ha]; exact ha2, hg1, nx80, dj77, hlm1⟩
      · first | omega | (simp only; omega) | (simp; omega)
  ·
    have hie : i = L.length := by omega
    rw [hie, List.take_length] at hM ha
    obtain ⟨e1, e2, e3, e4⟩ := hM.fin hL.1 (fun n hn => Classical.byContradiction (fun h => hn (habs0 n (hno n h)).2)) (fun q hq => (habs0 _ (hno _ hq)).1 q rfl) hB.ld
    have hDl : Di.now.length ≤ 549755813888 := by rw [e2]; omega
    refine CW.exit (hE9 (.exit 0) nofun _ _ (hE7 (.exit 0) nofun _ _ (hX6 _ _ ?_)))
    refine hK4 _ _ ?_
    refine CW.seq (fun K24 hK24 hE24 => ?_)
    refine CW.region ?_
    refine LR.z (Z.makeMp Str (fvl g.fb) rfl) (Wd.u rfl) rfl rfl (fun v85 H85 r85 => ?_)
    obtain ⟨rfl, hall, hs85, ob85, hH85⟩ := r85
    have hzs85 : H85.size = HL1.size + 1 := by rw [hH85]; simp
    have dj81 : DL (HL1.size + 1) K1 := DL.newK hf.bk
    have df82 := (DF.new (bf_hpk.mono hm0.size) : DF _ (HL1.size + 1))
    have dj83 : Dj (bx + 1) (HL1.size + 1) := Dj.new hx.le
    have dj84 : Dj k26 (HL1.size + 1) := Dj.new ows.le
    have dj85 : Dj (H0.size + 1) (HL1.size + 1) := Dj.new hp.lt
    have nx86 : Nx 0 H0.size (HL1.size + 1) := Nx.new hm0.size
    replace hf := hf.nw hs85
    replace hpk := hpk.nw hs85
    replace hx := hx.nw hs85
    replace ows := ows.nw hs85
    replace hp := hp.nw hs85
    replace hm0 := hm0.trN hs85
    have hz14 := hs85.size
    have hlt_hall := hall.lt
    refine LR.v (Y.assign rfl rfl) (Wd.u rfl) rfl rfl ?_
    refine LR.nil ?_
    refine hK24 _ _ ?_
    refine CW.seq (fun K25 hK25 hE25 => ?_)
    refine CW.seq (fun K26 hK26 hE26 => ?_)
    refine CW.region ?_
    refine LR.v (Y.move rfl rfl) (Wd.u rfl) rfl rfl ?_
    refine LR.v (Y.len ows.rd rfl Tryd.runUnderlying42 rfl) (Wd.u rfl) rfl rfl ?_
    refine LR.v (Y.move rfl rfl) (Wd.u rfl) rfl rfl ?_
    refine LR.nil ?_
    refine hK26 _ _ ?_
    refine CW.block (fun K27 hK27 hX27 hE27 => ?_)
    refine CW.loop (fun (s_ : (Nat) × (Nms)) => match s_ with | (i3, ma) => [(0, ptr b), (5, .pointer (some ⟨H0.size, 0, none⟩)), (12, .map (some HL1.size)), (86, s26.v), (87, .int .i64 (L.length : Int)), (88, .int .i64 (i3 : Int))])
      (fun (s_ : (Nat) × (Nms)) (H : Heap) => match s_ with | (i3, ma) => (Mp H Str (fvl g.fb) HL1.size ma) ∧ (i3 ≤ L.length) ∧ (∀ q, mget ma q = if dirP q ∈ L.take i3 then mget Di.now q else none) ∧ Mo (Ms [(HL1.size + 1)]) H85 H)
      (fun (s_ : (Nat) × (Nms)) => match s_ with | (i3, ma) => L.length - i3) (0, []) ⟨rfl, rfl, rfl, rfl, rfl, rfl, trivial⟩ ?_ ?_
    ·
      exact ⟨hall, (by omega), fun q => by simp [mget], Mo.refl _ _⟩
    rintro ⟨i3, ma⟩ HL3 hI3 K28 hN28 hE28
    obtain ⟨hall, hi3, hma, hlm3⟩ := hI3
    replace hf := hf.upL hlm3 (DKL.cons dj81 DKL.nil)
    replace hpk := hpk.upL hlm3 (DFL.cons df82 DFL.nil)
    replace hx := hx.upL hlm3 (DL.cons dj83 DL.nil)
    replace ows := ows.upL hlm3 (DL.cons dj84 DL.nil)
    replace hp := hp.upL hlm3 (DL.cons dj85 DL.nil)
    replace hm0 := hm0.trL hlm3 (MIL.cons (MI.app MI.z (nx86) (Nat.le_refl _)) MIL.nil)
    have hz15 := hlm3.size
    have nx_hlm3_hall := Nx.refl (HL1.size + 1) H85.size
    refine CW.seq (fun K29 hK29 hE29 => ?_)
    refine CW.region ?_
    refine LR.v (Y.lss rfl rfl rfl) (Wd.u rfl) rfl rfl ?_
    refine LR.nil ?_
    refine hK29 _ _ ?_
    refine CW.seq (fun K30 hK30 hE30 => ?_)
    refine CW.condp rfl (fun c89 => ?_) (fun c89 => ?_)
    ·
      have hil3 : i3 < L.length := by omega
      have hni3 : L[i3] ∉ L.take i3 := fun hq => by
        have h9 := hLn
        rw [← List.take_append_drop i3 L, List.nodup_append] at h9
        exact h9.2.2 _ hq _ (by rw [List.drop_eq_getElem_cons hil3]; exact List.mem_cons_self) rfl
      have hmem_dc : L[i3] ∈ g.dm.map (·.1) := (hL.2 _).1 (List.getElem_mem hil3)
      obtain ⟨dc, hdc⟩ : ∃ dc, mget g.dm L[i3] = some dc := by
        rw [← isSome_iff_key] at hmem_dc
        cases hq : mget g.dm L[i3] with
        | none => rw [hq] at hmem_dc; cases hmem_dc
        | some dc => exact ⟨dc, rfl⟩
      have hdb2 : mget g1.dm L[i3] = some dc := by rw [hg1.2]; exact hdc
      obtain ⟨nbC, sbC, kcC, svC, nmC, smC, hdC⟩ := hf.dirs _ dc hdb2
      refine CW.skip ?_
      refine hK30 _ _ ?_
      refine CW.seq (fun K31 hK31 hE31 => ?_)
      refine CW.block (fun K32 hK32 hX32 hE32 => ?_)
      refine CW.seq (fun K33 hK33 hE33 => ?_)
      refine CW.region ?_
      refine LR.v (Y.owAddr ows (i3) rfl Tryd.runUnderlying42 Tryd.sizeOf9 rfl rfl (by first | rfl | omega) (by first | omega | (simp; omega) | (simp; done))) (Wd.u rfl) rfl rfl ?_
      refine LR.v (Y.load1 (ows.pt (j := i3) (by first | omega | (simp; omega) | (simp; done))) rfl Tryd.isAgg9 rfl) (Wd.u rfl) rfl rfl ?_
      refine LR.v (Y.assign rfl rfl) (Wd.u rfl) rfl rfl ?_
      refine LR.nil ?_
      refine hK33 _ _ ?_
      refine CW.region ?_
      refine LR.v (Y.move rfl rfl) (Wd.u rfl) rfl rfl ?_
      refine LR.v (Y.move rfl rfl) (Wd.u rfl) rfl rfl ?_
      refine LR.v (Y.nilCheck rfl rfl) (Wd.u rfl) rfl rfl ?_
      refine LR.v (Y.fieldAddr hf.vb.pt rfl Tryd.runUnderlying64 rfl rfl Tryd.sizeOf57 (by decide) rfl) (Wd.u rfl) rfl rfl ?_
      refine LR.v (Y.load1 (hf.vb.pt.drop 2) rfl Tryd.isAgg57 rfl) (Wd.u rfl) rfl rfl ?_
      refine LR.v (Y.move rfl rfl) (Wd.u rfl) rfl rfl ?_
      refine LR.v (Y.cast (v2 := ptr dc) (look_p adO hf.hm.mo (fun _ => rfl) keyStr rfl Tryd.runUnderlying57 Tryd.underlying9 Tryd.zeroValue77 rfl rfl) (by rw [hdb2]; rfl)) (Wd.u rfl) rfl rfl ?_
      refine LR.v (Y.nilCheck rfl rfl) (Wd.u rfl) rfl rfl ?_
      refine LR.v (Y.fieldAddr hdC.vd.pt rfl Tryd.runUnderlying84 rfl rfl Tryd.sizeOf81 (by decide) rfl) (Wd.u rfl) rfl rfl ?_
      refine LR.v (Y.fieldAddr (hdC.vd.pt.drop 0) rfl Tryd.runUnderlying81 rfl rfl Tryd.sizeOf79 (by decide) rfl) (Wd.u rfl) rfl rfl ?_
      refine LR.v (Y.load1 ((hdC.vd.pt.drop 0).drop 0) rfl Tryd.isAgg79 rfl) (Wd.u rfl) rfl rfl ?_
      have hmn := (show Mp _ Str (fvl g.fb) nbC nmC from hg1.1 ▸ hdC.hn)
      have hlt_hmn := hmn.lt
      have dj87 : Dj (nbC + 1) (HL1.size + 1) := (DL.at (dj81) (hf.km1 hdC.rn (by simp))).symm
      -- call maps.Copy[selvage/simfs.names,selvage/simfs.names,string,*selvage/simfs.file]
      refine LR.call rfl Tryd.call45 rfl (Wd.u rfl) rfl rfl (copy_ct (fvl g.fb) HL1.size nbC ma nmC w0 _ hall hmn (dj87)) (fun v103 H103 r103 => ?_)
      obtain ⟨m103, rfl, hall, hm103, hs103⟩ := r103
      replace hf := hf.upL hs103 (DKL.cons dj81 DKL.nil)
      replace hpk := hpk.upL hs103 (DFL.cons df82 DFL.nil)
      replace hx := hx.upL hs103 (DL.cons dj83 DL.nil)
      replace ows := ows.upL hs103 (DL.cons dj84 DL.nil)
      replace hp := hp.upL hs103 (DL.cons dj85 DL.nil)
      replace hmn := hmn.upL hs103 (DL.cons dj87 DL.nil)
      replace hm0 := hm0.trL hs103 (MIL.cons (MI.app MI.z (nx86) (Nat.le_refl _)) MIL.nil)
      replace hlm3 := hlm3.trL hs103 (MIL.cons (MI.app (MI.root (by simp)) (nx_hlm3_hall) (Nat.le_refl _)) MIL.nil)
      have hz16 := hs103.size
      refine LR.nil ?_
      refine hK32 _ _ ?_
      refine hK31 _ _ ?_
      refine CW.region ?_
      refine LR.v (Y.addi rfl rfl rfl (by omega)) (Wd.u rfl) rfl rfl ?_
      refine LR.v (Y.move rfl rfl) (Wd.u rfl) rfl rfl ?_
      refine LR.nil ?_
      refine QN.sub (hN28 (i3 + 1, m103) _ ?_ ?_) ⟨rfl, rfl, rfl, rfl, (iv (by omega)), (iv (by omega)), trivial⟩
      · exact ⟨hall, (by omega), fun q => by
          have hmm : dirP q ∈ L.take (i3 + 1) ↔ dirP q ∈ L.take i3 ∨ dirP q = L[i3] := by rw [List.take_succ_eq_append_getElem hil3, List.mem_append, List.mem_singleton]
          rw [hm103, hdC.en, hma]
          by_cases hq : dirP q = L[i3]
          · have h9 : dirP q ∉ L.take i3 := by rw [hq]; exact hni3
            rw [if_pos hq, if_neg h9, if_pos (hmm.2 (.inr hq))]; cases mget Di.now q <;> rfl
          · rw [if_neg hq]; by_cases h9 : dirP q ∈ L.take i3
            · rw [if_pos h9, if_pos (hmm.2 (.inl h9))]
            · rw [if_neg h9, if_neg (fun h => (hmm.1 h).elim h9 hq)], hlm3⟩
      · first | omega | (simp only; omega) | (simp; omega)
    ·
      have hi3e : i3 = L.length := by omega
      rw [hi3e, List.take_length] at hma
      replace hma : ∀ q, mget ma q = mget Di.now q := fun q => by
        rw [hma]
        by_cases h : dirP q ∈ L
        · rw [if_pos h]
        · rw [if_neg h, hM.nw2 q h, ((habs0 _ (hno _ h)).1 q rfl).1]
      have hmal : ma.length ≤ Di.now.length := by
        have h9 := nodup_le (b := Di.now.map (·.1)) hall.mo.nodup (fun k hk => by rw [← isSome_iff_key] at hk ⊢; rw [← hma]; exact hk)
        rwa [List.length_map, List.length_map] at h9
      refine CW.exit (hE30 (.exit 4) nofun _ _ (hE28 (.exit 4) nofun _ _ (hX27 _ _ ?_)))
      refine hK25 _ _ ?_
      refine CW.seq (fun K34 hK34 hE34 => ?_)
      refine CW.seq (fun K35 hK35 hE35 => ?_)
      refine CW.region ?_
      refine LR.v (Y.move rfl rfl) (Wd.u rfl) rfl rfl ?_
      -- call maps.Keys[selvage/simfs.names,string,*selvage/simfs.file]
      refine LR.call rfl Tryd.call46 rfl (Wd.u rfl) rfl rfl (keysN HL1.size w0 _) (fun v106 H106 r106 => ?_)
      obtain ⟨by_, rfl, hx2, hkx2, hs106⟩ := r106
      have dj88 : DL (by_ + 1) K1 := DL.app2 (DL.zK) hf.bk hkx2
      have df89 := DF.app (DF.z) (bf_hpk.mono hm0.size) hkx2
      have dj90 : Dj (bx + 1) (by_ + 1) := Dj.app (Dj.z) hx.le hkx2
      have dj91 : Dj k26 (by_ + 1) := Dj.app (Dj.z) ows.le hkx2
      have dj92 : Dj (H0.size + 1) (by_ + 1) := Dj.app (Dj.z) hp.lt hkx2
      have dj93 : Dj (HL1.size + 1) (by_ + 1) := Dj.app (Dj.z) hall.lt hkx2
      have nx94 : Nx 0 H0.size (by_ + 1) := Nx.tr (Nx.refl 0 _) hkx2 hm0.size
      replace hf := hf.nw hs106
      replace hpk := hpk.nw hs106
      replace hx := hx.nw hs106
      replace ows := ows.nw hs106
      replace hp := hp.nw hs106
      replace hall := hall.nw hs106
      replace hm0 := hm0.trN hs106
      have hz17 := hs106.size
      have hle_hx2 := hx2.le
      -- call slices.Sorted[string]
      refine LR.call rfl Tryd.call41 rfl (Wd.u rfl) rfl rfl (sortedN by_ HL1.size (fvl g.fb) ma w0 _ hx2 hall (by omega)) (fun v107 H107 r107 => ?_)
      obtain ⟨s107, k107, P, rfl, owp, hk107, hP, hs107⟩ := r107
      have dj95 : DL k107 K1 := DL.app2 (DL.zK) hf.bk hk107
      have df96 := DF.app (DF.z) (bf_hpk.mono hm0.size) hk107
      have dj97 : Dj (bx + 1) k107 := Dj.app (Dj.z) hx.le hk107
      have dj98 : Dj k26 k107 := Dj.app (Dj.z) ows.le hk107
      have dj99 : Dj (H0.size + 1) k107 := Dj.app (Dj.z) hp.lt hk107
      have dj100 : Dj (HL1.size + 1) k107 := Dj.app (Dj.z) hall.lt hk107
      have dj101 : Dj (by_ + 1) k107 := Dj.app (Dj.z) hx2.le hk107
      have nx102 : Nx 0 H0.size k107 := Nx.tr (Nx.refl 0 _) hk107 hm0.size
      replace hf := hf.nw hs107
      replace hpk := hpk.nw hs107
      replace hx := hx.nw hs107
      replace ows := ows.nw hs107
      replace hp := hp.nw hs107
      replace hall := hall.nw hs107
      replace hx2 := hx2.nw hs107
      replace hm0 := hm0.trN hs107
      have hz18 := hs107.size
      have hle_owp := owp.le
      have hPe : P = Di.now.map (·.1) := rise_ext hP.1 hM.an.rise (fun q => by rw [hP.2, ← isSome_iff_key, ← isSome_iff_key, hma])
      have hPl : P.length = Di.now.length := by rw [hPe, List.length_map]
      refine LR.v (Y.len owp.rd rfl Tryd.runUnderlying42 rfl) (Wd.u rfl) rfl rfl ?_
      refine LR.v (Y.move rfl rfl) (Wd.u rfl) rfl rfl ?_
      refine LR.nil ?_
      refine hK35 _ _ ?_
      refine CW.block (fun K36 hK36 hX36 hE36 => ?_)
      refine CW.loop (fun (s_ : (Nat) × (List Nat) × (Gh) × (List Fdt) × (Nat)) => match s_ with | (j, K4, g4, fs4, a4) => [(0, ptr b), (5, .pointer (some ⟨H0.size, 0, none⟩)), (12, .map (some HL1.size)), (107, s107.v), (108, .int .i64 (P.length : Int)), (109, .int .i64 (j : Int))])
        (fun (s_ : (Nat) × (List Nat) × (Gh) × (List Fdt) × (Nat)) (H : Heap) => match s_ with | (j, K4, g4, fs4, a4) => (PDk K4 g4 H b { Di with fs := fs4 }) ∧ (Var 89 H H0.size [pv.v, .int .i64 (a4 : Int)]) ∧ (j ≤ P.length) ∧ ((fs4, a4) = (Di.now.take j).foldl (crashF picks) (D.fs, a1)) ∧ (g4.fb = g.fb) ∧ (NxK K1 H107.size K4) ∧ (DL (H0.size + 1) K4) ∧ Mo (Ms (K1 ++ [(H0.size + 1)])) H107 H)
        (fun (s_ : (Nat) × (List Nat) × (Gh) × (List Fdt) × (Nat)) => match s_ with | (j, K4, g4, fs4, a4) => P.length - j) (0, K1, g1, D.fs, a1) ⟨rfl, rfl, rfl, rfl, rfl, rfl, trivial⟩ ?_ ?_
      ·
        exact ⟨(by have h9 := hM.same.2.2.1; rw [← h9]; exact hf), hp, (by omega), rfl, hg1.1, NxK.refl _ _, dj19, Mo.refl _ _⟩
      rintro ⟨j, K4, g4, fs4, a4⟩ HL4 hI4 K37 hN37 hE37
      obtain ⟨hf, hp, hj, hF, hg4, nxl_hf, dj_hf_hp, hlm4⟩ := hI4
      have df103 := DFL.appK (df15) (bf_hpk.mono hm0.size) nxl_hf
      have dj104 : DL (bx + 1) K4 := DL.appK (dj16) hx.le nxl_hf
      have dj105 : DL k26 K4 := DL.appK (dj17) ows.le nxl_hf
      have dj106 : DL (HL1.size + 1) K4 := DL.appK (dj81) hall.lt nxl_hf
      have dj107 : DL (by_ + 1) K4 := DL.appK (dj88) hx2.le nxl_hf
      have dj108 : DL k107 K4 := DL.appK (dj95) owp.le nxl_hf
      have nx109 : NxK K H0.size K4 := NxK.tr (nx18) nxl_hf hm0.size
      replace hpk := hpk.upL hlm4 (DFL.app df15 (DFL.cons df2 DFL.nil))
      replace hx := hx.upL hlm4 (DL.app dj16 (DL.cons dj6.symm DL.nil))
      replace ows := ows.upL hlm4 (DL.app dj17 (DL.cons dj11.symm DL.nil))
      replace hall := hall.upL hlm4 (DL.app dj81 (DL.cons dj85.symm DL.nil))
      replace hx2 := hx2.upL hlm4 (DL.app dj88 (DL.cons dj92.symm DL.nil))
      replace owp := owp.upL hlm4 (DL.app dj95 (DL.cons dj99.symm DL.nil))
      replace hm0 := hm0.trL hlm4 (MIL.app (MIL.ofK (nx18) (by intro k hk; simp [hk])) (MIL.cons (MI.app MI.z (nx3) (Nat.le_refl _)) MIL.nil))
      have hz19 := hlm4.size
      have hbk_hf := hf.bk
      have dj110 := dj_hf_hp
      have nx111 := nxl_hf
      have nx_hlm4_hp := Nx.refl (H0.size + 1) H107.size
      have hFl := crashF_len picks (Di.now.take j) (D.fs, a1)
      have hFa := crashF_at picks (Di.now.take j) (D.fs, a1)
      have hFf := crashF_file picks D.fs (Di.now.take j) (D.fs, a1) (fun i => .inl rfl)
      rw [← hF] at hFl hFa hFf
      simp only [List.length_take] at hFl hFa hFf
      refine CW.seq (fun K38 hK38 hE38 => ?_)
      refine CW.region ?_
      refine LR.v (Y.lss rfl rfl rfl) (Wd.u rfl) rfl rfl ?_
      refine LR.nil ?_
      refine hK38 _ _ ?_
      refine CW.seq (fun K39 hK39 hE39 => ?_)
      refine CW.condp rfl (fun c110 => ?_) (fun c110 => ?_)
      ·
        have hjl : j < P.length := by omega
        have hjn : j < Di.now.length := by omega
        have hPj : P[j] = Di.now[j].1 := by simp only [hPe, List.getElem_map]
        have hgj := mget_of_mem hM.an.nodup (show (Di.now[j].1, Di.now[j].2) ∈ Di.now from List.getElem_mem hjn)
        have hid := hf.ids.1 _ _ hgj
        have hbi : g4.fb.getD Di.now[j].2 0 = g.fb.getD Di.now[j].2 0 := by rw [hg4]
        obtain ⟨nvD, svD, wvD, kwD, lwD, hfiD⟩ := hf.fil _ hid
        have hlwD : lwD.length = (fget fs4 Di.now[j].2).w.length := by have h9 := congrArg List.length hfiD.lw; rw [List.length_map] at h9; exact h9
        refine CW.skip ?_
        refine hK39 _ _ ?_
        refine CW.seq (fun K40 hK40 hE40 => ?_)
        refine CW.block (fun K41 hK41 hX41 hE41 => ?_)
        refine CW.seq (fun K42 hK42 hE42 => ?_)
        refine CW.region ?_
        refine LR.v (Y.owAddr owp (j) rfl Tryd.runUnderlying42 Tryd.sizeOf9 rfl rfl (by first | rfl | omega) (by first | omega | (simp; omega) | (simp; done))) (Wd.u rfl) rfl rfl ?_
        refine LR.v (Y.load1 (owp.pt (j := j) (by first | omega | (simp; omega) | (simp; done))) rfl Tryd.isAgg9 rfl) (Wd.u rfl) rfl rfl ?_
        refine LR.v (Y.assign rfl rfl) (Wd.u rfl) rfl rfl ?_
        refine LR.nil ?_
        refine hK42 _ _ ?_
        refine CW.seq (fun K43 hK43 hE43 => ?_)
        refine CW.region ?_
        refine LR.v (Y.move rfl rfl) (Wd.u rfl) rfl rfl ?_
        refine LR.v (Y.move rfl rfl) (Wd.u rfl) rfl rfl ?_
        refine LR.v (Y.cast (v2 := fvl g.fb Di.now[j].2) (look_p (fun i => ⟨g.fb.getD i 0, 0, none⟩) hall.mo (fun _ => rfl) keyStr rfl Tryd.runUnderlying79 Tryd.underlying9 Tryd.zeroValue68 rfl rfl) (by rw [hPj, hma, hgj]; rfl)) (Wd.u rfl) rfl rfl ?_
        refine LR.v (Y.assign rfl rfl) (Wd.u rfl) rfl rfl ?_
        refine LR.nil ?_
        refine hK43 _ _ ?_
        refine CW.seq (fun K44 hK44 hE44 => ?_)
        refine CW.region ?_
        refine LR.v (Y.move rfl rfl) (Wd.u rfl) rfl rfl ?_
        refine LR.v (Y.nilCheck rfl rfl) (Wd.u rfl) rfl rfl ?_
        refine LR.v (Y.fieldAddr (hfiD.atb hbi).pt rfl Tryd.runUnderlying76 rfl rfl Tryd.sizeOf74 (by decide) rfl) (Wd.u rfl) rfl rfl ?_
        refine LR.v (Y.load1 ((hfiD.atb hbi).pt.drop 2) rfl Tryd.isAgg74 rfl) (Wd.u rfl) rfl rfl ?_
        refine LR.v (Y.cast (v2 := .int .i64 ((fget fs4 Di.now[j].2).w.length : Int)) (Y.len hfiD.hw.rd rfl Tryd.runUnderlying74 rfl) (by rw [hlwD])) (Wd.u rfl) rfl rfl ?_
        refine LR.v (Y.gtr rfl rfl rfl) (Wd.u rfl) rfl rfl ?_
        refine LR.nil ?_
        refine hK44 _ _ ?_
        refine CW.condp rfl (fun c121 => ?_) (fun c121 => ?_)
        ·
          have hwne : (fget fs4 Di.now[j].2).w ≠ [] := fun e => by rw [e] at c121; simp at c121
          have hfe : fget fs4 Di.now[j].2 = fget D.fs Di.now[j].2 := (hFf _).resolve_right hwne
          refine CW.region ?_
          refine LR.v (Y.cast (v2 := fvl g4.fb Di.now[j].2) (Y.move rfl rfl) (by rw [hg4])) (Wd.u rfl) rfl rfl ?_
          refine LR.v (Y.move rfl rfl) (Wd.u rfl) rfl rfl ?_
          -- call (*selvage/simfs.file).lose
          refine LR.call rfl Tryd.call47 rfl (Wd.u rfl) rfl rfl (lose_ct K4 g4 b { Di with fs := fs4 } G H0.size a4 pv picks Di.now[j].2 w0 _ hf hp hpk (bf_hpk.mono (by omega)) (df2) (dj110) (df103) hid (by show (fget fs4 _).w.length ≤ _; rw [hfe]; have := hB.w Di.now[j].2; omega) (by show ∀ y ∈ (fget fs4 _).w, _; rw [hfe]; intro y hy; have := hB.wd _ y hy; omega) (by show ∀ q, (onAll ((fget fs4 _).w.take q) (fget fs4 _).stays).length ≤ _; rw [hfe]; intro q; have := hB.pf Di.now[j].2 q; omega) (by show waysF (fget fs4 _).w ≤ _; rw [hfe]; exact hwy _) (by omega) hpw) (fun v124 H124 r124 => ?_)
          have ql112 := hf.bk
          have ql113 := hx.le
          have ql114 := ows.le
          have ql115 := hall.lt
          have ql116 := hx2.le
          have ql117 := owp.le
          have ql118 := hp.lt
          obtain ⟨K124, g124, rfl, hf, hkd124, hp, hg124, hs124⟩ := r124
          have df119 := DFL.appK (df103) (bf_hpk.mono hm0.size) hkd124
          have dj120 : DL (bx + 1) K124 := DL.appK (dj104) ql113 hkd124
          have dj121 : DL k26 K124 := DL.appK (dj105) ql114 hkd124
          have dj122 : DL (HL1.size + 1) K124 := DL.appK (dj106) ql115 hkd124
          have dj123 : DL (by_ + 1) K124 := DL.appK (dj107) ql116 hkd124
          have dj124 : DL k107 K124 := DL.appK (dj108) ql117 hkd124
          have dj125 : DL (H0.size + 1) K124 := DL.appK (dj110) ql118 hkd124
          have nx126 : NxK K H0.size K124 := NxK.tr (nx109) hkd124 hm0.size
          have nx127 : NxK K1 H107.size K124 := NxK.tr (nx111) hkd124 hlm4.size
          replace hpk := hpk.upL hs124 (DFL.app df103 (DFL.cons df2 DFL.nil))
          replace hx := hx.upL hs124 (DL.app dj104 (DL.cons dj6.symm DL.nil))
          replace ows := ows.upL hs124 (DL.app dj105 (DL.cons dj11.symm DL.nil))
          replace hall := hall.upL hs124 (DL.app dj106 (DL.cons dj85.symm DL.nil))
          replace hx2 := hx2.upL hs124 (DL.app dj107 (DL.cons dj92.symm DL.nil))
          replace owp := owp.upL hs124 (DL.app dj108 (DL.cons dj99.symm DL.nil))
          replace hm0 := hm0.trL hs124 (MIL.app (MIL.ofK (nx109) (by intro k hk; simp [hk])) (MIL.cons (MI.app MI.z (nx3) (Nat.le_refl _)) MIL.nil))
          replace hlm4 := hlm4.trL hs124 (MIL.app (MIL.ofK (nx111) (by intro k hk; simp [hk])) (MIL.cons (MI.app (MI.root (by simp)) (nx_hlm4_hp) (Nat.le_refl _)) MIL.nil))
          have hz20 := hs124.size
          have hbk_hf := hf.bk
          refine LR.nil ?_
          refine hK41 _ _ ?_
          refine hK40 _ _ ?_
          refine CW.region ?_
          refine LR.v (Y.addi rfl rfl rfl (by omega)) (Wd.u rfl) rfl rfl ?_
          refine LR.v (Y.move rfl rfl) (Wd.u rfl) rfl rfl ?_
          refine LR.nil ?_
          refine QN.sub (hN37 (j + 1, K124, g124, fs4.set Di.now[j].2 ⟨wayW (fget fs4 Di.now[j].2).w (fget fs4 Di.now[j].2).stays (pickN picks a4 (waysF (fget fs4 Di.now[j].2).w)), wayW (fget fs4 Di.now[j].2).w (fget fs4 Di.now[j].2).stays (pickN picks a4 (waysF (fget fs4 Di.now[j].2).w)), []⟩, a4 + 1) _ ?_ ?_) ⟨rfl, rfl, rfl, rfl, (iv (by omega)), (iv (by omega)), trivial⟩
          · exact ⟨hf, hp, (by omega), by rw [List.take_succ_eq_append_getElem hjn, List.foldl_append, ← hF]; show _ = crashF picks (fs4, a4) Di.now[j]; unfold crashF; simp only; rw [if_neg hwne], hg124.1.trans hg4, nx127, dj125, hlm4⟩
          · first | omega | (simp only; omega) | (simp; omega)
        ·
          refine CW.skip ?_
          refine hK41 _ _ ?_
          refine hK40 _ _ ?_
          refine CW.region ?_
          refine LR.v (Y.addi rfl rfl rfl (by omega)) (Wd.u rfl) rfl rfl ?_
          refine LR.v (Y.move rfl rfl) (Wd.u rfl) rfl rfl ?_
          refine LR.nil ?_
          refine QN.sub (hN37 (j + 1, K4, g4, fs4, a4) _ ?_ ?_) ⟨rfl, rfl, rfl, rfl, (iv (by omega)), (iv (by omega)), trivial⟩
          · exact ⟨hf, hp, (by omega), by rw [List.take_succ_eq_append_getElem hjn, List.foldl_append, ← hF]; show _ = crashF picks (fs4, a4) Di.now[j]; unfold crashF; simp only; rw [if_pos (List.eq_nil_of_length_eq_zero (by omega))], hg4, nx111, dj110, hlm4⟩
          · first | omega | (simp only; omega) | (simp; omega)
      ·
        have hje : j = Di.now.length := by omega
        rw [hje, List.take_length] at hF
        have hAe : (fs4, a4) = D.crashA picks := by rw [hF]; unfold Dk.crashA; rw [e2, ha, e4]
        refine CW.exit (hE39 (.exit 6) nofun _ _ (hE37 (.exit 6) nofun _ _ (hX36 _ _ ?_)))
        refine hK34 _ _ ?_
        refine CW.seq (fun K45 hK45 hE45 => ?_)
        refine CW.region ?_
        refine LR.v (Y.move rfl rfl) (Wd.u rfl) rfl rfl ?_
        refine LR.v (Y.move rfl rfl) (Wd.u rfl) rfl rfl ?_
        refine LR.v (Y.nilCheck rfl rfl) (Wd.u rfl) rfl rfl ?_
        refine LR.v (Y.fieldAddr hf.vb.pt rfl Tryd.runUnderlying64 rfl rfl Tryd.sizeOf3 (by decide) rfl) (Wd.u rfl) rfl rfl ?_
        refine LR.s (pd_left hf 0 rfl rfl rfl Tryd.sizeOf3 (by omega)) (Wd.u rfl) rfl (fun H28_4 r28_4 => ?_)
        obtain ⟨hf, hs28_4⟩ := r28_4
        replace hpk := hpk.upL hs28_4 (df103)
        replace hx := hx.upL hs28_4 (dj104)
        replace ows := ows.upL hs28_4 (dj105)
        replace hall := hall.upL hs28_4 (dj106)
        replace hx2 := hx2.upL hs28_4 (dj107)
        replace owp := owp.upL hs28_4 (dj108)
        replace hp := hp.upL hs28_4 (dj110)
        replace hm0 := hm0.trL hs28_4 (MIL.ofK (nx109) (by intro k hk; simp [hk]))
        have hz21 := hs28_4.size
        have hbk_hf := hf.bk
        refine LR.v (Y.nilCheck rfl rfl) (Wd.u rfl) rfl rfl ?_
        refine LR.v (Y.fieldAddr hf.vb.pt rfl Tryd.runUnderlying64 rfl rfl Tryd.sizeOf4 (by decide) rfl) (Wd.u rfl) rfl rfl ?_
        refine LR.s (pd_alive hf rfl rfl rfl rfl Tryd.sizeOf4) (Wd.u rfl) rfl (fun H28_7 r28_7 => ?_)
        obtain ⟨hf, hs28_7⟩ := r28_7
        replace hpk := hpk.upL hs28_7 (df103)
        replace hx := hx.upL hs28_7 (dj104)
        replace ows := ows.upL hs28_7 (dj105)
        replace hall := hall.upL hs28_7 (dj106)
        replace hx2 := hx2.upL hs28_7 (dj107)
        replace owp := owp.upL hs28_7 (dj108)
        replace hp := hp.upL hs28_7 (dj110)
        replace hm0 := hm0.trL hs28_7 (MIL.ofK (nx109) (by intro k hk; simp [hk]))
        have hz22 := hs28_7.size
        have hbk_hf := hf.bk
        refine LR.nil ?_
        refine hK45 _ _ ?_
        refine CW.seq (fun K46 hK46 hE46 => ?_)
        refine CW.region ?_
        refine LR.v (Y.move rfl rfl) (Wd.u rfl) rfl rfl ?_
        refine LR.v (Y.nilCheck rfl rfl) (Wd.u rfl) rfl rfl ?_
        refine LR.v (Y.fieldAddr hp.pt rfl Tryd.runUnderlying89 rfl rfl Tryd.sizeOf3 (by decide) rfl) (Wd.u rfl) rfl rfl ?_
        refine LR.v (Y.load1 (hp.pt.drop 1) rfl Tryd.isAgg3 rfl) (Wd.u rfl) rfl rfl ?_
        refine LR.v (Y.assign rfl rfl) (Wd.u rfl) rfl rfl ?_
        refine LR.nil ?_
        refine hK46 _ _ ?_
        refine CW.ret (hret .ret (.inr rfl) _ _ _ (res1 rfl rfl) ?_)
        exact ⟨_, _, by rw [← hAe], by
          have h9 : (D.crash picks) = { { { Di with fs := fs4 } with left := 0 } with dead := false } := by
            unfold Dk.crash
            rw [← hAe, ← e1]
            obtain ⟨q1, q2, q3, q4, q5, q6⟩ := hM.same
            obtain ⟨c1, c2, c3, c4, c5, c6, c7, c8, c9⟩ := Di
            simp only at q1 q2 q3 q4 q5 q6 e1 e2 e3
            subst q1 q2 q4 e3
            simp only [Dk.mk.injEq, true_and, and_true]
            rw [e2, e1]
          rw [h9]; exact hf, nx109, hm0⟩

end Go.Proofs.YtfbfjhppppoilaaDoor.SimP
