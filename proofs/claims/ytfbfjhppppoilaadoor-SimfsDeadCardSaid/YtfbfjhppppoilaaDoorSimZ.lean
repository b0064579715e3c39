/-
  The disk: what was synced stays (the statement SimfsStays' function).
-/
import Derived.Test.YtfbfjhppppoilaaDoorSimY
namespace Go.Proofs.YtfbfjhppppoilaaDoor.SimZ
open Go.Proofs.YtfbfjhppppoilaaDoor.E Go.RowKit Go.Proofs.YtfbfjhppppoilaaDoor.SimA Go.Proofs.YtfbfjhppppoilaaDoor.SimB Go.Proofs.YtfbfjhppppoilaaDoor.SimC Go.Proofs.YtfbfjhppppoilaaDoor.SimD Go.Proofs.YtfbfjhppppoilaaDoor.SimE Go.Proofs.YtfbfjhppppoilaaDoor.SimF Go.Proofs.YtfbfjhppppoilaaDoor.SimG Go.Proofs.YtfbfjhppppoilaaDoor.SimH Go.Proofs.YtfbfjhppppoilaaDoor.SimI Go.Proofs.YtfbfjhppppoilaaDoor.SimJ Go.Proofs.YtfbfjhppppoilaaDoor.SimK Go.Proofs.YtfbfjhppppoilaaDoor.SimL Go.Proofs.YtfbfjhppppoilaaDoor.SimM Go.Proofs.YtfbfjhppppoilaaDoor.SimN Go.Proofs.YtfbfjhppppoilaaDoor.SimP Go.Proofs.YtfbfjhppppoilaaDoor.SimQ Go.Proofs.YtfbfjhppppoilaaDoor.SimR Go.Proofs.YtfbfjhppppoilaaDoor.SimS Go.Proofs.YtfbfjhppppoilaaDoor.SimU Go.Proofs.YtfbfjhppppoilaaDoor.SimY
set_option maxRecDepth 20000
set_option linter.unusedVariables false
set_option linter.unusedSimpArgs false
set_option linter.unusedSectionVars false

theorem tdb7 (a : Int) (h : -9223372036854775808 ≤ a ∧ a ≤ 9223372036854775807) : -9223372036854775808 ≤ a.tdiv 7 ∧ a.tdiv 7 ≤ 9223372036854775807 := by
  rcases Int.le_total 0 a with h0 | h0
  · rw [Int.tdiv_eq_ediv_of_nonneg h0]; omega
  · have e : a.tdiv 7 = -((-a).tdiv 7) := by rw [Int.neg_tdiv, Int.neg_neg]
    rw [e, Int.tdiv_eq_ediv_of_nonneg (show 0 ≤ -a by omega)]
    omega

set_option maxHeartbeats 8000000 in
theorem stays_ct (mx_ : Int) (s0 s1 s2 : SV) (data : List UInt8) (l : List Cl) (picks : List Int) (often : Int) (w0 : World) (H0 : Heap)
    (mx : MX mx_ H0) (bf_mx : BF (fun b => b = 0) H0.size) (hd : RdT H0 fB 1 s0.v data) (hl : RdT H0 fCl 6 s1.v l) (hp : RdT H0 fI 1 s2.v picks) (hx : ∀ x ∈ l, RdT H0 fB 1 x.dv.v x.d) (hci : ∀ x ∈ l, ClI x) (hof : -9223372036854775808 ≤ often ∧ often ≤ 9223372036854775807) (hpw : ∀ x ∈ picks, -9223372036854775808 ≤ x ∧ x ≤ 9223372036854775807) :
    Ct Tryd.prog w0 9 #[s0.v, s1.v, s2.v, .int .i64 often] H0 (fun r H2 => r = .bool true ∧ Nw H0 H2) := by
  refine Ct.enter (args := [s0.v, s1.v, s2.v, .int .i64 often]) Tryd.func9 rfl rfl rfl ?_
  intro Q0 hret
  have hm0 : Nw H0 H0 := Mo.refl _ _
  replace hd := hd.bnd
  have bf_hd := hd.bf
  replace hl := hl.bnd
  have bf_hl := hl.bf
  replace hp := hp.bnd
  have bf_hp := hp.bf
  replace hx := fun x hx0 => (hx x hx0).bnd
  have bf_hx : BF (fun b => True ∧ b < H0.size) H0.size := fun b h => h.2
  refine CW.seq (fun K1 hK1 hE1 => ?_)
  refine CW.region ?_
  refine LR.v (Y.assign rfl rfl) (Wd.u rfl) rfl rfl ?_
  refine LR.nil ?_
  refine hK1 _ _ ?_
  refine CW.seq (fun K2 hK2 hE2 => ?_)
  refine CW.seq (fun K3 hK3 hE3 => ?_)
  refine CW.region ?_
  -- call selvage/selvagelaw2.known
  refine LR.call rfl Tryd.call11 rfl (Wd.u rfl) rfl rfl (known_ct mx_ w0 _ mx bf_mx) (fun v17 H17 r17 => ?_)
  obtain ⟨rfl, hs17⟩ := r17
  replace mx := mx.nw hs17
  replace hd := hd.nw hs17
  replace hl := hl.nw hs17
  replace hp := hp.nw hs17
  replace hx := fun x hx0 => (hx x hx0).nw hs17
  replace hm0 := hm0.tr hs17
  have hz1 := hs17.size
  refine LR.v (Y.not rfl rfl) (Wd.u rfl) rfl rfl ?_
  refine LR.nil ?_
  refine hK3 _ _ ?_
  refine CW.cond_f rfl ?_
  refine CW.skip ?_
  refine hK2 _ _ ?_
  refine CW.seq (fun K4 hK4 hE4 => ?_)
  refine CW.region ?_
  -- call selvage/simfs.New
  refine LR.call rfl Tryd.call16 rfl (Wd.u rfl) rfl rfl (new_ct 1048576 65536 w0 _ (by decide) (by decide)) (fun v20 H20 r20 => ?_)
  obtain ⟨K20, g20, b20, rfl, hf, hkn20, hs20⟩ := r20
  have df1 := DFL.appK (DFL.nil) (bf_mx.mono hm0.size) hkn20
  have df2 := DFL.appK (DFL.nil) (bf_hd.mono hm0.size) hkn20
  have df3 := DFL.appK (DFL.nil) (bf_hl.mono hm0.size) hkn20
  have df4 := DFL.appK (DFL.nil) (bf_hp.mono hm0.size) hkn20
  have df5 := DFL.appK (DFL.nil) (bf_hx.mono hm0.size) hkn20
  have nx6 : NxK [] H0.size K20 := NxK.tr (NxK.refl [] _) hkn20 hm0.size
  replace mx := mx.nw hs20
  replace hd := hd.nw hs20
  replace hl := hl.nw hs20
  replace hp := hp.nw hs20
  replace hx := fun x hx0 => (hx x hx0).nw hs20
  replace hm0 := hm0.tr hs20
  have hz2 := hs20.size
  have hbk_hf := hf.bk
  have hS20 := Bs.empty 1048576 65536
  refine LR.v (Y.move rfl rfl) (Wd.u rfl) rfl rfl ?_
  refine LR.v (Y.extract rfl rfl rfl) (Wd.u rfl) rfl rfl ?_
  refine LR.v (Y.extract rfl rfl rfl) (Wd.u rfl) rfl rfl ?_
  refine LR.v (Y.assign rfl rfl) (Wd.u rfl) rfl rfl ?_
  refine LR.v (Y.assign rfl rfl) (Wd.u rfl) rfl rfl ?_
  refine LR.nil ?_
  refine hK4 _ _ ?_
  refine CW.seq (fun K5 hK5 hE5 => ?_)
  refine CW.seq (fun K6 hK6 hE6 => ?_)
  refine CW.region ?_
  refine LR.v (Y.move rfl rfl) (Wd.u rfl) rfl rfl ?_
  refine LR.v ((Y.neq rfl rfl rfl).isF ((fun h => h rfl))) (Wd.u rfl) rfl rfl ?_
  refine LR.v (Y.move rfl rfl) (Wd.u rfl) rfl rfl ?_
  refine LR.v (Y.move rfl rfl) (Wd.g rfl rfl rfl) rfl rfl ?_
  refine LR.v (Y.peq rfl (by kernel_rfl) (by kernel_rfl) rfl rfl) (Wd.g rfl rfl rfl) rfl rfl ?_
  refine LR.v (Y.pick_f rfl rfl rfl) (Wd.u rfl) rfl rfl ?_
  refine LR.v (Y.move rfl rfl) (Wd.u rfl) rfl rfl ?_
  refine LR.v (Y.move rfl rfl) (Wd.g rfl rfl rfl) rfl rfl ?_
  refine LR.v (Y.len hd rfl Tryd.runUnderlying25 rfl) (Wd.g rfl rfl rfl) rfl rfl ?_
  refine LR.v (Y.gtr rfl rfl rfl) (Wd.g rfl rfl rfl) rfl rfl ?_
  refine LR.v (Y.pick_f rfl rfl rfl) (Wd.u rfl) rfl rfl ?_
  refine LR.nil ?_
  refine hK6 _ _ ?_
  refine CW.condp rfl (fun c33 => ?_) (fun c33 => ?_)
  ·
    refine CW.seq (fun K7 hK7 hE7 => ?_)
    refine CW.region ?_
    refine LR.v (Y.move rfl rfl) (Wd.u rfl) rfl rfl ?_
    refine LR.v (Y.pne rfl (by kernel_rfl) (by kernel_rfl) rfl rfl) (Wd.u rfl) rfl rfl ?_
    refine LR.v (Y.assign rfl rfl) (Wd.u rfl) rfl rfl ?_
    refine LR.nil ?_
    refine hK7 _ _ ?_
    refine CW.ret (hE5 .ret nofun _ _ (hret .ret (.inr rfl) _ _ _ (res1 rfl rfl) ?_))
    exact ⟨rfl, hm0⟩
  ·
    obtain ⟨q1, q2, q3, q4⟩ := start_all (p := pK) (d := [100]) (x := data) (by decide) (by decide) (by decide) (by omega)
    refine CW.skip ?_
    refine hK5 _ _ ?_
    refine CW.seq (fun K8 hK8 hE8 => ?_)
    refine CW.seq (fun K9 hK9 hE9 => ?_)
    refine CW.region ?_
    refine LR.v (Y.move rfl rfl) (Wd.u rfl) rfl rfl ?_
    refine LR.v (Y.move rfl rfl) (Wd.u rfl) rfl rfl ?_
    -- call (*selvage/simfs.FS).Write
    refine LR.call rfl Tryd.call17 rfl (Wd.u rfl) rfl rfl (write_ct mx_ K20 g20 b20 (Dk.empty 1048576 65536) pK s0 data _ w0 _ hf mx (bf_mx.mono (by omega)) (df1) hd (bf_hd.mono (by omega)) (df2) (by decide) (hS20.bd (by omega)) (by omega)) (fun v38 H38 r38 => ?_)
    have ql7 := hf.bk
    obtain ⟨K38, g38, rfl, hf, hkd38, hs38⟩ := r38
    have df8 := DFL.appK (df1) (bf_mx.mono hm0.size) hkd38
    have df9 := DFL.appK (df2) (bf_hd.mono hm0.size) hkd38
    have df10 := DFL.appK (df3) (bf_hl.mono hm0.size) hkd38
    have df11 := DFL.appK (df4) (bf_hp.mono hm0.size) hkd38
    have df12 := DFL.appK (df5) (bf_hx.mono hm0.size) hkd38
    have nx13 : NxK [] H0.size K38 := NxK.tr (nx6) hkd38 hm0.size
    replace mx := mx.upL hs38 (df1)
    replace hd := hd.upL hs38 (df2)
    replace hl := hl.upL hs38 (df3)
    replace hp := hp.upL hs38 (df4)
    replace hx := fun x hx0 => (hx x hx0).upL hs38 (df5)
    replace hm0 := (Mo.trL (ks := []) (hm0.mdn []) hs38 (MIL.ofK0 (nx6))).nil
    have hz3 := hs38.size
    have hbk_hf := hf.bk
    have hS38 := hS20.lay pK ⟨false, data⟩
    simp only [List.length_cons, List.length_nil, Nat.zero_add, Nat.reduceAdd] at hS38
    refine LR.v ((Y.neq rfl rfl rfl).isF ((fun h => h (by rw [q1]; rfl)))) (Wd.u rfl) rfl rfl ?_
    refine LR.v (Y.move rfl rfl) (Wd.u rfl) rfl rfl ?_
    refine LR.v (Y.move rfl rfl) (Wd.g rfl rfl rfl) rfl rfl ?_
    -- call (*selvage/simfs.FS).Sync
    refine LR.call rfl Tryd.call23 rfl (Wd.g rfl rfl rfl) rfl rfl (sync_ct mx_ K38 g38 b20 ((Dk.empty 1048576 65536).lay pK ⟨false, data⟩).2 pK w0 _ hf mx (bf_mx.mono (by omega)) (df8) (by decide) (hS38.bd (by omega))) (fun v42 H42 r42 => ?_)
    have ql14 := hf.bk
    obtain ⟨K42, g42, rfl, hf, hkd42, hs42⟩ := r42
    have df15 := DFL.appK (df8) (bf_mx.mono hm0.size) hkd42
    have df16 := DFL.appK (df9) (bf_hd.mono hm0.size) hkd42
    have df17 := DFL.appK (df10) (bf_hl.mono hm0.size) hkd42
    have df18 := DFL.appK (df11) (bf_hp.mono hm0.size) hkd42
    have df19 := DFL.appK (df12) (bf_hx.mono hm0.size) hkd42
    have nx20 : NxK [] H0.size K42 := NxK.tr (nx13) hkd42 hm0.size
    replace mx := mx.upL hs42 (df8)
    replace hd := hd.upL hs42 (df9)
    replace hl := hl.upL hs42 (df10)
    replace hp := hp.upL hs42 (df11)
    replace hx := fun x hx0 => (hx x hx0).upL hs42 (df12)
    replace hm0 := (Mo.trL (ks := []) (hm0.mdn []) hs42 (MIL.ofK0 (nx13))).nil
    have hz4 := hs42.size
    have hbk_hf := hf.bk
    have hS42 := hS38.sync pK
    refine LR.v ((Y.neq rfl rfl rfl).isF ((fun h => h (by rw [q2]; rfl)))) (Wd.g rfl rfl rfl) rfl rfl ?_
    refine LR.v (Y.pick_f rfl rfl rfl) (Wd.u rfl) rfl rfl ?_
    refine LR.v (Y.move rfl rfl) (Wd.u rfl) rfl rfl ?_
    refine LR.v (Y.move rfl rfl) (Wd.g rfl rfl rfl) rfl rfl ?_
    -- call (*selvage/simfs.FS).SyncDir
    refine LR.call rfl Tryd.call24 rfl (Wd.g rfl rfl rfl) rfl rfl (syncDir_ct mx_ K42 g42 b20 (((Dk.empty 1048576 65536).lay pK ⟨false, data⟩).2.sync pK).2 [100] w0 _ hf mx (bf_mx.mono (by omega)) (df15) (by decide) (hS42.bd (by omega))) (fun v47 H47 r47 => ?_)
    have ql21 := hf.bk
    obtain ⟨K47, g47, rfl, hf, hkd47, hs47⟩ := r47
    have df22 := DFL.appK (df15) (bf_mx.mono hm0.size) hkd47
    have df23 := DFL.appK (df16) (bf_hd.mono hm0.size) hkd47
    have df24 := DFL.appK (df17) (bf_hl.mono hm0.size) hkd47
    have df25 := DFL.appK (df18) (bf_hp.mono hm0.size) hkd47
    have df26 := DFL.appK (df19) (bf_hx.mono hm0.size) hkd47
    have nx27 : NxK [] H0.size K47 := NxK.tr (nx20) hkd47 hm0.size
    replace mx := mx.upL hs47 (df15)
    replace hd := hd.upL hs47 (df16)
    replace hl := hl.upL hs47 (df17)
    replace hp := hp.upL hs47 (df18)
    replace hx := fun x hx0 => (hx x hx0).upL hs47 (df19)
    replace hm0 := (Mo.trL (ks := []) (hm0.mdn []) hs47 (MIL.ofK0 (nx20))).nil
    have hz5 := hs47.size
    have hbk_hf := hf.bk
    have hS47 := hS42.syncDir [100]
    have e47 : ((((Dk.empty 1048576 65536).lay pK ⟨false, data⟩).2.sync pK).2.syncDir [100]).2 = (startD pK [100] data) := rfl
    rw [e47] at hf hS47
    replace hS47 : Bs 3100 _ := hS47.mono (by omega)
    refine LR.v ((Y.neq rfl rfl rfl).isF ((fun h => h (by rw [q3]; rfl)))) (Wd.g rfl rfl rfl) rfl rfl ?_
    refine LR.v (Y.pick_f rfl rfl rfl) (Wd.u rfl) rfl rfl ?_
    refine LR.nil ?_
    refine hK9 _ _ ?_
    refine CW.cond_f rfl ?_
    refine CW.skip ?_
    refine hK8 _ _ ?_
    refine CW.seq (fun K10 hK10 hE10 => ?_)
    refine CW.seq (fun K11 hK11 hE11 => ?_)
    refine CW.region ?_
    refine LR.v (Y.assign rfl rfl) (Wd.u rfl) rfl rfl ?_
    refine LR.nil ?_
    refine hK11 _ _ ?_
    refine CW.block (fun K12 hK12 hX12 hE12 => ?_)
    refine CW.loop (fun (s_ : (Nat) × (List Nat) × (Gh) × (Dk)) => match s_ with | (i, Ki, gi, Di) => [(0, s0.v), (1, s1.v), (2, s2.v), (3, .int .i64 often), (9, ptr b20), (11, .int .i64 (i : Int))])
      (fun (s_ : (Nat) × (List Nat) × (Gh) × (Dk)) (H : Heap) => match s_ with | (i, Ki, gi, Di) => (PDk Ki gi H b20 Di) ∧ (i ≤ l.length ∧ i ≤ 30) ∧ (Bs (3100 + i * 1100) Di) ∧ (Kp pK data Di) ∧ (NxK K47 H47.size Ki) ∧ Mo (Ms K47) H47 H)
      (fun (s_ : (Nat) × (List Nat) × (Gh) × (Dk)) => match s_ with | (i, Ki, gi, Di) => l.length - i) (0, K47, g47, (startD pK [100] data)) ⟨rfl, rfl, rfl, rfl, rfl, rfl, trivial⟩ ?_ ?_
    ·
      exact ⟨hf, (by omega), hS47, Kp.start (by omega), NxK.refl _ _, Mo.refl _ _⟩
    rintro ⟨i, Ki, gi, Di⟩ HL1 hI1 K13 hN13 hE13
    obtain ⟨hf, hi, hS, hKp, nxl_hf, hlm1⟩ := hI1
    have df28 := DFL.appK (df22) (bf_mx.mono hm0.size) nxl_hf
    have df29 := DFL.appK (df23) (bf_hd.mono hm0.size) nxl_hf
    have df30 := DFL.appK (df24) (bf_hl.mono hm0.size) nxl_hf
    have df31 := DFL.appK (df25) (bf_hp.mono hm0.size) nxl_hf
    have df32 := DFL.appK (df26) (bf_hx.mono hm0.size) nxl_hf
    have nx33 : NxK [] H0.size Ki := NxK.tr (nx27) nxl_hf hm0.size
    replace mx := mx.upL hlm1 (df22)
    replace hd := hd.upL hlm1 (df23)
    replace hl := hl.upL hlm1 (df24)
    replace hp := hp.upL hlm1 (df25)
    replace hx := fun x hx0 => (hx x hx0).upL hlm1 (df26)
    replace hm0 := (Mo.trL (ks := []) (hm0.mdn []) hlm1 (MIL.ofK0 (nx27))).nil
    have hz6 := hlm1.size
    have hbk_hf := hf.bk
    have nx34 := nxl_hf
    refine CW.seq (fun K14 hK14 hE14 => ?_)
    refine CW.seq (fun K15 hK15 hE15 => ?_)
    refine CW.region ?_
    refine LR.v (Y.move rfl rfl) (Wd.u rfl) rfl rfl ?_
    refine LR.v (Y.move rfl rfl) (Wd.u rfl) rfl rfl ?_
    refine LR.v (Y.len hl rfl Tryd.runUnderlying49 rfl) (Wd.u rfl) rfl rfl ?_
    refine LR.v (Y.lss rfl rfl rfl) (Wd.u rfl) rfl rfl ?_
    refine LR.v (Y.move rfl rfl) (Wd.u rfl) rfl rfl ?_
    refine LR.splitp (d := 54) rfl (fun g54 => ?_) (fun g54 => ?_)
    ·
      refine LR.v (Y.move rfl rfl) (Wd.g rfl rfl rfl) rfl rfl ?_
      refine LR.v (Y.lss rfl rfl rfl) (Wd.g rfl rfl rfl) rfl rfl ?_
      refine LR.v (Y.pick_t rfl rfl rfl) (Wd.u rfl) rfl rfl ?_
      refine LR.nil ?_
      refine hK15 _ _ ?_
      refine CW.condp rfl (fun c57 => ?_) (fun c57 => ?_)
      ·
        have hil : i < l.length := by omega
        have hcn := (hci _ (List.getElem_mem hil)).2.1
        have hck := (hci _ (List.getElem_mem hil)).1
        refine CW.skip ?_
        refine hK14 _ _ ?_
        refine CW.seq (fun K16 hK16 hE16 => ?_)
        refine CW.block (fun K17 hK17 hX17 hE17 => ?_)
        refine CW.seq (fun K18 hK18 hE18 => ?_)
        refine CW.region ?_
        refine LR.v (Y.move rfl rfl) (Wd.u rfl) rfl rfl ?_
        refine LR.v (Y.move rfl rfl) (Wd.u rfl) rfl rfl ?_
        refine LR.e (g := fun ad => .pointer (some ad)) (Y.indexAddrF hl (i) rfl Tryd.runUnderlying49 Tryd.sizeOf51 rfl rfl (by first | rfl | omega) (by first | omega | (simp; omega) | (simp; done))) (Wd.u rfl) rfl rfl (fun ad62 pt62 => ?_)
        have bf_pt62 := bf_hl
        refine LR.v (Y.cast (v2 := .agg (fCl l[i]).toArray) (Y.loadN pt62.pt rfl Tryd.isAgg51 Tryd.sizeOf51 (fCl_len _) rfl) (rfl)) (Wd.u rfl) rfl rfl ?_
        refine LR.z (Z.allocv rfl Tryd.zeroValue51) (Wd.u rfl) rfl rfl (fun v12 H12 r12 => ?_)
        obtain ⟨rfl, v12, hs12, ob12, hH12⟩ := r12
        have hzs12 : H12.size = HL1.size + 1 := by rw [hH12]; simp
        have df35 := (DF.new (bf_mx.mono hm0.size) : DF _ (HL1.size + 1))
        have df36 := (DF.new (bf_hd.mono hm0.size) : DF _ (HL1.size + 1))
        have df37 := (DF.new (bf_hl.mono hm0.size) : DF _ (HL1.size + 1))
        have df38 := (DF.new (bf_hp.mono hm0.size) : DF _ (HL1.size + 1))
        have df39 := (DF.new (bf_hx.mono hm0.size) : DF _ (HL1.size + 1))
        have dj40 : DL (HL1.size + 1) Ki := DL.newK hf.bk
        have df41 := (DF.new (bf_pt62.mono hm0.size) : DF _ (HL1.size + 1))
        have nx42 : Nx 0 H0.size (HL1.size + 1) := Nx.new hm0.size
        have nx43 : Nx 0 H47.size (HL1.size + 1) := Nx.new hlm1.size
        replace mx := mx.nw hs12
        replace hd := hd.nw hs12
        replace hl := hl.nw hs12
        replace hp := hp.nw hs12
        replace hx := fun x hx0 => (hx x hx0).nw hs12
        replace hf := hf.nw hs12
        replace pt62 := pt62.nw hs12
        replace hm0 := hm0.tr hs12
        replace hlm1 := hlm1.trN hs12
        have hz7 := hs12.size
        refine LR.s (S.var v12 (_) (fCl l[i]) rfl rfl rfl rfl (fCl_one _) Tryd.sizeOf51 (fCl_len _) (by decide) ((splice_all2 (fCl_len _).symm))) (Wd.u rfl) rfl (fun H11_5 r11_5 => ?_)
        obtain ⟨v12, hs11_5⟩ := r11_5
        replace hs11_5 := hs11_5.md1
        replace mx := mx.upL hs11_5 (DFL.cons df35 DFL.nil)
        replace hd := hd.upL hs11_5 (DFL.cons df36 DFL.nil)
        replace hl := hl.upL hs11_5 (DFL.cons df37 DFL.nil)
        replace hp := hp.upL hs11_5 (DFL.cons df38 DFL.nil)
        replace hx := fun x hx0 => (hx x hx0).upL hs11_5 (DFL.cons df39 DFL.nil)
        replace hf := hf.upL hs11_5 (DKL.cons dj40 DKL.nil)
        replace pt62 := pt62.upL hs11_5 (DFL.cons df41 DFL.nil)
        replace hm0 := (Mo.trL (ks := []) (hm0.mdn []) hs11_5 (MIL.cons (MI.app MI.z (nx42) (Nat.le_refl _)) MIL.nil)).nil
        replace hlm1 := hlm1.trL hs11_5 (MIL.cons (MI.app MI.z (nx43) (Nat.le_refl _)) MIL.nil)
        have hz8 := hs11_5.size
        refine LR.nil ?_
        refine hK18 _ _ ?_
        refine CW.seq (fun K19 hK19 hE19 => ?_)
        refine CW.seq (fun K20 hK20 hE20 => ?_)
        refine CW.region ?_
        refine LR.v (Y.fieldAddr v12.pt rfl Tryd.runUnderlying51 rfl rfl Tryd.sizeOf25 (by decide) rfl) (Wd.u rfl) rfl rfl ?_
        refine LR.v (Y.load1 (v12.pt.drop 4) rfl Tryd.isAgg25 rfl) (Wd.u rfl) rfl rfl ?_
        refine LR.v (Y.len (hx _ (List.getElem_mem hil)) rfl Tryd.runUnderlying25 rfl) (Wd.u rfl) rfl rfl ?_
        refine LR.v (Y.gtr rfl rfl rfl) (Wd.u rfl) rfl rfl ?_
        refine LR.nil ?_
        refine hK20 _ _ ?_
        refine CW.condp rfl (fun c67 => ?_) (fun c67 => ?_)
        ·
          refine CW.exit (hE19 (.exit 1) nofun _ _ (hX17 _ _ ?_))
          refine hK16 _ _ ?_
          refine CW.region ?_
          refine LR.v (Y.move rfl rfl) (Wd.u rfl) rfl rfl ?_
          refine LR.v (Y.addi rfl rfl rfl (by omega)) (Wd.u rfl) rfl rfl ?_
          refine LR.v (Y.assign rfl rfl) (Wd.u rfl) rfl rfl ?_
          refine LR.nil ?_
          refine QN.sub (hN13 (i + 1, Ki, gi, Di) _ ?_ ?_) ⟨rfl, rfl, rfl, (iv (by omega)), rfl, (iv (by omega)), trivial⟩
          · exact ⟨hf, (by omega), hS.mono (by first | omega | (simp only; omega)), hKp, nx34, hlm1⟩
          · first | omega | (simp only; omega) | (simp; omega)
        ·
          refine CW.skip ?_
          refine hK19 _ _ ?_
          refine CW.seq (fun K21 hK21 hE21 => ?_)
          refine CW.region_any (fun Hq => Nw H11_5 Hq) [] rfl ?_
          have hqs := Nw.refl H11_5
          refine LH.take 0 (by kernel_rfl) rfl (by kernel_rfl) (by kernel_rfl) (by kernel_rfl) (fun Hq hq => Y.fieldAddr (v12.pt.nw hq) rfl Tryd.runUnderlying51 rfl rfl Tryd.sizeOf3 (by decide) rfl) (Wd.u rfl) rfl rfl hqs ?_
          refine LH.take 1 (by kernel_rfl) rfl (by kernel_rfl) (by kernel_rfl) (by kernel_rfl) (fun Hq hq => Y.load1 ((v12.pt.drop 1).nw hq) rfl Tryd.isAgg3 rfl) (Wd.u rfl) rfl rfl hqs ?_
          refine LH.take 3 (by kernel_rfl) rfl (by kernel_rfl) (by kernel_rfl) (by kernel_rfl) (fun Hq hq => Y.fieldAddr (v12.pt.nw hq) rfl Tryd.runUnderlying51 rfl rfl Tryd.sizeOf3 (by decide) rfl) (Wd.u rfl) rfl rfl hqs ?_
          refine LH.take 4 (by kernel_rfl) rfl (by kernel_rfl) (by kernel_rfl) (by kernel_rfl) (fun Hq hq => Y.load1 ((v12.pt.drop 1).nw hq) rfl Tryd.isAgg3 rfl) (Wd.u rfl) rfl rfl hqs ?_
          refine LH.take 5 (by kernel_rfl) rfl (by kernel_rfl) (by kernel_rfl) (by kernel_rfl) (fun Hq hq => Y.cast (v2 := .int .i64 (l[i].n.tdiv 7)) (Y.quo rfl rfl rfl (by omega)) (ivv (IntWalk.i64_in _ (tdb7 _ hcn)))) (Wd.u rfl) rfl rfl hqs ?_
          refine LH.one (i := 2) (by kernel_rfl) ?_
          -- call selvage/selvagelaw2.path
          refine LO.call rfl rfl Tryd.call22 rfl (Wd.u rfl) rfl rfl (path_ct l[i].n w0 _ hcn) (fun v70 H70 r70 => ?_)
          obtain ⟨rfl, hs70⟩ := r70
          replace mx := mx.nw hs70
          replace hd := hd.nw hs70
          replace hl := hl.nw hs70
          replace hp := hp.nw hs70
          replace hx := fun x hx0 => (hx x hx0).nw hs70
          replace hf := hf.nw hs70
          replace v12 := v12.nw hs70
          replace hm0 := hm0.tr hs70
          replace hlm1 := hlm1.trN hs70
          have hz9 := hs70.size
          have hq70 := hqs.tr hs70
          refine ⟨.inr hq70, LH.narrow (SH2 := fun Hq => Nw H70 Hq) (fun Hq hq => hq70.tr hq) ?_⟩
          have hqn70 := Nw.refl H70
          refine LH.one (i := 6) (by kernel_rfl) ?_
          -- call selvage/selvagelaw2.path
          refine LO.call rfl rfl Tryd.call22 rfl (Wd.u rfl) rfl rfl (path_ct (l[i].n.tdiv 7) w0 _ (tdb7 _ hcn)) (fun v74 H74 r74 => ?_)
          obtain ⟨rfl, hs74⟩ := r74
          replace mx := mx.nw hs74
          replace hd := hd.nw hs74
          replace hl := hl.nw hs74
          replace hp := hp.nw hs74
          replace hx := fun x hx0 => (hx x hx0).nw hs74
          replace hf := hf.nw hs74
          replace v12 := v12.nw hs74
          replace hm0 := hm0.tr hs74
          replace hlm1 := hlm1.trN hs74
          have hz10 := hs74.size
          have hq74 := hqn70.tr hs74
          refine ⟨.inr hq74, LH.narrow (SH2 := fun Hq => Nw H74 Hq) (fun Hq hq => hq74.tr hq) ?_⟩
          have hqn74 := Nw.refl H74
          refine LH.take 7 (by kernel_rfl) rfl (by kernel_rfl) (by kernel_rfl) (by kernel_rfl) (fun Hq hq => Y.assign rfl rfl) (Wd.u rfl) rfl rfl hqn74 ?_
          refine LH.take 8 (by kernel_rfl) rfl (by kernel_rfl) (by kernel_rfl) (by kernel_rfl) (fun Hq hq => Y.assign rfl rfl) (Wd.u rfl) rfl rfl hqn74 ?_
          refine LH.done (by kernel_rfl) ?_
          have hqe := hqn74
          refine hK21 _ _ ?_
          refine CW.cut (fun (s_ : (List Nat) × (Gh) × (Dk)) => match s_ with | (Ka, ga, Da) => [(0, s0.v), (1, s1.v), (2, s2.v), (3, .int .i64 often), (9, ptr b20), (11, .int .i64 (i : Int))])
            (fun (s_ : (List Nat) × (Gh) × (Dk)) (H : Heap) => match s_ with | (Ka, ga, Da) => (PDk Ka ga H b20 Da) ∧ (Bs (3100 + i * 1100 + 1010) Da) ∧ (Kp pK data Da) ∧ (NxK Ki H74.size Ka) ∧ Mo (Ms Ki) H74 H) (fun K22 hK22 hE22 => ?_) ?_
          ·
            have hcm22 : Mo (Ms Ki) H74 H74 := Mo.refl _ _
            have nx_hcm22_hf := NxK.refl Ki H74.size
            refine CW.seq (fun K23 hK23 hE23 => ?_)
            refine CW.region ?_
            refine LR.v (Y.fieldAddr v12.pt rfl Tryd.runUnderlying51 rfl rfl Tryd.sizeOf3 (by decide) rfl) (Wd.u rfl) rfl rfl ?_
            refine LR.v (Y.load1 v12.pt rfl Tryd.isAgg3 rfl) (Wd.u rfl) rfl rfl ?_
            -- call selvage/selvagelaw2.within
            refine LR.call rfl Tryd.call20 rfl (Wd.u rfl) rfl rfl (within_ct l[i].kd 6 w0 _ (by omega) hck) (fun v77 H77 r77 => ?_)
            obtain ⟨rfl, hs77⟩ := r77
            replace mx := mx.nw hs77
            replace hd := hd.nw hs77
            replace hl := hl.nw hs77
            replace hp := hp.nw hs77
            replace hx := fun x hx0 => (hx x hx0).nw hs77
            replace hf := hf.nw hs77
            replace v12 := v12.nw hs77
            replace hm0 := hm0.tr hs77
            replace hlm1 := hlm1.trN hs77
            replace hcm22 := hcm22.trN hs77
            have hz11 := hs77.size
            refine LR.nil ?_
            refine hK23 _ _ ?_
            refine CW.block (fun K24 hK24 hX24 hE24 => ?_)
            refine CW.seq (fun K25 hK25 hE25 => ?_)
            refine CW.region ?_
            refine LR.v (Y.eql rfl rfl rfl) (Wd.u rfl) rfl rfl ?_
            refine LR.v (Y.assign rfl rfl) (Wd.u rfl) rfl rfl ?_
            refine LR.nil ?_
            refine hK25 _ _ ?_
            refine CW.condp rfl (fun c78 => ?_) (fun c78 => ?_)
            ·
              refine CW.region ?_
              refine LR.v (Y.move rfl rfl) (Wd.u rfl) rfl rfl ?_
              refine LR.v (Y.move rfl rfl) (Wd.u rfl) rfl rfl ?_
              refine LR.v (Y.fieldAddr v12.pt rfl Tryd.runUnderlying51 rfl rfl Tryd.sizeOf25 (by decide) rfl) (Wd.u rfl) rfl rfl ?_
              refine LR.v (Y.load1 (v12.pt.drop 4) rfl Tryd.isAgg25 rfl) (Wd.u rfl) rfl rfl ?_
              -- call (*selvage/simfs.FS).Write
              refine LR.call rfl Tryd.call17 rfl (Wd.u rfl) rfl rfl (write_ct mx_ Ki gi b20 Di (pathN l[i].n) l[i].dv l[i].d _ w0 _ hf mx (bf_mx.mono (by omega)) (df28) (hx _ (List.getElem_mem hil)) (bf_hx.mono (by omega)) (df32) (by have := (pathN_ne l[i].n).2.1; omega) (hS.bd (by omega)) (by omega)) (fun v84 H84 r84 => ?_)
              have ql44 := hf.bk
              have ql45 := v12.lt
              obtain ⟨K84, g84, rfl, hf, hkd84, hs84⟩ := r84
              have df46 := DFL.appK (df28) (bf_mx.mono hm0.size) hkd84
              have df47 := DFL.appK (df29) (bf_hd.mono hm0.size) hkd84
              have df48 := DFL.appK (df30) (bf_hl.mono hm0.size) hkd84
              have df49 := DFL.appK (df31) (bf_hp.mono hm0.size) hkd84
              have df50 := DFL.appK (df32) (bf_hx.mono hm0.size) hkd84
              have dj51 : DL (HL1.size + 1) K84 := DL.appK (dj40) ql45 hkd84
              have nx52 : NxK [] H0.size K84 := NxK.tr (nx33) hkd84 hm0.size
              have nx53 : NxK K47 H47.size K84 := NxK.tr (nx34) hkd84 hlm1.size
              have nx54 : NxK Ki H74.size K84 := NxK.tr (nx_hcm22_hf) hkd84 hcm22.size
              replace mx := mx.upL hs84 (df28)
              replace hd := hd.upL hs84 (df29)
              replace hl := hl.upL hs84 (df30)
              replace hp := hp.upL hs84 (df31)
              replace hx := fun x hx0 => (hx x hx0).upL hs84 (df32)
              replace v12 := v12.upL hs84 (dj40)
              replace hm0 := (Mo.trL (ks := []) (hm0.mdn []) hs84 (MIL.ofK0 (nx33))).nil
              replace hlm1 := hlm1.trL hs84 (MIL.ofK (nx34) (by intro k hk; simp [hk]))
              replace hcm22 := hcm22.trL hs84 (MIL.ofK (nx_hcm22_hf) (by intro k hk; simp [hk]))
              have hz12 := hs84.size
              have hbk_hf := hf.bk
              refine LR.nil ?_
              refine hK24 _ _ ?_
              refine QN.sub (hK22 (K84, g84, (Di.lay (pathN l[i].n) ⟨false, l[i].d⟩).2) _ ?_) ⟨rfl, rfl, rfl, (iv (by omega)), rfl, (iv (by omega)), trivial⟩
              exact ⟨hf, (hS.lay (pathN l[i].n) ⟨false, l[i].d⟩).mono (by first | omega | (simp only; omega)), hKp.lay (pathN_ne _).1 (by decide) _, nx54, hcm22⟩
            ·
              refine CW.seq (fun K26 hK26 hE26 => ?_)
              refine CW.region ?_
              refine LR.v (Y.eql rfl rfl rfl) (Wd.u rfl) rfl rfl ?_
              refine LR.v (Y.assign rfl rfl) (Wd.u rfl) rfl rfl ?_
              refine LR.nil ?_
              refine hK26 _ _ ?_
              refine CW.condp rfl (fun c85 => ?_) (fun c85 => ?_)
              ·
                refine CW.region ?_
                refine LR.v (Y.move rfl rfl) (Wd.u rfl) rfl rfl ?_
                refine LR.v (Y.move rfl rfl) (Wd.u rfl) rfl rfl ?_
                refine LR.v (Y.fieldAddr v12.pt rfl Tryd.runUnderlying51 rfl rfl Tryd.sizeOf25 (by decide) rfl) (Wd.u rfl) rfl rfl ?_
                refine LR.v (Y.load1 (v12.pt.drop 4) rfl Tryd.isAgg25 rfl) (Wd.u rfl) rfl rfl ?_
                -- call (*selvage/simfs.FS).Append
                refine LR.call rfl Tryd.call21 rfl (Wd.u rfl) rfl rfl (append_ct mx_ Ki gi b20 Di (pathN l[i].n) l[i].dv l[i].d _ w0 _ hf mx (bf_mx.mono (by omega)) (df28) (hx _ (List.getElem_mem hil)) (bf_hx.mono (by omega)) (df32) (by have := (pathN_ne l[i].n).2.1; omega) (hS.bd (by omega)) (by omega)) (fun v91 H91 r91 => ?_)
                have ql55 := hf.bk
                have ql56 := v12.lt
                obtain ⟨K91, g91, rfl, hf, hkd91, hs91⟩ := r91
                have df57 := DFL.appK (df28) (bf_mx.mono hm0.size) hkd91
                have df58 := DFL.appK (df29) (bf_hd.mono hm0.size) hkd91
                have df59 := DFL.appK (df30) (bf_hl.mono hm0.size) hkd91
                have df60 := DFL.appK (df31) (bf_hp.mono hm0.size) hkd91
                have df61 := DFL.appK (df32) (bf_hx.mono hm0.size) hkd91
                have dj62 : DL (HL1.size + 1) K91 := DL.appK (dj40) ql56 hkd91
                have nx63 : NxK [] H0.size K91 := NxK.tr (nx33) hkd91 hm0.size
                have nx64 : NxK K47 H47.size K91 := NxK.tr (nx34) hkd91 hlm1.size
                have nx65 : NxK Ki H74.size K91 := NxK.tr (nx_hcm22_hf) hkd91 hcm22.size
                replace mx := mx.upL hs91 (df28)
                replace hd := hd.upL hs91 (df29)
                replace hl := hl.upL hs91 (df30)
                replace hp := hp.upL hs91 (df31)
                replace hx := fun x hx0 => (hx x hx0).upL hs91 (df32)
                replace v12 := v12.upL hs91 (dj40)
                replace hm0 := (Mo.trL (ks := []) (hm0.mdn []) hs91 (MIL.ofK0 (nx33))).nil
                replace hlm1 := hlm1.trL hs91 (MIL.ofK (nx34) (by intro k hk; simp [hk]))
                replace hcm22 := hcm22.trL hs91 (MIL.ofK (nx_hcm22_hf) (by intro k hk; simp [hk]))
                have hz13 := hs91.size
                have hbk_hf := hf.bk
                refine LR.nil ?_
                refine hK24 _ _ ?_
                refine QN.sub (hK22 (K91, g91, (Di.lay (pathN l[i].n) ⟨true, l[i].d⟩).2) _ ?_) ⟨rfl, rfl, rfl, (iv (by omega)), rfl, (iv (by omega)), trivial⟩
                exact ⟨hf, (hS.lay (pathN l[i].n) ⟨true, l[i].d⟩).mono (by first | omega | (simp only; omega)), hKp.lay (pathN_ne _).1 (by decide) _, nx65, hcm22⟩
              ·
                refine CW.seq (fun K27 hK27 hE27 => ?_)
                refine CW.region ?_
                refine LR.v (Y.eql rfl rfl rfl) (Wd.u rfl) rfl rfl ?_
                refine LR.v (Y.assign rfl rfl) (Wd.u rfl) rfl rfl ?_
                refine LR.nil ?_
                refine hK27 _ _ ?_
                refine CW.condp rfl (fun c92 => ?_) (fun c92 => ?_)
                ·
                  refine CW.region ?_
                  refine LR.v (Y.move rfl rfl) (Wd.u rfl) rfl rfl ?_
                  refine LR.v (Y.move rfl rfl) (Wd.u rfl) rfl rfl ?_
                  -- call (*selvage/simfs.FS).Sync
                  refine LR.call rfl Tryd.call23 rfl (Wd.u rfl) rfl rfl (sync_ct mx_ Ki gi b20 Di (pathN l[i].n) w0 _ hf mx (bf_mx.mono (by omega)) (df28) (by have := (pathN_ne l[i].n).2.1; omega) (hS.bd (by omega))) (fun v96 H96 r96 => ?_)
                  have ql66 := hf.bk
                  obtain ⟨K96, g96, rfl, hf, hkd96, hs96⟩ := r96
                  have df67 := DFL.appK (df28) (bf_mx.mono hm0.size) hkd96
                  have df68 := DFL.appK (df29) (bf_hd.mono hm0.size) hkd96
                  have df69 := DFL.appK (df30) (bf_hl.mono hm0.size) hkd96
                  have df70 := DFL.appK (df31) (bf_hp.mono hm0.size) hkd96
                  have df71 := DFL.appK (df32) (bf_hx.mono hm0.size) hkd96
                  have nx72 : NxK [] H0.size K96 := NxK.tr (nx33) hkd96 hm0.size
                  have nx73 : NxK K47 H47.size K96 := NxK.tr (nx34) hkd96 hlm1.size
                  have nx74 : NxK Ki H74.size K96 := NxK.tr (nx_hcm22_hf) hkd96 hcm22.size
                  replace mx := mx.upL hs96 (df28)
                  replace hd := hd.upL hs96 (df29)
                  replace hl := hl.upL hs96 (df30)
                  replace hp := hp.upL hs96 (df31)
                  replace hx := fun x hx0 => (hx x hx0).upL hs96 (df32)
                  replace hm0 := (Mo.trL (ks := []) (hm0.mdn []) hs96 (MIL.ofK0 (nx33))).nil
                  replace hlm1 := hlm1.trL hs96 (MIL.ofK (nx34) (by intro k hk; simp [hk]))
                  replace hcm22 := hcm22.trL hs96 (MIL.ofK (nx_hcm22_hf) (by intro k hk; simp [hk]))
                  have hz14 := hs96.size
                  have hbk_hf := hf.bk
                  refine LR.nil ?_
                  refine hK24 _ _ ?_
                  refine QN.sub (hK22 (K96, g96, (Di.sync (pathN l[i].n)).2) _ ?_) ⟨rfl, rfl, rfl, (iv (by omega)), rfl, (iv (by omega)), trivial⟩
                  exact ⟨hf, (hS.sync (pathN l[i].n)).mono (by first | omega | (simp only; omega)), hKp.sync (pathN_ne _).1, nx74, hcm22⟩
                ·
                  refine CW.seq (fun K28 hK28 hE28 => ?_)
                  refine CW.region ?_
                  refine LR.v (Y.eql rfl rfl rfl) (Wd.u rfl) rfl rfl ?_
                  refine LR.v (Y.assign rfl rfl) (Wd.u rfl) rfl rfl ?_
                  refine LR.nil ?_
                  refine hK28 _ _ ?_
                  refine CW.condp rfl (fun c97 => ?_) (fun c97 => ?_)
                  ·
                    refine CW.region ?_
                    refine LR.v (Y.move rfl rfl) (Wd.u rfl) rfl rfl ?_
                    refine LR.v (Y.move rfl rfl) (Wd.u rfl) rfl rfl ?_
                    refine LR.v (Y.move rfl rfl) (Wd.u rfl) rfl rfl ?_
                    -- call (*selvage/simfs.FS).Rename
                    refine LR.call rfl Tryd.call28 rfl (Wd.u rfl) rfl rfl (rename_ct mx_ Ki gi b20 Di (pathN l[i].n) (pathN (l[i].n.tdiv 7)) w0 _ hf mx (bf_mx.mono (by omega)) (df28) (by have := (pathN_ne l[i].n).2.1; omega) (by have := (pathN_ne (l[i].n.tdiv 7)).2.1; omega) (hS.bd (by omega))) (fun v102 H102 r102 => ?_)
                    have ql75 := hf.bk
                    obtain ⟨K102, g102, rfl, hf, hkd102, hs102⟩ := r102
                    have df76 := DFL.appK (df28) (bf_mx.mono hm0.size) hkd102
                    have df77 := DFL.appK (df29) (bf_hd.mono hm0.size) hkd102
                    have df78 := DFL.appK (df30) (bf_hl.mono hm0.size) hkd102
                    have df79 := DFL.appK (df31) (bf_hp.mono hm0.size) hkd102
                    have df80 := DFL.appK (df32) (bf_hx.mono hm0.size) hkd102
                    have nx81 : NxK [] H0.size K102 := NxK.tr (nx33) hkd102 hm0.size
                    have nx82 : NxK K47 H47.size K102 := NxK.tr (nx34) hkd102 hlm1.size
                    have nx83 : NxK Ki H74.size K102 := NxK.tr (nx_hcm22_hf) hkd102 hcm22.size
                    replace mx := mx.upL hs102 (df28)
                    replace hd := hd.upL hs102 (df29)
                    replace hl := hl.upL hs102 (df30)
                    replace hp := hp.upL hs102 (df31)
                    replace hx := fun x hx0 => (hx x hx0).upL hs102 (df32)
                    replace hm0 := (Mo.trL (ks := []) (hm0.mdn []) hs102 (MIL.ofK0 (nx33))).nil
                    replace hlm1 := hlm1.trL hs102 (MIL.ofK (nx34) (by intro k hk; simp [hk]))
                    replace hcm22 := hcm22.trL hs102 (MIL.ofK (nx_hcm22_hf) (by intro k hk; simp [hk]))
                    have hz15 := hs102.size
                    have hbk_hf := hf.bk
                    refine LR.nil ?_
                    refine hK24 _ _ ?_
                    refine QN.sub (hK22 (K102, g102, (Di.rename (pathN l[i].n) (pathN (l[i].n.tdiv 7))).2) _ ?_) ⟨rfl, rfl, rfl, (iv (by omega)), rfl, (iv (by omega)), trivial⟩
                    exact ⟨hf, (hS.rename (pathN l[i].n) (pathN (l[i].n.tdiv 7))).mono (by first | omega | (simp only; omega)), hKp.rename (pathN_ne _).1 (pathN_ne _).1, nx83, hcm22⟩
                  ·
                    refine CW.seq (fun K29 hK29 hE29 => ?_)
                    refine CW.region ?_
                    refine LR.v (Y.eql rfl rfl rfl) (Wd.u rfl) rfl rfl ?_
                    refine LR.v (Y.assign rfl rfl) (Wd.u rfl) rfl rfl ?_
                    refine LR.nil ?_
                    refine hK29 _ _ ?_
                    refine CW.condp rfl (fun c103 => ?_) (fun c103 => ?_)
                    ·
                      refine CW.region ?_
                      refine LR.v (Y.move rfl rfl) (Wd.u rfl) rfl rfl ?_
                      refine LR.v (Y.move rfl rfl) (Wd.u rfl) rfl rfl ?_
                      -- call (*selvage/simfs.FS).Remove
                      refine LR.call rfl Tryd.call29 rfl (Wd.u rfl) rfl rfl (remove_ct mx_ Ki gi b20 Di (pathN l[i].n) w0 _ hf mx (bf_mx.mono (by omega)) (df28) (by have := (pathN_ne l[i].n).2.1; omega) (hS.bd (by omega))) (fun v107 H107 r107 => ?_)
                      have ql84 := hf.bk
                      obtain ⟨K107, g107, rfl, hf, hkd107, hs107⟩ := r107
                      have df85 := DFL.appK (df28) (bf_mx.mono hm0.size) hkd107
                      have df86 := DFL.appK (df29) (bf_hd.mono hm0.size) hkd107
                      have df87 := DFL.appK (df30) (bf_hl.mono hm0.size) hkd107
                      have df88 := DFL.appK (df31) (bf_hp.mono hm0.size) hkd107
                      have df89 := DFL.appK (df32) (bf_hx.mono hm0.size) hkd107
                      have nx90 : NxK [] H0.size K107 := NxK.tr (nx33) hkd107 hm0.size
                      have nx91 : NxK K47 H47.size K107 := NxK.tr (nx34) hkd107 hlm1.size
                      have nx92 : NxK Ki H74.size K107 := NxK.tr (nx_hcm22_hf) hkd107 hcm22.size
                      replace mx := mx.upL hs107 (df28)
                      replace hd := hd.upL hs107 (df29)
                      replace hl := hl.upL hs107 (df30)
                      replace hp := hp.upL hs107 (df31)
                      replace hx := fun x hx0 => (hx x hx0).upL hs107 (df32)
                      replace hm0 := (Mo.trL (ks := []) (hm0.mdn []) hs107 (MIL.ofK0 (nx33))).nil
                      replace hlm1 := hlm1.trL hs107 (MIL.ofK (nx34) (by intro k hk; simp [hk]))
                      replace hcm22 := hcm22.trL hs107 (MIL.ofK (nx_hcm22_hf) (by intro k hk; simp [hk]))
                      have hz16 := hs107.size
                      have hbk_hf := hf.bk
                      refine LR.nil ?_
                      refine hK24 _ _ ?_
                      refine QN.sub (hK22 (K107, g107, (Di.remove (pathN l[i].n)).2) _ ?_) ⟨rfl, rfl, rfl, (iv (by omega)), rfl, (iv (by omega)), trivial⟩
                      exact ⟨hf, (hS.remove (pathN l[i].n)).mono (by first | omega | (simp only; omega)), hKp.remove (pathN_ne _).1, nx92, hcm22⟩
                    ·
                      refine CW.seq (fun K30 hK30 hE30 => ?_)
                      refine CW.region ?_
                      refine LR.v (Y.eql rfl rfl rfl) (Wd.u rfl) rfl rfl ?_
                      refine LR.v (Y.assign rfl rfl) (Wd.u rfl) rfl rfl ?_
                      refine LR.nil ?_
                      refine hK30 _ _ ?_
                      refine CW.condp rfl (fun c108 => ?_) (fun c108 => ?_)
                      ·
                        refine CW.region ?_
                        refine LR.v (Y.move rfl rfl) (Wd.u rfl) rfl rfl ?_
                        refine LR.v (Y.move rfl rfl) (Wd.u rfl) rfl rfl ?_
                        -- call selvage/simfs.Dir
                        refine LR.call rfl Tryd.call14 rfl (Wd.u rfl) rfl rfl (dir_ct mx_ (pathN l[i].n) w0 _ mx (bf_mx.mono (by omega)) (by have := (pathN_ne l[i].n).2.1; omega)) (fun v112 H112 r112 => ?_)
                        obtain ⟨rfl, hs112⟩ := r112
                        replace mx := mx.nw hs112
                        replace hd := hd.nw hs112
                        replace hl := hl.nw hs112
                        replace hp := hp.nw hs112
                        replace hx := fun x hx0 => (hx x hx0).nw hs112
                        replace hf := hf.nw hs112
                        replace hm0 := hm0.tr hs112
                        replace hlm1 := hlm1.trN hs112
                        replace hcm22 := hcm22.trN hs112
                        have hz17 := hs112.size
                        -- call (*selvage/simfs.FS).SyncDir
                        refine LR.call rfl Tryd.call24 rfl (Wd.u rfl) rfl rfl (syncDir_ct mx_ Ki gi b20 Di (dirP (pathN l[i].n)) w0 _ hf mx (bf_mx.mono (by omega)) (df28) (by have := (pathN_ne l[i].n).2.1; have := dirP_len (pathN l[i].n); omega) (hS.bd (by omega))) (fun v113 H113 r113 => ?_)
                        have ql93 := hf.bk
                        obtain ⟨K113, g113, rfl, hf, hkd113, hs113⟩ := r113
                        have df94 := DFL.appK (df28) (bf_mx.mono hm0.size) hkd113
                        have df95 := DFL.appK (df29) (bf_hd.mono hm0.size) hkd113
                        have df96 := DFL.appK (df30) (bf_hl.mono hm0.size) hkd113
                        have df97 := DFL.appK (df31) (bf_hp.mono hm0.size) hkd113
                        have df98 := DFL.appK (df32) (bf_hx.mono hm0.size) hkd113
                        have nx99 : NxK [] H0.size K113 := NxK.tr (nx33) hkd113 hm0.size
                        have nx100 : NxK K47 H47.size K113 := NxK.tr (nx34) hkd113 hlm1.size
                        have nx101 : NxK Ki H74.size K113 := NxK.tr (nx_hcm22_hf) hkd113 hcm22.size
                        replace mx := mx.upL hs113 (df28)
                        replace hd := hd.upL hs113 (df29)
                        replace hl := hl.upL hs113 (df30)
                        replace hp := hp.upL hs113 (df31)
                        replace hx := fun x hx0 => (hx x hx0).upL hs113 (df32)
                        replace hm0 := (Mo.trL (ks := []) (hm0.mdn []) hs113 (MIL.ofK0 (nx33))).nil
                        replace hlm1 := hlm1.trL hs113 (MIL.ofK (nx34) (by intro k hk; simp [hk]))
                        replace hcm22 := hcm22.trL hs113 (MIL.ofK (nx_hcm22_hf) (by intro k hk; simp [hk]))
                        have hz18 := hs113.size
                        have hbk_hf := hf.bk
                        refine LR.nil ?_
                        refine hK24 _ _ ?_
                        refine QN.sub (hK22 (K113, g113, (Di.syncDir (dirP (pathN l[i].n))).2) _ ?_) ⟨rfl, rfl, rfl, (iv (by omega)), rfl, (iv (by omega)), trivial⟩
                        exact ⟨hf, (hS.syncDir (dirP (pathN l[i].n))).mono (by first | omega | (simp only; omega)), hKp.syncDir hS.an _, nx101, hcm22⟩
                      ·
                        refine CW.skip ?_
                        refine hK24 _ _ ?_
                        refine QN.sub (hK22 (Ki, gi, Di) _ ?_) ⟨rfl, rfl, rfl, (iv (by omega)), rfl, (iv (by omega)), trivial⟩
                        exact ⟨hf, hS.mono (by omega), hKp, nx_hcm22_hf, hcm22⟩
          ·
            rintro ⟨Ka, ga, Da⟩ Hcut2 hIcut2
            obtain ⟨hf, hS2, hK2, nxl_hf, hlmcut2⟩ := hIcut2
            have df102 := DFL.appK (df28) (bf_mx.mono hm0.size) nxl_hf
            have df103 := DFL.appK (df29) (bf_hd.mono hm0.size) nxl_hf
            have df104 := DFL.appK (df30) (bf_hl.mono hm0.size) nxl_hf
            have df105 := DFL.appK (df31) (bf_hp.mono hm0.size) nxl_hf
            have df106 := DFL.appK (df32) (bf_hx.mono hm0.size) nxl_hf
            have dj107 : DL (HL1.size + 1) Ka := DL.appK (dj40) v12.lt nxl_hf
            have nx108 : NxK [] H0.size Ka := NxK.tr (nx33) nxl_hf hm0.size
            have nx109 : NxK K47 H47.size Ka := NxK.tr (nx34) nxl_hf hlm1.size
            replace mx := mx.upL hlmcut2 (df28)
            replace hd := hd.upL hlmcut2 (df29)
            replace hl := hl.upL hlmcut2 (df30)
            replace hp := hp.upL hlmcut2 (df31)
            replace hx := fun x hx0 => (hx x hx0).upL hlmcut2 (df32)
            replace v12 := v12.upL hlmcut2 (dj40)
            replace hm0 := (Mo.trL (ks := []) (hm0.mdn []) hlmcut2 (MIL.ofK0 (nx33))).nil
            replace hlm1 := hlm1.trL hlmcut2 (MIL.ofK (nx34) (by intro k hk; simp [hk]))
            have hz19 := hlmcut2.size
            have hbk_hf := hf.bk
            have nx110 := nxl_hf
            refine CW.seq (fun K31 hK31 hE31 => ?_)
            refine CW.region ?_
            refine LR.v (Y.move rfl rfl) (Wd.u rfl) rfl rfl ?_
            refine LR.v (Y.rem rfl rfl rfl (by omega)) (Wd.u rfl) rfl rfl ?_
            refine LR.v (Y.eql rfl rfl rfl) (Wd.u rfl) rfl rfl ?_
            refine LR.v (Y.move rfl rfl) (Wd.u rfl) rfl rfl ?_
            refine LR.splitp (d := 117) rfl (fun g117 => ?_) (fun g117 => ?_)
            ·
              refine LR.v (Y.move rfl rfl) (Wd.g rfl rfl rfl) rfl rfl ?_
              refine LR.v (Y.remi rfl rfl rfl (by omega)) (Wd.g rfl rfl rfl) rfl rfl ?_
              refine LR.v (Y.eql rfl rfl rfl) (Wd.g rfl rfl rfl) rfl rfl ?_
              refine LR.v (Y.pick_t rfl rfl rfl) (Wd.u rfl) rfl rfl ?_
              refine LR.nil ?_
              refine hK31 _ _ ?_
              refine CW.condp rfl (fun c121 => ?_) (fun c121 => ?_)
              ·
                refine CW.region ?_
                refine LR.v (Y.move rfl rfl) (Wd.u rfl) rfl rfl ?_
                refine LR.v (Y.move rfl rfl) (Wd.u rfl) rfl rfl ?_
                -- call (*selvage/simfs.FS).Crash
                refine LR.call rfl Tryd.call25 rfl (Wd.u rfl) rfl rfl (crash_ct Ka ga b20 Da _ s2 picks w0 _ hf hp (bf_hp.mono (by omega)) (df105) (hS2.bd (by omega)) (hS2.wy (by omega)) hpw) (fun v124 H124 r124 => ?_)
                have ql111 := hf.bk
                obtain ⟨K124, g124, rfl, hf, hkd124, hs124⟩ := r124
                have df112 := DFL.appK (df102) (bf_mx.mono hm0.size) hkd124
                have df113 := DFL.appK (df103) (bf_hd.mono hm0.size) hkd124
                have df114 := DFL.appK (df104) (bf_hl.mono hm0.size) hkd124
                have df115 := DFL.appK (df105) (bf_hp.mono hm0.size) hkd124
                have df116 := DFL.appK (df106) (bf_hx.mono hm0.size) hkd124
                have nx117 : NxK [] H0.size K124 := NxK.tr (nx108) hkd124 hm0.size
                have nx118 : NxK K47 H47.size K124 := NxK.tr (nx109) hkd124 hlm1.size
                replace mx := mx.upL hs124 (df102)
                replace hd := hd.upL hs124 (df103)
                replace hl := hl.upL hs124 (df104)
                replace hp := hp.upL hs124 (df105)
                replace hx := fun x hx0 => (hx x hx0).upL hs124 (df106)
                replace hm0 := (Mo.trL (ks := []) (hm0.mdn []) hs124 (MIL.ofK0 (nx108))).nil
                replace hlm1 := hlm1.trL hs124 (MIL.ofK (nx109) (by intro k hk; simp [hk]))
                have hz20 := hs124.size
                have hbk_hf := hf.bk
                refine LR.nil ?_
                refine hK17 _ _ ?_
                refine hK16 _ _ ?_
                refine CW.region ?_
                refine LR.v (Y.move rfl rfl) (Wd.u rfl) rfl rfl ?_
                refine LR.v (Y.addi rfl rfl rfl (by omega)) (Wd.u rfl) rfl rfl ?_
                refine LR.v (Y.assign rfl rfl) (Wd.u rfl) rfl rfl ?_
                refine LR.nil ?_
                refine QN.sub (hN13 (i + 1, K124, g124, Da.crash picks) _ ?_ ?_) ⟨rfl, rfl, rfl, (iv (by omega)), rfl, (iv (by omega)), trivial⟩
                · exact ⟨hf, (by omega), (hS2.crash picks).mono (by first | omega | (simp only; omega)), hK2.crash picks, nx118, hlm1⟩
                · first | omega | (simp only; omega) | (simp; omega)
              ·
                refine CW.skip ?_
                refine hK17 _ _ ?_
                refine hK16 _ _ ?_
                refine CW.region ?_
                refine LR.v (Y.move rfl rfl) (Wd.u rfl) rfl rfl ?_
                refine LR.v (Y.addi rfl rfl rfl (by omega)) (Wd.u rfl) rfl rfl ?_
                refine LR.v (Y.assign rfl rfl) (Wd.u rfl) rfl rfl ?_
                refine LR.nil ?_
                refine QN.sub (hN13 (i + 1, Ka, ga, Da) _ ?_ ?_) ⟨rfl, rfl, rfl, (iv (by omega)), rfl, (iv (by omega)), trivial⟩
                · exact ⟨hf, (by omega), hS2.mono (by first | omega | (simp only; omega)), hK2, nx109, hlm1⟩
                · first | omega | (simp only; omega) | (simp; omega)
            ·
              refine LR.gs rfl rfl rfl rfl rfl rfl ?_
              refine LR.gs rfl rfl rfl rfl rfl rfl ?_
              refine LR.gs rfl rfl rfl rfl rfl rfl ?_
              refine LR.v (Y.pick_f rfl rfl rfl) (Wd.u rfl) rfl rfl ?_
              refine LR.nil ?_
              refine hK31 _ _ ?_
              refine CW.cond_f rfl ?_
              refine CW.skip ?_
              refine hK17 _ _ ?_
              refine hK16 _ _ ?_
              refine CW.region ?_
              refine LR.v (Y.move rfl rfl) (Wd.u rfl) rfl rfl ?_
              refine LR.v (Y.addi rfl rfl rfl (by omega)) (Wd.u rfl) rfl rfl ?_
              refine LR.v (Y.assign rfl rfl) (Wd.u rfl) rfl rfl ?_
              refine LR.nil ?_
              refine QN.sub (hN13 (i + 1, Ka, ga, Da) _ ?_ ?_) ⟨rfl, rfl, rfl, (iv (by omega)), rfl, (iv (by omega)), trivial⟩
              · exact ⟨hf, (by omega), hS2.mono (by first | omega | (simp only; omega)), hK2, nx109, hlm1⟩
              · first | omega | (simp only; omega) | (simp; omega)
      ·
        refine CW.exit (hE14 (.exit 0) nofun _ _ (hE13 (.exit 0) nofun _ _ (hX12 _ _ ?_)))
        refine hK10 _ _ ?_
        refine CW.seq (fun K32 hK32 hE32 => ?_)
        refine CW.region ?_
        refine LR.v (Y.move rfl rfl) (Wd.u rfl) rfl rfl ?_
        refine LR.v (Y.move rfl rfl) (Wd.u rfl) rfl rfl ?_
        -- call (*selvage/simfs.FS).Crash
        refine LR.call rfl Tryd.call25 rfl (Wd.u rfl) rfl rfl (crash_ct Ki gi b20 Di _ s2 picks w0 _ hf hp (bf_hp.mono (by omega)) (df31) (hS.bd (by omega)) (hS.wy (by omega)) hpw) (fun v127 H127 r127 => ?_)
        have ql119 := hf.bk
        obtain ⟨K127, g127, rfl, hf, hkd127, hs127⟩ := r127
        have df120 := DFL.appK (df28) (bf_mx.mono hm0.size) hkd127
        have df121 := DFL.appK (df29) (bf_hd.mono hm0.size) hkd127
        have df122 := DFL.appK (df30) (bf_hl.mono hm0.size) hkd127
        have df123 := DFL.appK (df31) (bf_hp.mono hm0.size) hkd127
        have df124 := DFL.appK (df32) (bf_hx.mono hm0.size) hkd127
        have nx125 : NxK [] H0.size K127 := NxK.tr (nx33) hkd127 hm0.size
        replace mx := mx.upL hs127 (df28)
        replace hd := hd.upL hs127 (df29)
        replace hl := hl.upL hs127 (df30)
        replace hp := hp.upL hs127 (df31)
        replace hx := fun x hx0 => (hx x hx0).upL hs127 (df32)
        replace hm0 := (Mo.trL (ks := []) (hm0.mdn []) hs127 (MIL.ofK0 (nx33))).nil
        have hz21 := hs127.size
        have hbk_hf := hf.bk
        have hSe := hS.crash picks
        have hKe := hKp.crash picks
        obtain ⟨w1, w2⟩ := hKe.read (by decide)
        refine LR.nil ?_
        refine hK32 _ _ ?_
        refine CW.seq (fun K33 hK33 hE33 => ?_)
        refine CW.region ?_
        refine LR.v (Y.move rfl rfl) (Wd.u rfl) rfl rfl ?_
        -- call (*selvage/simfs.FS).Read
        refine LR.call rfl Tryd.call18 rfl (Wd.u rfl) rfl rfl (read_ct mx_ K127 g127 b20 (Di.crash picks) pK w0 _ mx (bf_mx.mono (by omega)) hf (by decide) (fun j => by have := (hSe.f j).1; omega)) (fun v130 H130 r130 => ?_)
        obtain ⟨s130, k130, rfl, ow130, hk130, hs130⟩ := r130
        have df126 := DF.app (DF.z) (bf_mx.mono hm0.size) hk130
        have df127 := DF.app (DF.z) (bf_hd.mono hm0.size) hk130
        have df128 := DF.app (DF.z) (bf_hl.mono hm0.size) hk130
        have df129 := DF.app (DF.z) (bf_hp.mono hm0.size) hk130
        have df130 := DF.app (DF.z) (bf_hx.mono hm0.size) hk130
        have dj131 : DL k130 K127 := DL.app2 (DL.zK) hf.bk hk130
        have nx132 : Nx 0 H0.size k130 := Nx.tr (Nx.refl 0 _) hk130 hm0.size
        replace mx := mx.nw hs130
        replace hd := hd.nw hs130
        replace hl := hl.nw hs130
        replace hp := hp.nw hs130
        replace hx := fun x hx0 => (hx x hx0).nw hs130
        replace hf := hf.nw hs130
        replace hm0 := hm0.tr hs130
        have hz22 := hs130.size
        have hle_ow130 := ow130.le
        refine LR.v (Y.move rfl rfl) (Wd.u rfl) rfl rfl ?_
        refine LR.v (Y.extract rfl rfl rfl) (Wd.u rfl) rfl rfl ?_
        refine LR.v (Y.extract rfl rfl rfl) (Wd.u rfl) rfl rfl ?_
        refine LR.v (Y.assign rfl rfl) (Wd.u rfl) rfl rfl ?_
        refine LR.v (Y.assign rfl rfl) (Wd.u rfl) rfl rfl ?_
        refine LR.nil ?_
        refine hK33 _ _ ?_
        refine CW.seq (fun K34 hK34 hE34 => ?_)
        refine CW.region ?_
        refine LR.v (Y.move rfl rfl) (Wd.u rfl) rfl rfl ?_
        refine LR.v ((Y.eql rfl rfl rfl).isT ((by rw [w1]; rfl))) (Wd.u rfl) rfl rfl ?_
        refine LR.v (Y.move rfl rfl) (Wd.u rfl) rfl rfl ?_
        refine LR.v (Y.move rfl rfl) (Wd.g rfl rfl rfl) rfl rfl ?_
        refine LR.v (Y.bstr ow130.rd rfl Tryd.underlying25 Tryd.underlying9 Tryd.underlying5 rfl) (Wd.g rfl rfl rfl) rfl rfl ?_
        refine LR.v (Y.move rfl rfl) (Wd.g rfl rfl rfl) rfl rfl ?_
        refine LR.v (Y.bstr hd rfl Tryd.underlying25 Tryd.underlying9 Tryd.underlying5 rfl) (Wd.g rfl rfl rfl) rfl rfl ?_
        refine LR.v ((Y.seql rfl rfl rfl).isT ((by rw [w2]))) (Wd.g rfl rfl rfl) rfl rfl ?_
        refine LR.v (Y.pick_t rfl rfl rfl) (Wd.u rfl) rfl rfl ?_
        refine LR.v (Y.assign rfl rfl) (Wd.u rfl) rfl rfl ?_
        refine LR.nil ?_
        refine hK34 _ _ ?_
        refine CW.ret (hret .ret (.inr rfl) _ _ _ (res1 rfl rfl) ?_)
        exact ⟨rfl, hm0⟩
    ·
      refine LR.gs rfl rfl rfl rfl rfl rfl ?_
      refine LR.gs rfl rfl rfl rfl rfl rfl ?_
      refine LR.v (Y.pick_f rfl rfl rfl) (Wd.u rfl) rfl rfl ?_
      refine LR.nil ?_
      refine hK15 _ _ ?_
      refine CW.cond_f rfl ?_
      refine CW.exit (hE14 (.exit 0) nofun _ _ (hE13 (.exit 0) nofun _ _ (hX12 _ _ ?_)))
      refine hK10 _ _ ?_
      refine CW.seq (fun K35 hK35 hE35 => ?_)
      refine CW.region ?_
      refine LR.v (Y.move rfl rfl) (Wd.u rfl) rfl rfl ?_
      refine LR.v (Y.move rfl rfl) (Wd.u rfl) rfl rfl ?_
      -- call (*selvage/simfs.FS).Crash
      refine LR.call rfl Tryd.call25 rfl (Wd.u rfl) rfl rfl (crash_ct Ki gi b20 Di _ s2 picks w0 _ hf hp (bf_hp.mono (by omega)) (df31) (hS.bd (by omega)) (hS.wy (by omega)) hpw) (fun v127 H127 r127 => ?_)
      have ql133 := hf.bk
      obtain ⟨K127, g127, rfl, hf, hkd127, hs127⟩ := r127
      have df134 := DFL.appK (df28) (bf_mx.mono hm0.size) hkd127
      have df135 := DFL.appK (df29) (bf_hd.mono hm0.size) hkd127
      have df136 := DFL.appK (df30) (bf_hl.mono hm0.size) hkd127
      have df137 := DFL.appK (df31) (bf_hp.mono hm0.size) hkd127
      have df138 := DFL.appK (df32) (bf_hx.mono hm0.size) hkd127
      have nx139 : NxK [] H0.size K127 := NxK.tr (nx33) hkd127 hm0.size
      replace mx := mx.upL hs127 (df28)
      replace hd := hd.upL hs127 (df29)
      replace hl := hl.upL hs127 (df30)
      replace hp := hp.upL hs127 (df31)
      replace hx := fun x hx0 => (hx x hx0).upL hs127 (df32)
      replace hm0 := (Mo.trL (ks := []) (hm0.mdn []) hs127 (MIL.ofK0 (nx33))).nil
      have hz23 := hs127.size
      have hbk_hf := hf.bk
      have hSe := hS.crash picks
      have hKe := hKp.crash picks
      obtain ⟨w1, w2⟩ := hKe.read (by decide)
      refine LR.nil ?_
      refine hK35 _ _ ?_
      refine CW.seq (fun K36 hK36 hE36 => ?_)
      refine CW.region ?_
      refine LR.v (Y.move rfl rfl) (Wd.u rfl) rfl rfl ?_
      -- call (*selvage/simfs.FS).Read
      refine LR.call rfl Tryd.call18 rfl (Wd.u rfl) rfl rfl (read_ct mx_ K127 g127 b20 (Di.crash picks) pK w0 _ mx (bf_mx.mono (by omega)) hf (by decide) (fun j => by have := (hSe.f j).1; omega)) (fun v130 H130 r130 => ?_)
      obtain ⟨s130, k130, rfl, ow130, hk130, hs130⟩ := r130
      have df140 := DF.app (DF.z) (bf_mx.mono hm0.size) hk130
      have df141 := DF.app (DF.z) (bf_hd.mono hm0.size) hk130
      have df142 := DF.app (DF.z) (bf_hl.mono hm0.size) hk130
      have df143 := DF.app (DF.z) (bf_hp.mono hm0.size) hk130
      have df144 := DF.app (DF.z) (bf_hx.mono hm0.size) hk130
      have dj145 : DL k130 K127 := DL.app2 (DL.zK) hf.bk hk130
      have nx146 : Nx 0 H0.size k130 := Nx.tr (Nx.refl 0 _) hk130 hm0.size
      replace mx := mx.nw hs130
      replace hd := hd.nw hs130
      replace hl := hl.nw hs130
      replace hp := hp.nw hs130
      replace hx := fun x hx0 => (hx x hx0).nw hs130
      replace hf := hf.nw hs130
      replace hm0 := hm0.tr hs130
      have hz24 := hs130.size
      have hle_ow130 := ow130.le
      refine LR.v (Y.move rfl rfl) (Wd.u rfl) rfl rfl ?_
      refine LR.v (Y.extract rfl rfl rfl) (Wd.u rfl) rfl rfl ?_
      refine LR.v (Y.extract rfl rfl rfl) (Wd.u rfl) rfl rfl ?_
      refine LR.v (Y.assign rfl rfl) (Wd.u rfl) rfl rfl ?_
      refine LR.v (Y.assign rfl rfl) (Wd.u rfl) rfl rfl ?_
      refine LR.nil ?_
      refine hK36 _ _ ?_
      refine CW.seq (fun K37 hK37 hE37 => ?_)
      refine CW.region ?_
      refine LR.v (Y.move rfl rfl) (Wd.u rfl) rfl rfl ?_
      refine LR.v ((Y.eql rfl rfl rfl).isT ((by rw [w1]; rfl))) (Wd.u rfl) rfl rfl ?_
      refine LR.v (Y.move rfl rfl) (Wd.u rfl) rfl rfl ?_
      refine LR.v (Y.move rfl rfl) (Wd.g rfl rfl rfl) rfl rfl ?_
      refine LR.v (Y.bstr ow130.rd rfl Tryd.underlying25 Tryd.underlying9 Tryd.underlying5 rfl) (Wd.g rfl rfl rfl) rfl rfl ?_
      refine LR.v (Y.move rfl rfl) (Wd.g rfl rfl rfl) rfl rfl ?_
      refine LR.v (Y.bstr hd rfl Tryd.underlying25 Tryd.underlying9 Tryd.underlying5 rfl) (Wd.g rfl rfl rfl) rfl rfl ?_
      refine LR.v ((Y.seql rfl rfl rfl).isT ((by rw [w2]))) (Wd.g rfl rfl rfl) rfl rfl ?_
      refine LR.v (Y.pick_t rfl rfl rfl) (Wd.u rfl) rfl rfl ?_
      refine LR.v (Y.assign rfl rfl) (Wd.u rfl) rfl rfl ?_
      refine LR.nil ?_
      refine hK37 _ _ ?_
      refine CW.ret (hret .ret (.inr rfl) _ _ _ (res1 rfl rfl) ?_)
      exact ⟨rfl, hm0⟩

end Go.Proofs.YtfbfjhppppoilaaDoor.SimZ
