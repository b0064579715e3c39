/-
  The disk: dead from an operation on (the statement SimfsDead's function).
-/
import Derived.Test.YtfbfjhppppoilaaDoorSimYA
import Derived.Test.YtfbfjhppppoilaaDoorSimZ
namespace Go.Proofs.YtfbfjhppppoilaaDoor.SimYB
open Go.Proofs.YtfbfjhppppoilaaDoor.E Go.RowKit Go.Proofs.YtfbfjhppppoilaaDoor.SimA Go.Proofs.YtfbfjhppppoilaaDoor.SimB Go.Proofs.YtfbfjhppppoilaaDoor.SimC Go.Proofs.YtfbfjhppppoilaaDoor.SimD Go.Proofs.YtfbfjhppppoilaaDoor.SimE Go.Proofs.YtfbfjhppppoilaaDoor.SimF Go.Proofs.YtfbfjhppppoilaaDoor.SimG Go.Proofs.YtfbfjhppppoilaaDoor.SimH Go.Proofs.YtfbfjhppppoilaaDoor.SimI Go.Proofs.YtfbfjhppppoilaaDoor.SimJ Go.Proofs.YtfbfjhppppoilaaDoor.SimK Go.Proofs.YtfbfjhppppoilaaDoor.SimL Go.Proofs.YtfbfjhppppoilaaDoor.SimM Go.Proofs.YtfbfjhppppoilaaDoor.SimN Go.Proofs.YtfbfjhppppoilaaDoor.SimP Go.Proofs.YtfbfjhppppoilaaDoor.SimQ Go.Proofs.YtfbfjhppppoilaaDoor.SimR Go.Proofs.YtfbfjhppppoilaaDoor.SimS Go.Proofs.YtfbfjhppppoilaaDoor.SimU Go.Proofs.YtfbfjhppppoilaaDoor.SimY Go.Proofs.YtfbfjhppppoilaaDoor.SimYA Go.Proofs.YtfbfjhppppoilaaDoor.SimZ
set_option maxRecDepth 20000
set_option linter.unusedVariables false
set_option linter.unusedSimpArgs false
set_option linter.unusedSectionVars false
set_option maxHeartbeats 8000000 in
theorem sdead_ct (mx_ : Int) (s1 : SV) (nn : Int) (l : List Cl) (w0 : World) (H0 : Heap)
    (mx : MX mx_ H0) (bf_mx : BF (fun b => b = 0) H0.size) (hl : RdT H0 fCl 6 s1.v l) (hx : ∀ x ∈ l, RdT H0 fB 1 x.dv.v x.d) (hci : ∀ x ∈ l, ClI x) (hnn : -9223372036854775808 ≤ nn ∧ nn ≤ 9223372036854775807) :
    Ct Tryd.prog w0 10 #[.int .i64 nn, s1.v] H0 (fun r H2 => r = .bool true ∧ Nw H0 H2) := by
  refine Ct.enter (args := [.int .i64 nn, s1.v]) Tryd.func10 rfl rfl rfl ?_
  intro Q0 hret
  have hm0 : Nw H0 H0 := Mo.refl _ _
  replace hl := hl.bnd
  have bf_hl := hl.bf
  replace hx := fun x hx0 => (hx x hx0).bnd
  have bf_hx : BF (fun b => True ∧ b < H0.size) H0.size := fun b h => h.2
  refine CW.seq (fun K1 hK1 hE1 => ?_)
  refine CW.region ?_
  refine LR.v (Y.assign rfl rfl) (Wd.u rfl) rfl rfl ?_
  refine LR.nil ?_
  refine hK1 _ _ ?_
  refine CW.seq (fun K2 hK2 hE2 => ?_)
  refine CW.seq (fun K3 hK3 hE3 => ?_)
  refine CW.region ?_
  -- call selvage/selvagelaw2.known
  refine LR.call rfl Tryd.call11 rfl (Wd.u rfl) rfl rfl (known_ct mx_ w0 _ mx bf_mx) (fun v16 H16 r16 => ?_)
  obtain ⟨rfl, hs16⟩ := r16
  replace mx := mx.nw hs16
  replace hl := hl.nw hs16
  replace hx := fun x hx0 => (hx x hx0).nw hs16
  replace hm0 := hm0.tr hs16
  have hz1 := hs16.size
  refine LR.v (Y.not rfl rfl) (Wd.u rfl) rfl rfl ?_
  refine LR.nil ?_
  refine hK3 _ _ ?_
  refine CW.cond_f rfl ?_
  refine CW.skip ?_
  refine hK2 _ _ ?_
  refine CW.seq (fun K4 hK4 hE4 => ?_)
  refine CW.region ?_
  -- call selvage/simfs.New
  refine LR.call rfl Tryd.call16 rfl (Wd.u rfl) rfl rfl (new_ct 65536 1024 w0 _ (by decide) (by decide)) (fun v19 H19 r19 => ?_)
  obtain ⟨Q19, g19, b19, rfl, hf, hkn19, hs19⟩ := r19
  have df1 := DFL.appK (DFL.nil) (bf_mx.mono hm0.size) hkn19
  have df2 := DFL.appK (DFL.nil) (bf_hl.mono hm0.size) hkn19
  have df3 := DFL.appK (DFL.nil) (bf_hx.mono hm0.size) hkn19
  have nx4 : NxK [] H0.size Q19 := NxK.tr (NxK.refl [] _) hkn19 hm0.size
  replace mx := mx.nw hs19
  replace hl := hl.nw hs19
  replace hx := fun x hx0 => (hx x hx0).nw hs19
  replace hm0 := hm0.tr hs19
  have hz2 := hs19.size
  have hbk_hf := hf.bk
  have hS19 := Bs.empty 65536 1024
  refine LR.v (Y.move rfl rfl) (Wd.u rfl) rfl rfl ?_
  refine LR.v (Y.extract rfl rfl rfl) (Wd.u rfl) rfl rfl ?_
  refine LR.v (Y.extract rfl rfl rfl) (Wd.u rfl) rfl rfl ?_
  refine LR.v (Y.assign rfl rfl) (Wd.u rfl) rfl rfl ?_
  refine LR.v (Y.assign rfl rfl) (Wd.u rfl) rfl rfl ?_
  refine LR.nil ?_
  refine hK4 _ _ ?_
  refine CW.seq (fun K5 hK5 hE5 => ?_)
  refine CW.seq (fun K6 hK6 hE6 => ?_)
  refine CW.region ?_
  refine LR.v (Y.move rfl rfl) (Wd.u rfl) rfl rfl ?_
  refine LR.v ((Y.neq rfl rfl rfl).isF ((fun h => h rfl))) (Wd.u rfl) rfl rfl ?_
  refine LR.v (Y.move rfl rfl) (Wd.u rfl) rfl rfl ?_
  refine LR.v (Y.move rfl rfl) (Wd.g rfl rfl rfl) rfl rfl ?_
  refine LR.v (Y.peq rfl (by kernel_rfl) (by kernel_rfl) rfl rfl) (Wd.g rfl rfl rfl) rfl rfl ?_
  refine LR.v (Y.pick_f rfl rfl rfl) (Wd.u rfl) rfl rfl ?_
  refine LR.nil ?_
  refine hK6 _ _ ?_
  refine CW.cond_f rfl ?_
  refine CW.skip ?_
  refine hK5 _ _ ?_
  refine CW.seq (fun K7 hK7 hE7 => ?_)
  refine CW.region ?_
  refine LR.v (Y.move rfl rfl) (Wd.u rfl) rfl rfl ?_
  -- call selvage/selvagelaw2.within
  refine LR.call rfl Tryd.call20 rfl (Wd.u rfl) rfl rfl (within_ct nn 9 w0 _ (by omega) hnn) (fun v29 H29 r29 => ?_)
  obtain ⟨rfl, hs29⟩ := r29
  replace mx := mx.nw hs29
  replace hl := hl.nw hs29
  replace hx := fun x hx0 => (hx x hx0).nw hs29
  replace hf := hf.nw hs29
  replace hm0 := hm0.tr hs29
  have hz3 := hs29.size
  obtain ⟨n, hn⟩ : ∃ n, n = 1 + wiN nn 9 := ⟨_, rfl⟩
  have hnl := wiN_lt (a := nn) (show 0 < 9 by omega)
  refine LR.v (Y.cast (v2 := .int .i64 (n : Int)) (Y.addi rfl rfl rfl (by omega)) (ivv (by omega))) (Wd.u rfl) rfl rfl ?_
  refine LR.v (Y.assign rfl rfl) (Wd.u rfl) rfl rfl ?_
  refine LR.nil ?_
  refine hK7 _ _ ?_
  refine CW.seq (fun K8 hK8 hE8 => ?_)
  refine CW.region ?_
  refine LR.v (Y.move rfl rfl) (Wd.u rfl) rfl rfl ?_
  refine LR.v (Y.move rfl rfl) (Wd.u rfl) rfl rfl ?_
  -- call (*selvage/simfs.FS).Stop
  refine LR.call rfl Tryd.call27 rfl (Wd.u rfl) rfl rfl (stop_ct Q19 g19 b19 (Dk.empty 65536 1024) (n : Int) w0 _ hf (by omega)) (fun v33 H33 r33 => ?_)
  obtain ⟨g33, rfl, hf, hg33, hs33⟩ := r33
  replace mx := mx.upL hs33 (df1)
  replace hl := hl.upL hs33 (df2)
  replace hx := fun x hx0 => (hx x hx0).upL hs33 (df3)
  replace hm0 := (Mo.trL (ks := []) (hm0.mdn []) hs33 (MIL.ofK0 (nx4))).nil
  have hz4 := hs33.size
  simp only [Int.toNat_natCast] at hf
  have hD0 := Dd.start n (by omega)
  refine LR.nil ?_
  refine hK8 _ _ ?_
  refine CW.seq (fun K9 hK9 hE9 => ?_)
  refine CW.region ?_
  refine LR.v (Y.assign rfl rfl) (Wd.u rfl) rfl rfl ?_
  refine LR.nil ?_
  refine hK9 _ _ ?_
  refine CW.seq (fun K10 hK10 hE10 => ?_)
  refine CW.seq (fun K11 hK11 hE11 => ?_)
  refine CW.region ?_
  refine LR.v (Y.assign rfl rfl) (Wd.u rfl) rfl rfl ?_
  refine LR.nil ?_
  refine hK11 _ _ ?_
  refine CW.block (fun K12 hK12 hX12 hE12 => ?_)
  refine CW.loop (fun (s_ : (Nat) × (Nat) × (List Nat) × (Gh) × (Dk)) => match s_ with | (i, m, Ki, gi, Di) => [(0, .int .i64 (n : Int)), (1, s1.v), (5, ptr b19), (7, .int .i64 (m : Int)), (8, .int .i64 (i : Int))])
    (fun (s_ : (Nat) × (Nat) × (List Nat) × (Gh) × (Dk)) (H : Heap) => match s_ with | (i, m, Ki, gi, Di) => (PDk Ki gi H b19 Di) ∧ (i ≤ l.length ∧ i ≤ 30 ∧ m ≤ i) ∧ (Dd n m Di) ∧ (NxK Q19 H33.size Ki) ∧ Mo (Ms Q19) H33 H)
    (fun (s_ : (Nat) × (Nat) × (List Nat) × (Gh) × (Dk)) => match s_ with | (i, m, Ki, gi, Di) => l.length - i) (0, 0, Q19, g33, (Dk.empty 65536 1024).stop n) ⟨rfl, rfl, rfl, rfl, rfl, trivial⟩ ?_ ?_
  ·
    exact ⟨hf, (by omega), hD0, NxK.refl _ _, Mo.refl _ _⟩
  rintro ⟨i, m, Ki, gi, Di⟩ HL1 hI1 K13 hN13 hE13
  obtain ⟨hf, hi, hD, nxl_hf, hlm1⟩ := hI1
  have df5 := DFL.appK (df1) (bf_mx.mono hm0.size) nxl_hf
  have df6 := DFL.appK (df2) (bf_hl.mono hm0.size) nxl_hf
  have df7 := DFL.appK (df3) (bf_hx.mono hm0.size) nxl_hf
  have nx8 : NxK [] H0.size Ki := NxK.tr (nx4) nxl_hf hm0.size
  replace mx := mx.upL hlm1 (df1)
  replace hl := hl.upL hlm1 (df2)
  replace hx := fun x hx0 => (hx x hx0).upL hlm1 (df3)
  replace hm0 := (Mo.trL (ks := []) (hm0.mdn []) hlm1 (MIL.ofK0 (nx4))).nil
  have hz5 := hlm1.size
  have hbk_hf := hf.bk
  have nx9 := nxl_hf
  refine CW.seq (fun K14 hK14 hE14 => ?_)
  refine CW.seq (fun K15 hK15 hE15 => ?_)
  refine CW.region ?_
  refine LR.v (Y.move rfl rfl) (Wd.u rfl) rfl rfl ?_
  refine LR.v (Y.move rfl rfl) (Wd.u rfl) rfl rfl ?_
  refine LR.v (Y.len hl rfl Tryd.runUnderlying49 rfl) (Wd.u rfl) rfl rfl ?_
  refine LR.v (Y.lss rfl rfl rfl) (Wd.u rfl) rfl rfl ?_
  refine LR.v (Y.move rfl rfl) (Wd.u rfl) rfl rfl ?_
  refine LR.splitp (d := 38) rfl (fun g38 => ?_) (fun g38 => ?_)
  ·
    refine LR.v (Y.move rfl rfl) (Wd.g rfl rfl rfl) rfl rfl ?_
    refine LR.v (Y.lss rfl rfl rfl) (Wd.g rfl rfl rfl) rfl rfl ?_
    refine LR.v (Y.pick_t rfl rfl rfl) (Wd.u rfl) rfl rfl ?_
    refine LR.nil ?_
    refine hK15 _ _ ?_
    refine CW.condp rfl (fun c41 => ?_) (fun c41 => ?_)
    ·
      have hil : i < l.length := by omega
      have hcn := (hci _ (List.getElem_mem hil)).2.1
      have hck := (hci _ (List.getElem_mem hil)).1
      refine CW.skip ?_
      refine hK14 _ _ ?_
      refine CW.seq (fun K16 hK16 hE16 => ?_)
      refine CW.block (fun K17 hK17 hX17 hE17 => ?_)
      refine CW.seq (fun K18 hK18 hE18 => ?_)
      refine CW.region ?_
      refine LR.v (Y.move rfl rfl) (Wd.u rfl) rfl rfl ?_
      refine LR.v (Y.move rfl rfl) (Wd.u rfl) rfl rfl ?_
      refine LR.e (g := fun ad => .pointer (some ad)) (Y.indexAddrF hl (i) rfl Tryd.runUnderlying49 Tryd.sizeOf51 rfl rfl (by first | rfl | omega) (by first | omega | (simp; omega) | (simp; done))) (Wd.u rfl) rfl rfl (fun ad46 pt46 => ?_)
      have bf_pt46 := bf_hl
      refine LR.v (Y.cast (v2 := .agg (fCl l[i]).toArray) (Y.loadN pt46.pt rfl Tryd.isAgg51 Tryd.sizeOf51 (fCl_len _) rfl) (rfl)) (Wd.u rfl) rfl rfl ?_
      refine LR.z (Z.allocv rfl Tryd.zeroValue51) (Wd.u rfl) rfl rfl (fun v9 H9 r9 => ?_)
      obtain ⟨rfl, v9, hs9, ob9, hH9⟩ := r9
      have hzs9 : H9.size = HL1.size + 1 := by rw [hH9]; simp
      have df10 := (DF.new (bf_mx.mono hm0.size) : DF _ (HL1.size + 1))
      have df11 := (DF.new (bf_hl.mono hm0.size) : DF _ (HL1.size + 1))
      have df12 := (DF.new (bf_hx.mono hm0.size) : DF _ (HL1.size + 1))
      have dj13 : DL (HL1.size + 1) Ki := DL.newK hf.bk
      have df14 := (DF.new (bf_pt46.mono hm0.size) : DF _ (HL1.size + 1))
      have nx15 : Nx 0 H0.size (HL1.size + 1) := Nx.new hm0.size
      have nx16 : Nx 0 H33.size (HL1.size + 1) := Nx.new hlm1.size
      replace mx := mx.nw hs9
      replace hl := hl.nw hs9
      replace hx := fun x hx0 => (hx x hx0).nw hs9
      replace hf := hf.nw hs9
      replace pt46 := pt46.nw hs9
      replace hm0 := hm0.tr hs9
      replace hlm1 := hlm1.trN hs9
      have hz6 := hs9.size
      refine LR.s (S.var v9 (_) (fCl l[i]) rfl rfl rfl rfl (fCl_one _) Tryd.sizeOf51 (fCl_len _) (by decide) ((splice_all2 (fCl_len _).symm))) (Wd.u rfl) rfl (fun H12_5 r12_5 => ?_)
      obtain ⟨v9, hs12_5⟩ := r12_5
      replace hs12_5 := hs12_5.md1
      replace mx := mx.upL hs12_5 (DFL.cons df10 DFL.nil)
      replace hl := hl.upL hs12_5 (DFL.cons df11 DFL.nil)
      replace hx := fun x hx0 => (hx x hx0).upL hs12_5 (DFL.cons df12 DFL.nil)
      replace hf := hf.upL hs12_5 (DKL.cons dj13 DKL.nil)
      replace pt46 := pt46.upL hs12_5 (DFL.cons df14 DFL.nil)
      replace hm0 := (Mo.trL (ks := []) (hm0.mdn []) hs12_5 (MIL.cons (MI.app MI.z (nx15) (Nat.le_refl _)) MIL.nil)).nil
      replace hlm1 := hlm1.trL hs12_5 (MIL.cons (MI.app MI.z (nx16) (Nat.le_refl _)) MIL.nil)
      have hz7 := hs12_5.size
      refine LR.nil ?_
      refine hK18 _ _ ?_
      refine CW.seq (fun K19 hK19 hE19 => ?_)
      refine CW.seq (fun K20 hK20 hE20 => ?_)
      refine CW.region ?_
      refine LR.v (Y.fieldAddr v9.pt rfl Tryd.runUnderlying51 rfl rfl Tryd.sizeOf25 (by decide) rfl) (Wd.u rfl) rfl rfl ?_
      refine LR.v (Y.load1 (v9.pt.drop 4) rfl Tryd.isAgg25 rfl) (Wd.u rfl) rfl rfl ?_
      refine LR.v (Y.len (hx _ (List.getElem_mem hil)) rfl Tryd.runUnderlying25 rfl) (Wd.u rfl) rfl rfl ?_
      refine LR.v (Y.gtr rfl rfl rfl) (Wd.u rfl) rfl rfl ?_
      refine LR.nil ?_
      refine hK20 _ _ ?_
      refine CW.condp rfl (fun c51 => ?_) (fun c51 => ?_)
      ·
        refine CW.exit (hE19 (.exit 1) nofun _ _ (hX17 _ _ ?_))
        refine hK16 _ _ ?_
        refine CW.region ?_
        refine LR.v (Y.move rfl rfl) (Wd.u rfl) rfl rfl ?_
        refine LR.v (Y.addi rfl rfl rfl (by omega)) (Wd.u rfl) rfl rfl ?_
        refine LR.v (Y.assign rfl rfl) (Wd.u rfl) rfl rfl ?_
        refine LR.nil ?_
        refine QN.sub (hN13 (i + 1, m, Ki, gi, Di) _ ?_ ?_) ⟨(iv (by omega)), rfl, rfl, (iv (by omega)), (iv (by omega)), trivial⟩
        · exact ⟨hf, (by omega), hD, nx9, hlm1⟩
        · first | omega | (simp only; omega) | (simp; omega)
      ·
        refine CW.skip ?_
        refine hK19 _ _ ?_
        refine CW.seq (fun K21 hK21 hE21 => ?_)
        refine CW.region_any (fun Hq => Nw H12_5 Hq) [] rfl ?_
        have hqs := Nw.refl H12_5
        refine LH.take 0 (by kernel_rfl) rfl (by kernel_rfl) (by kernel_rfl) (by kernel_rfl) (fun Hq hq => Y.fieldAddr (v9.pt.nw hq) rfl Tryd.runUnderlying51 rfl rfl Tryd.sizeOf3 (by decide) rfl) (Wd.u rfl) rfl rfl hqs ?_
        refine LH.take 1 (by kernel_rfl) rfl (by kernel_rfl) (by kernel_rfl) (by kernel_rfl) (fun Hq hq => Y.load1 ((v9.pt.drop 1).nw hq) rfl Tryd.isAgg3 rfl) (Wd.u rfl) rfl rfl hqs ?_
        refine LH.take 3 (by kernel_rfl) rfl (by kernel_rfl) (by kernel_rfl) (by kernel_rfl) (fun Hq hq => Y.fieldAddr (v9.pt.nw hq) rfl Tryd.runUnderlying51 rfl rfl Tryd.sizeOf3 (by decide) rfl) (Wd.u rfl) rfl rfl hqs ?_
        refine LH.take 4 (by kernel_rfl) rfl (by kernel_rfl) (by kernel_rfl) (by kernel_rfl) (fun Hq hq => Y.load1 ((v9.pt.drop 1).nw hq) rfl Tryd.isAgg3 rfl) (Wd.u rfl) rfl rfl hqs ?_
        refine LH.take 5 (by kernel_rfl) rfl (by kernel_rfl) (by kernel_rfl) (by kernel_rfl) (fun Hq hq => Y.cast (v2 := .int .i64 (l[i].n.tdiv 7)) (Y.quo rfl rfl rfl (by omega)) (ivv (IntWalk.i64_in _ (tdb7 _ hcn)))) (Wd.u rfl) rfl rfl hqs ?_
        refine LH.one (i := 2) (by kernel_rfl) ?_
        -- call selvage/selvagelaw2.path
        refine LO.call rfl rfl Tryd.call22 rfl (Wd.u rfl) rfl rfl (path_ct l[i].n w0 _ hcn) (fun v54 H54 r54 => ?_)
        obtain ⟨rfl, hs54⟩ := r54
        replace mx := mx.nw hs54
        replace hl := hl.nw hs54
        replace hx := fun x hx0 => (hx x hx0).nw hs54
        replace hf := hf.nw hs54
        replace v9 := v9.nw hs54
        replace hm0 := hm0.tr hs54
        replace hlm1 := hlm1.trN hs54
        have hz8 := hs54.size
        have hq54 := hqs.tr hs54
        refine ⟨.inr hq54, LH.narrow (SH2 := fun Hq => Nw H54 Hq) (fun Hq hq => hq54.tr hq) ?_⟩
        have hqn54 := Nw.refl H54
        refine LH.one (i := 6) (by kernel_rfl) ?_
        -- call selvage/selvagelaw2.path
        refine LO.call rfl rfl Tryd.call22 rfl (Wd.u rfl) rfl rfl (path_ct (l[i].n.tdiv 7) w0 _ (tdb7 _ hcn)) (fun v58 H58 r58 => ?_)
        obtain ⟨rfl, hs58⟩ := r58
        replace mx := mx.nw hs58
        replace hl := hl.nw hs58
        replace hx := fun x hx0 => (hx x hx0).nw hs58
        replace hf := hf.nw hs58
        replace v9 := v9.nw hs58
        replace hm0 := hm0.tr hs58
        replace hlm1 := hlm1.trN hs58
        have hz9 := hs58.size
        have hq58 := hqn54.tr hs58
        refine ⟨.inr hq58, LH.narrow (SH2 := fun Hq => Nw H58 Hq) (fun Hq hq => hq58.tr hq) ?_⟩
        have hqn58 := Nw.refl H58
        refine LH.take 7 (by kernel_rfl) rfl (by kernel_rfl) (by kernel_rfl) (by kernel_rfl) (fun Hq hq => Y.assign rfl rfl) (Wd.u rfl) rfl rfl hqn58 ?_
        refine LH.take 8 (by kernel_rfl) rfl (by kernel_rfl) (by kernel_rfl) (by kernel_rfl) (fun Hq hq => Y.assign rfl rfl) (Wd.u rfl) rfl rfl hqn58 ?_
        refine LH.done (by kernel_rfl) ?_
        have hqe := hqn58
        refine hK21 _ _ ?_
        refine CW.seq (fun K22 hK22 hE22 => ?_)
        refine CW.region ?_
        refine LR.v (Y.assign rfl rfl) (Wd.u rfl) rfl rfl ?_
        refine LR.nil ?_
        refine hK22 _ _ ?_
        refine CW.seq (fun K23 hK23 hE23 => ?_)
        refine CW.region ?_
        refine LR.v (Y.assign rfl rfl) (Wd.u rfl) rfl rfl ?_
        refine LR.nil ?_
        refine hK23 _ _ ?_
        refine CW.cut (fun (s_ : (List Nat) × (Gh) × (Dk) × (Nat) × (Bool)) => match s_ with | (Ka, ga, Da, r, ob) => [(0, .int .i64 (n : Int)), (1, s1.v), (5, ptr b19), (7, .int .i64 (m : Int)), (8, .int .i64 (i : Int)), (12, .int .i64 (r : Int)), (13, .bool ob)])
          (fun (s_ : (List Nat) × (Gh) × (Dk) × (Nat) × (Bool)) (H : Heap) => match s_ with | (Ka, ga, Da, r, ob) => (PDk Ka ga H b19 Da) ∧ (Dd n (m + (if ob = true then 1 else 0)) Da) ∧ (r = 11 ↔ n ≤ m + (if ob = true then 1 else 0)) ∧ (NxK Ki H58.size Ka) ∧ Mo (Ms Ki) H58 H) (fun K24 hK24 hE24 => ?_) ?_
        ·
          have hcm24 : Mo (Ms Ki) H58 H58 := Mo.refl _ _
          have nx_hcm24_hf := NxK.refl Ki H58.size
          refine CW.seq (fun K25 hK25 hE25 => ?_)
          refine CW.region ?_
          refine LR.v (Y.fieldAddr v9.pt rfl Tryd.runUnderlying51 rfl rfl Tryd.sizeOf3 (by decide) rfl) (Wd.u rfl) rfl rfl ?_
          refine LR.v (Y.load1 v9.pt rfl Tryd.isAgg3 rfl) (Wd.u rfl) rfl rfl ?_
          -- call selvage/selvagelaw2.within
          refine LR.call rfl Tryd.call20 rfl (Wd.u rfl) rfl rfl (within_ct l[i].kd 8 w0 _ (by omega) hck) (fun v61 H61 r61 => ?_)
          obtain ⟨rfl, hs61⟩ := r61
          replace mx := mx.nw hs61
          replace hl := hl.nw hs61
          replace hx := fun x hx0 => (hx x hx0).nw hs61
          replace hf := hf.nw hs61
          replace v9 := v9.nw hs61
          replace hm0 := hm0.tr hs61
          replace hlm1 := hlm1.trN hs61
          replace hcm24 := hcm24.trN hs61
          have hz10 := hs61.size
          refine LR.nil ?_
          refine hK25 _ _ ?_
          refine CW.block (fun K26 hK26 hX26 hE26 => ?_)
          refine CW.seq (fun K27 hK27 hE27 => ?_)
          refine CW.region ?_
          refine LR.v (Y.eql rfl rfl rfl) (Wd.u rfl) rfl rfl ?_
          refine LR.v (Y.assign rfl rfl) (Wd.u rfl) rfl rfl ?_
          refine LR.nil ?_
          refine hK27 _ _ ?_
          refine CW.condp rfl (fun c69 => ?_) (fun c69 => ?_)
          ·
            refine CW.region ?_
            refine LR.v (Y.move rfl rfl) (Wd.u rfl) rfl rfl ?_
            refine LR.v (Y.move rfl rfl) (Wd.u rfl) rfl rfl ?_
            refine LR.v (Y.fieldAddr v9.pt rfl Tryd.runUnderlying51 rfl rfl Tryd.sizeOf25 (by decide) rfl) (Wd.u rfl) rfl rfl ?_
            refine LR.v (Y.load1 (v9.pt.drop 4) rfl Tryd.isAgg25 rfl) (Wd.u rfl) rfl rfl ?_
            -- call (*selvage/simfs.FS).Write
            refine LR.call rfl Tryd.call17 rfl (Wd.u rfl) rfl rfl (write_ct mx_ Ki gi b19 Di (pathN l[i].n) l[i].dv l[i].d _ w0 _ hf mx (bf_mx.mono (by omega)) (df5) (hx _ (List.getElem_mem hil)) (bf_hx.mono (by omega)) (df7) (by have := (pathN_ne l[i].n).2.1; omega) (hD.bs.bd (by omega)) (by omega)) (fun v75 H75 r75 => ?_)
            have ql17 := hf.bk
            have ql18 := v9.lt
            obtain ⟨K75, g75, rfl, hf, hkd75, hs75⟩ := r75
            have df19 := DFL.appK (df5) (bf_mx.mono hm0.size) hkd75
            have df20 := DFL.appK (df6) (bf_hl.mono hm0.size) hkd75
            have df21 := DFL.appK (df7) (bf_hx.mono hm0.size) hkd75
            have dj22 : DL (HL1.size + 1) K75 := DL.appK (dj13) ql18 hkd75
            have nx23 : NxK [] H0.size K75 := NxK.tr (nx8) hkd75 hm0.size
            have nx24 : NxK Q19 H33.size K75 := NxK.tr (nx9) hkd75 hlm1.size
            have nx25 : NxK Ki H58.size K75 := NxK.tr (nx_hcm24_hf) hkd75 hcm24.size
            replace mx := mx.upL hs75 (df5)
            replace hl := hl.upL hs75 (df6)
            replace hx := fun x hx0 => (hx x hx0).upL hs75 (df7)
            replace v9 := v9.upL hs75 (dj13)
            replace hm0 := (Mo.trL (ks := []) (hm0.mdn []) hs75 (MIL.ofK0 (nx8))).nil
            replace hlm1 := hlm1.trL hs75 (MIL.ofK (nx9) (by intro k hk; simp [hk]))
            replace hcm24 := hcm24.trL hs75 (MIL.ofK (nx_hcm24_hf) (by intro k hk; simp [hk]))
            have hz11 := hs75.size
            have hbk_hf := hf.bk
            refine LR.v (Y.assign rfl rfl) (Wd.u rfl) rfl rfl ?_
            refine LR.nil ?_
            refine hK26 _ _ ?_
            refine QN.sub (hK24 (K75, g75, (Di.lay (pathN l[i].n) ⟨false, l[i].d⟩).2, (Di.lay (pathN l[i].n) ⟨false, l[i].d⟩).1, true) _ ?_) ⟨(iv (by omega)), rfl, rfl, (iv (by omega)), (iv (by omega)), (iv (by omega)), rfl, trivial⟩
            exact ⟨hf, (by rw [if_pos rfl]; exact (hD.lay (by omega) (pathN_ne l[i].n).2.2 ⟨false, l[i].d⟩ (show l[i].d.length ≤ 500 by omega)).1), (by rw [if_pos rfl]; exact (hD.lay (by omega) (pathN_ne l[i].n).2.2 ⟨false, l[i].d⟩ (show l[i].d.length ≤ 500 by omega)).2), nx25, hcm24⟩
          ·
            refine CW.seq (fun K28 hK28 hE28 => ?_)
            refine CW.region ?_
            refine LR.v (Y.eql rfl rfl rfl) (Wd.u rfl) rfl rfl ?_
            refine LR.v (Y.assign rfl rfl) (Wd.u rfl) rfl rfl ?_
            refine LR.nil ?_
            refine hK28 _ _ ?_
            refine CW.condp rfl (fun c76 => ?_) (fun c76 => ?_)
            ·
              refine CW.region ?_
              refine LR.v (Y.move rfl rfl) (Wd.u rfl) rfl rfl ?_
              refine LR.v (Y.move rfl rfl) (Wd.u rfl) rfl rfl ?_
              refine LR.v (Y.fieldAddr v9.pt rfl Tryd.runUnderlying51 rfl rfl Tryd.sizeOf25 (by decide) rfl) (Wd.u rfl) rfl rfl ?_
              refine LR.v (Y.load1 (v9.pt.drop 4) rfl Tryd.isAgg25 rfl) (Wd.u rfl) rfl rfl ?_
              -- call (*selvage/simfs.FS).Append
              refine LR.call rfl Tryd.call21 rfl (Wd.u rfl) rfl rfl (append_ct mx_ Ki gi b19 Di (pathN l[i].n) l[i].dv l[i].d _ w0 _ hf mx (bf_mx.mono (by omega)) (df5) (hx _ (List.getElem_mem hil)) (bf_hx.mono (by omega)) (df7) (by have := (pathN_ne l[i].n).2.1; omega) (hD.bs.bd (by omega)) (by omega)) (fun v82 H82 r82 => ?_)
              have ql26 := hf.bk
              have ql27 := v9.lt
              obtain ⟨K82, g82, rfl, hf, hkd82, hs82⟩ := r82
              have df28 := DFL.appK (df5) (bf_mx.mono hm0.size) hkd82
              have df29 := DFL.appK (df6) (bf_hl.mono hm0.size) hkd82
              have df30 := DFL.appK (df7) (bf_hx.mono hm0.size) hkd82
              have dj31 : DL (HL1.size + 1) K82 := DL.appK (dj13) ql27 hkd82
              have nx32 : NxK [] H0.size K82 := NxK.tr (nx8) hkd82 hm0.size
              have nx33 : NxK Q19 H33.size K82 := NxK.tr (nx9) hkd82 hlm1.size
              have nx34 : NxK Ki H58.size K82 := NxK.tr (nx_hcm24_hf) hkd82 hcm24.size
              replace mx := mx.upL hs82 (df5)
              replace hl := hl.upL hs82 (df6)
              replace hx := fun x hx0 => (hx x hx0).upL hs82 (df7)
              replace v9 := v9.upL hs82 (dj13)
              replace hm0 := (Mo.trL (ks := []) (hm0.mdn []) hs82 (MIL.ofK0 (nx8))).nil
              replace hlm1 := hlm1.trL hs82 (MIL.ofK (nx9) (by intro k hk; simp [hk]))
              replace hcm24 := hcm24.trL hs82 (MIL.ofK (nx_hcm24_hf) (by intro k hk; simp [hk]))
              have hz12 := hs82.size
              have hbk_hf := hf.bk
              refine LR.v (Y.assign rfl rfl) (Wd.u rfl) rfl rfl ?_
              refine LR.nil ?_
              refine hK26 _ _ ?_
              refine QN.sub (hK24 (K82, g82, (Di.lay (pathN l[i].n) ⟨true, l[i].d⟩).2, (Di.lay (pathN l[i].n) ⟨true, l[i].d⟩).1, true) _ ?_) ⟨(iv (by omega)), rfl, rfl, (iv (by omega)), (iv (by omega)), (iv (by omega)), rfl, trivial⟩
              exact ⟨hf, (by rw [if_pos rfl]; exact (hD.lay (by omega) (pathN_ne l[i].n).2.2 ⟨true, l[i].d⟩ (show l[i].d.length ≤ 500 by omega)).1), (by rw [if_pos rfl]; exact (hD.lay (by omega) (pathN_ne l[i].n).2.2 ⟨true, l[i].d⟩ (show l[i].d.length ≤ 500 by omega)).2), nx34, hcm24⟩
            ·
              refine CW.seq (fun K29 hK29 hE29 => ?_)
              refine CW.region ?_
              refine LR.v (Y.eql rfl rfl rfl) (Wd.u rfl) rfl rfl ?_
              refine LR.v (Y.assign rfl rfl) (Wd.u rfl) rfl rfl ?_
              refine LR.nil ?_
              refine hK29 _ _ ?_
              refine CW.condp rfl (fun c83 => ?_) (fun c83 => ?_)
              ·
                refine CW.region ?_
                refine LR.v (Y.move rfl rfl) (Wd.u rfl) rfl rfl ?_
                refine LR.v (Y.move rfl rfl) (Wd.u rfl) rfl rfl ?_
                -- call (*selvage/simfs.FS).Sync
                refine LR.call rfl Tryd.call23 rfl (Wd.u rfl) rfl rfl (sync_ct mx_ Ki gi b19 Di (pathN l[i].n) w0 _ hf mx (bf_mx.mono (by omega)) (df5) (by have := (pathN_ne l[i].n).2.1; omega) (hD.bs.bd (by omega))) (fun v87 H87 r87 => ?_)
                have ql35 := hf.bk
                obtain ⟨K87, g87, rfl, hf, hkd87, hs87⟩ := r87
                have df36 := DFL.appK (df5) (bf_mx.mono hm0.size) hkd87
                have df37 := DFL.appK (df6) (bf_hl.mono hm0.size) hkd87
                have df38 := DFL.appK (df7) (bf_hx.mono hm0.size) hkd87
                have nx39 : NxK [] H0.size K87 := NxK.tr (nx8) hkd87 hm0.size
                have nx40 : NxK Q19 H33.size K87 := NxK.tr (nx9) hkd87 hlm1.size
                have nx41 : NxK Ki H58.size K87 := NxK.tr (nx_hcm24_hf) hkd87 hcm24.size
                replace mx := mx.upL hs87 (df5)
                replace hl := hl.upL hs87 (df6)
                replace hx := fun x hx0 => (hx x hx0).upL hs87 (df7)
                replace hm0 := (Mo.trL (ks := []) (hm0.mdn []) hs87 (MIL.ofK0 (nx8))).nil
                replace hlm1 := hlm1.trL hs87 (MIL.ofK (nx9) (by intro k hk; simp [hk]))
                replace hcm24 := hcm24.trL hs87 (MIL.ofK (nx_hcm24_hf) (by intro k hk; simp [hk]))
                have hz13 := hs87.size
                have hbk_hf := hf.bk
                refine LR.v (Y.assign rfl rfl) (Wd.u rfl) rfl rfl ?_
                refine LR.nil ?_
                refine hK26 _ _ ?_
                refine QN.sub (hK24 (K87, g87, (Di.sync (pathN l[i].n)).2, (Di.sync (pathN l[i].n)).1, true) _ ?_) ⟨(iv (by omega)), rfl, rfl, (iv (by omega)), (iv (by omega)), (iv (by omega)), rfl, trivial⟩
                exact ⟨hf, (by rw [if_pos rfl]; exact (hD.sync (by omega) (pathN l[i].n)).1), (by rw [if_pos rfl]; exact (hD.sync (by omega) (pathN l[i].n)).2), nx41, hcm24⟩
              ·
                refine CW.seq (fun K30 hK30 hE30 => ?_)
                refine CW.region ?_
                refine LR.v (Y.eql rfl rfl rfl) (Wd.u rfl) rfl rfl ?_
                refine LR.v (Y.assign rfl rfl) (Wd.u rfl) rfl rfl ?_
                refine LR.nil ?_
                refine hK30 _ _ ?_
                refine CW.condp rfl (fun c88 => ?_) (fun c88 => ?_)
                ·
                  refine CW.region ?_
                  refine LR.v (Y.move rfl rfl) (Wd.u rfl) rfl rfl ?_
                  refine LR.v (Y.move rfl rfl) (Wd.u rfl) rfl rfl ?_
                  refine LR.v (Y.move rfl rfl) (Wd.u rfl) rfl rfl ?_
                  -- call (*selvage/simfs.FS).Rename
                  refine LR.call rfl Tryd.call28 rfl (Wd.u rfl) rfl rfl (rename_ct mx_ Ki gi b19 Di (pathN l[i].n) (pathN (l[i].n.tdiv 7)) w0 _ hf mx (bf_mx.mono (by omega)) (df5) (by have := (pathN_ne l[i].n).2.1; omega) (by have := (pathN_ne (l[i].n.tdiv 7)).2.1; omega) (hD.bs.bd (by omega))) (fun v93 H93 r93 => ?_)
                  have ql42 := hf.bk
                  obtain ⟨K93, g93, rfl, hf, hkd93, hs93⟩ := r93
                  have df43 := DFL.appK (df5) (bf_mx.mono hm0.size) hkd93
                  have df44 := DFL.appK (df6) (bf_hl.mono hm0.size) hkd93
                  have df45 := DFL.appK (df7) (bf_hx.mono hm0.size) hkd93
                  have nx46 : NxK [] H0.size K93 := NxK.tr (nx8) hkd93 hm0.size
                  have nx47 : NxK Q19 H33.size K93 := NxK.tr (nx9) hkd93 hlm1.size
                  have nx48 : NxK Ki H58.size K93 := NxK.tr (nx_hcm24_hf) hkd93 hcm24.size
                  replace mx := mx.upL hs93 (df5)
                  replace hl := hl.upL hs93 (df6)
                  replace hx := fun x hx0 => (hx x hx0).upL hs93 (df7)
                  replace hm0 := (Mo.trL (ks := []) (hm0.mdn []) hs93 (MIL.ofK0 (nx8))).nil
                  replace hlm1 := hlm1.trL hs93 (MIL.ofK (nx9) (by intro k hk; simp [hk]))
                  replace hcm24 := hcm24.trL hs93 (MIL.ofK (nx_hcm24_hf) (by intro k hk; simp [hk]))
                  have hz14 := hs93.size
                  have hbk_hf := hf.bk
                  refine LR.v (Y.assign rfl rfl) (Wd.u rfl) rfl rfl ?_
                  refine LR.nil ?_
                  refine hK26 _ _ ?_
                  refine QN.sub (hK24 (K93, g93, (Di.rename (pathN l[i].n) (pathN (l[i].n.tdiv 7))).2, (Di.rename (pathN l[i].n) (pathN (l[i].n.tdiv 7))).1, true) _ ?_) ⟨(iv (by omega)), rfl, rfl, (iv (by omega)), (iv (by omega)), (iv (by omega)), rfl, trivial⟩
                  exact ⟨hf, (by rw [if_pos rfl]; exact (hD.rename (by omega) (pathN l[i].n) (pathN_ne (l[i].n.tdiv 7)).2.2).1), (by rw [if_pos rfl]; exact (hD.rename (by omega) (pathN l[i].n) (pathN_ne (l[i].n.tdiv 7)).2.2).2), nx48, hcm24⟩
                ·
                  refine CW.seq (fun K31 hK31 hE31 => ?_)
                  refine CW.region ?_
                  refine LR.v (Y.eql rfl rfl rfl) (Wd.u rfl) rfl rfl ?_
                  refine LR.v (Y.assign rfl rfl) (Wd.u rfl) rfl rfl ?_
                  refine LR.nil ?_
                  refine hK31 _ _ ?_
                  refine CW.condp rfl (fun c94 => ?_) (fun c94 => ?_)
                  ·
                    refine CW.region ?_
                    refine LR.v (Y.move rfl rfl) (Wd.u rfl) rfl rfl ?_
                    refine LR.v (Y.move rfl rfl) (Wd.u rfl) rfl rfl ?_
                    -- call (*selvage/simfs.FS).Remove
                    refine LR.call rfl Tryd.call29 rfl (Wd.u rfl) rfl rfl (remove_ct mx_ Ki gi b19 Di (pathN l[i].n) w0 _ hf mx (bf_mx.mono (by omega)) (df5) (by have := (pathN_ne l[i].n).2.1; omega) (hD.bs.bd (by omega))) (fun v98 H98 r98 => ?_)
                    have ql49 := hf.bk
                    obtain ⟨K98, g98, rfl, hf, hkd98, hs98⟩ := r98
                    have df50 := DFL.appK (df5) (bf_mx.mono hm0.size) hkd98
                    have df51 := DFL.appK (df6) (bf_hl.mono hm0.size) hkd98
                    have df52 := DFL.appK (df7) (bf_hx.mono hm0.size) hkd98
                    have nx53 : NxK [] H0.size K98 := NxK.tr (nx8) hkd98 hm0.size
                    have nx54 : NxK Q19 H33.size K98 := NxK.tr (nx9) hkd98 hlm1.size
                    have nx55 : NxK Ki H58.size K98 := NxK.tr (nx_hcm24_hf) hkd98 hcm24.size
                    replace mx := mx.upL hs98 (df5)
                    replace hl := hl.upL hs98 (df6)
                    replace hx := fun x hx0 => (hx x hx0).upL hs98 (df7)
                    replace hm0 := (Mo.trL (ks := []) (hm0.mdn []) hs98 (MIL.ofK0 (nx8))).nil
                    replace hlm1 := hlm1.trL hs98 (MIL.ofK (nx9) (by intro k hk; simp [hk]))
                    replace hcm24 := hcm24.trL hs98 (MIL.ofK (nx_hcm24_hf) (by intro k hk; simp [hk]))
                    have hz15 := hs98.size
                    have hbk_hf := hf.bk
                    refine LR.v (Y.assign rfl rfl) (Wd.u rfl) rfl rfl ?_
                    refine LR.nil ?_
                    refine hK26 _ _ ?_
                    refine QN.sub (hK24 (K98, g98, (Di.remove (pathN l[i].n)).2, (Di.remove (pathN l[i].n)).1, true) _ ?_) ⟨(iv (by omega)), rfl, rfl, (iv (by omega)), (iv (by omega)), (iv (by omega)), rfl, trivial⟩
                    exact ⟨hf, (by rw [if_pos rfl]; exact (hD.remove (by omega) (pathN l[i].n)).1), (by rw [if_pos rfl]; exact (hD.remove (by omega) (pathN l[i].n)).2), nx55, hcm24⟩
                  ·
                    refine CW.seq (fun K32 hK32 hE32 => ?_)
                    refine CW.region ?_
                    refine LR.v (Y.eql rfl rfl rfl) (Wd.u rfl) rfl rfl ?_
                    refine LR.v (Y.assign rfl rfl) (Wd.u rfl) rfl rfl ?_
                    refine LR.nil ?_
                    refine hK32 _ _ ?_
                    refine CW.condp rfl (fun c99 => ?_) (fun c99 => ?_)
                    ·
                      refine CW.region ?_
                      refine LR.v (Y.move rfl rfl) (Wd.u rfl) rfl rfl ?_
                      refine LR.v (Y.move rfl rfl) (Wd.u rfl) rfl rfl ?_
                      -- call selvage/simfs.Dir
                      refine LR.call rfl Tryd.call14 rfl (Wd.u rfl) rfl rfl (dir_ct mx_ (pathN l[i].n) w0 _ mx (bf_mx.mono (by omega)) (by have := (pathN_ne l[i].n).2.1; omega)) (fun v103 H103 r103 => ?_)
                      obtain ⟨rfl, hs103⟩ := r103
                      replace mx := mx.nw hs103
                      replace hl := hl.nw hs103
                      replace hx := fun x hx0 => (hx x hx0).nw hs103
                      replace hf := hf.nw hs103
                      replace hm0 := hm0.tr hs103
                      replace hlm1 := hlm1.trN hs103
                      replace hcm24 := hcm24.trN hs103
                      have hz16 := hs103.size
                      -- call (*selvage/simfs.FS).SyncDir
                      refine LR.call rfl Tryd.call24 rfl (Wd.u rfl) rfl rfl (syncDir_ct mx_ Ki gi b19 Di (dirP (pathN l[i].n)) w0 _ hf mx (bf_mx.mono (by omega)) (df5) (by have := (pathN_ne l[i].n).2.1; have := dirP_len (pathN l[i].n); omega) (hD.bs.bd (by omega))) (fun v104 H104 r104 => ?_)
                      have ql56 := hf.bk
                      obtain ⟨K104, g104, rfl, hf, hkd104, hs104⟩ := r104
                      have df57 := DFL.appK (df5) (bf_mx.mono hm0.size) hkd104
                      have df58 := DFL.appK (df6) (bf_hl.mono hm0.size) hkd104
                      have df59 := DFL.appK (df7) (bf_hx.mono hm0.size) hkd104
                      have nx60 : NxK [] H0.size K104 := NxK.tr (nx8) hkd104 hm0.size
                      have nx61 : NxK Q19 H33.size K104 := NxK.tr (nx9) hkd104 hlm1.size
                      have nx62 : NxK Ki H58.size K104 := NxK.tr (nx_hcm24_hf) hkd104 hcm24.size
                      replace mx := mx.upL hs104 (df5)
                      replace hl := hl.upL hs104 (df6)
                      replace hx := fun x hx0 => (hx x hx0).upL hs104 (df7)
                      replace hm0 := (Mo.trL (ks := []) (hm0.mdn []) hs104 (MIL.ofK0 (nx8))).nil
                      replace hlm1 := hlm1.trL hs104 (MIL.ofK (nx9) (by intro k hk; simp [hk]))
                      replace hcm24 := hcm24.trL hs104 (MIL.ofK (nx_hcm24_hf) (by intro k hk; simp [hk]))
                      have hz17 := hs104.size
                      have hbk_hf := hf.bk
                      refine LR.v (Y.assign rfl rfl) (Wd.u rfl) rfl rfl ?_
                      refine LR.nil ?_
                      refine hK26 _ _ ?_
                      refine QN.sub (hK24 (K104, g104, (Di.syncDir (dirP (pathN l[i].n))).2, (Di.syncDir (dirP (pathN l[i].n))).1, true) _ ?_) ⟨(iv (by omega)), rfl, rfl, (iv (by omega)), (iv (by omega)), (iv (by omega)), rfl, trivial⟩
                      exact ⟨hf, (by rw [if_pos rfl]; exact (hD.syncDir (by omega) (dirP (pathN l[i].n))).1), (by rw [if_pos rfl]; exact (hD.syncDir (by omega) (dirP (pathN l[i].n))).2), nx62, hcm24⟩
                    ·
                      refine CW.seq (fun K33 hK33 hE33 => ?_)
                      refine CW.region ?_
                      refine LR.v (Y.eql rfl rfl rfl) (Wd.u rfl) rfl rfl ?_
                      refine LR.v (Y.assign rfl rfl) (Wd.u rfl) rfl rfl ?_
                      refine LR.nil ?_
                      refine hK33 _ _ ?_
                      refine CW.condp rfl (fun c105 => ?_) (fun c105 => ?_)
                      ·
                        refine CW.seq (fun K34 hK34 hE34 => ?_)
                        refine CW.region ?_
                        refine LR.v (Y.move rfl rfl) (Wd.u rfl) rfl rfl ?_
                        refine LR.v (Y.move rfl rfl) (Wd.u rfl) rfl rfl ?_
                        -- call (*selvage/simfs.FS).Read
                        refine LR.call rfl Tryd.call18 rfl (Wd.u rfl) rfl rfl (read_ct mx_ Ki gi b19 Di (pathN l[i].n) w0 _ mx (bf_mx.mono (by omega)) hf (by have := (pathN_ne l[i].n).2.1; omega) (fun j => by have := (hD.bs.f j).1; omega)) (fun v110 H110 r110 => ?_)
                        obtain ⟨s110, k110, rfl, ow110, hk110, hs110⟩ := r110
                        have df63 := DF.app (DF.z) (bf_mx.mono hm0.size) hk110
                        have df64 := DF.app (DF.z) (bf_hl.mono hm0.size) hk110
                        have df65 := DF.app (DF.z) (bf_hx.mono hm0.size) hk110
                        have dj66 : DL k110 Ki := DL.app2 (DL.zK) hf.bk hk110
                        have nx67 : Nx 0 H0.size k110 := Nx.tr (Nx.refl 0 _) hk110 hm0.size
                        have nx68 : Nx 0 H33.size k110 := Nx.tr (Nx.refl 0 _) hk110 hlm1.size
                        have nx69 : Nx 0 H58.size k110 := Nx.tr (Nx.refl 0 _) hk110 hcm24.size
                        replace mx := mx.nw hs110
                        replace hl := hl.nw hs110
                        replace hx := fun x hx0 => (hx x hx0).nw hs110
                        replace hf := hf.nw hs110
                        replace hm0 := hm0.tr hs110
                        replace hlm1 := hlm1.trN hs110
                        replace hcm24 := hcm24.trN hs110
                        have hz18 := hs110.size
                        have hle_ow110 := ow110.le
                        refine LR.v (Y.move rfl rfl) (Wd.u rfl) rfl rfl ?_
                        refine LR.v (Y.extract rfl rfl rfl) (Wd.u rfl) rfl rfl ?_
                        refine LR.v (Y.extract rfl rfl rfl) (Wd.u rfl) rfl rfl ?_
                        refine LR.v (Y.assign rfl rfl) (Wd.u rfl) rfl rfl ?_
                        refine LR.nil ?_
                        refine hK34 _ _ ?_
                        refine CW.region ?_
                        refine LR.v (Y.assign rfl rfl) (Wd.u rfl) rfl rfl ?_
                        refine LR.nil ?_
                        refine hK26 _ _ ?_
                        refine QN.sub (hK24 (Ki, gi, Di, Di.readE (pathN l[i].n), false) _ ?_) ⟨(iv (by omega)), rfl, rfl, (iv (by omega)), (iv (by omega)), (iv (by omega)), rfl, trivial⟩
                        exact ⟨hf, hD, (hD.read (pathN l[i].n)), nx_hcm24_hf, hcm24⟩
                      ·
                        refine CW.seq (fun K35 hK35 hE35 => ?_)
                        refine CW.region ?_
                        refine LR.v (Y.move rfl rfl) (Wd.u rfl) rfl rfl ?_
                        refine LR.v (Y.move rfl rfl) (Wd.u rfl) rfl rfl ?_
                        -- call selvage/simfs.Dir
                        refine LR.call rfl Tryd.call14 rfl (Wd.u rfl) rfl rfl (dir_ct mx_ (pathN l[i].n) w0 _ mx (bf_mx.mono (by omega)) (by have := (pathN_ne l[i].n).2.1; omega)) (fun v65 H65 r65 => ?_)
                        obtain ⟨rfl, hs65⟩ := r65
                        replace mx := mx.nw hs65
                        replace hl := hl.nw hs65
                        replace hx := fun x hx0 => (hx x hx0).nw hs65
                        replace hf := hf.nw hs65
                        replace hm0 := hm0.tr hs65
                        replace hlm1 := hlm1.trN hs65
                        replace hcm24 := hcm24.trN hs65
                        have hz19 := hs65.size
                        -- call (*selvage/simfs.FS).List
                        refine LR.call rfl Tryd.call26 rfl (Wd.u rfl) rfl rfl (list_ct mx_ Ki gi b19 Di (dirP (pathN l[i].n)) w0 _ hf mx (bf_mx.mono (by omega)) (by have := (pathN_ne l[i].n).2.1; have := dirP_len (pathN l[i].n); omega) hD.bs.an (by have := (hD.bs.bd (by omega)).nl; omega)) (fun v66 H66 r66 => ?_)
                        obtain ⟨s66, k66, rfl, ow66, hk66, hs66⟩ := r66
                        have df70 := DF.app (DF.z) (bf_mx.mono hm0.size) hk66
                        have df71 := DF.app (DF.z) (bf_hl.mono hm0.size) hk66
                        have df72 := DF.app (DF.z) (bf_hx.mono hm0.size) hk66
                        have dj73 : DL k66 Ki := DL.app2 (DL.zK) hf.bk hk66
                        have nx74 : Nx 0 H0.size k66 := Nx.tr (Nx.refl 0 _) hk66 hm0.size
                        have nx75 : Nx 0 H33.size k66 := Nx.tr (Nx.refl 0 _) hk66 hlm1.size
                        have nx76 : Nx 0 H58.size k66 := Nx.tr (Nx.refl 0 _) hk66 hcm24.size
                        replace mx := mx.nw hs66
                        replace hl := hl.nw hs66
                        replace hx := fun x hx0 => (hx x hx0).nw hs66
                        replace hf := hf.nw hs66
                        replace hm0 := hm0.tr hs66
                        replace hlm1 := hlm1.trN hs66
                        replace hcm24 := hcm24.trN hs66
                        have hz20 := hs66.size
                        have hle_ow66 := ow66.le
                        refine LR.v (Y.move rfl rfl) (Wd.u rfl) rfl rfl ?_
                        refine LR.v (Y.extract rfl rfl rfl) (Wd.u rfl) rfl rfl ?_
                        refine LR.v (Y.extract rfl rfl rfl) (Wd.u rfl) rfl rfl ?_
                        refine LR.v (Y.assign rfl rfl) (Wd.u rfl) rfl rfl ?_
                        refine LR.nil ?_
                        refine hK35 _ _ ?_
                        refine CW.region ?_
                        refine LR.v (Y.assign rfl rfl) (Wd.u rfl) rfl rfl ?_
                        refine LR.nil ?_
                        refine hK26 _ _ ?_
                        refine QN.sub (hK24 (Ki, gi, Di, Di.listE (dirP (pathN l[i].n)), false) _ ?_) ⟨(iv (by omega)), rfl, rfl, (iv (by omega)), (iv (by omega)), (iv (by omega)), rfl, trivial⟩
                        exact ⟨hf, hD, (hD.list (dirP (pathN l[i].n))), nx_hcm24_hf, hcm24⟩
        ·
          rintro ⟨Ka, ga, Da, r, ob⟩ Hcut2 hIcut2
          obtain ⟨hf, hDa, hr, nxl_hf, hlmcut2⟩ := hIcut2
          have df77 := DFL.appK (df5) (bf_mx.mono hm0.size) nxl_hf
          have df78 := DFL.appK (df6) (bf_hl.mono hm0.size) nxl_hf
          have df79 := DFL.appK (df7) (bf_hx.mono hm0.size) nxl_hf
          have dj80 : DL (HL1.size + 1) Ka := DL.appK (dj13) v9.lt nxl_hf
          have nx81 : NxK [] H0.size Ka := NxK.tr (nx8) nxl_hf hm0.size
          have nx82 : NxK Q19 H33.size Ka := NxK.tr (nx9) nxl_hf hlm1.size
          replace mx := mx.upL hlmcut2 (df5)
          replace hl := hl.upL hlmcut2 (df6)
          replace hx := fun x hx0 => (hx x hx0).upL hlmcut2 (df7)
          replace v9 := v9.upL hlmcut2 (dj13)
          replace hm0 := (Mo.trL (ks := []) (hm0.mdn []) hlmcut2 (MIL.ofK0 (nx8))).nil
          replace hlm1 := hlm1.trL hlmcut2 (MIL.ofK (nx9) (by intro k hk; simp [hk]))
          have hz21 := hlmcut2.size
          have hbk_hf := hf.bk
          have nx83 := nxl_hf
          refine CW.cut (fun (m2 : (Nat)) => [(0, .int .i64 (n : Int)), (1, s1.v), (5, ptr b19), (7, .int .i64 (m2 : Int)), (8, .int .i64 (i : Int)), (12, .int .i64 (r : Int))])
            (fun (m2 : (Nat)) (H : Heap) => (m2 = m + (if ob = true then 1 else 0)) ∧ Nw Hcut2 H) (fun K36 hK36 hE36 => ?_) ?_
          ·
            have hcm36 : Nw Hcut2 Hcut2 := Mo.refl _ _
            refine CW.seq (fun K37 hK37 hE37 => ?_)
            refine CW.region ?_
            refine LR.v (Y.move rfl rfl) (Wd.u rfl) rfl rfl ?_
            refine LR.nil ?_
            refine hK37 _ _ ?_
            refine CW.cond rfl (fun c113 => ?_) (fun c113 => ?_)
            ·
              refine CW.region ?_
              refine LR.v (Y.move rfl rfl) (Wd.u rfl) rfl rfl ?_
              refine LR.v (Y.addi rfl rfl rfl (by omega)) (Wd.u rfl) rfl rfl ?_
              refine LR.v (Y.assign rfl rfl) (Wd.u rfl) rfl rfl ?_
              refine LR.nil ?_
              refine QN.sub (hK36 (m + 1) _ ?_) ⟨(iv (by omega)), rfl, rfl, (iv (by omega)), (iv (by omega)), (iv (by omega)), trivial⟩
              exact ⟨by rw [if_pos c113], hcm36⟩
            ·
              refine CW.skip ?_
              refine QN.sub (hK36 m _ ?_) ⟨(iv (by omega)), rfl, rfl, (iv (by omega)), (iv (by omega)), (iv (by omega)), trivial⟩
              exact ⟨by rw [if_neg (by simpa using c113)]; rfl, hcm36⟩
          ·
            intro m2 Hcutc113 hIcutc113
            obtain ⟨hm2, hlmcutc113⟩ := hIcutc113
            replace mx := mx.nw hlmcutc113
            replace hl := hl.nw hlmcutc113
            replace hx := fun x hx0 => (hx x hx0).nw hlmcutc113
            replace hf := hf.nw hlmcutc113
            replace v9 := v9.nw hlmcutc113
            replace hm0 := hm0.tr hlmcutc113
            replace hlm1 := hlm1.trN hlmcutc113
            have hz22 := hlmcutc113.size
            refine CW.seq (fun K38 hK38 hE38 => ?_)
            refine CW.region ?_
            refine LR.v (Y.move rfl rfl) (Wd.u rfl) rfl rfl ?_
            refine LR.v (Y.eql rfl rfl rfl) (Wd.u rfl) rfl rfl ?_
            refine LR.v (Y.move rfl rfl) (Wd.u rfl) rfl rfl ?_
            refine LR.v (Y.move rfl rfl) (Wd.u rfl) rfl rfl ?_
            refine LR.v (Y.geq rfl rfl rfl) (Wd.u rfl) rfl rfl ?_
            refine LR.v ((Y.bneq rfl Tryd.underlying4 rfl rfl).isF ((fun h => h (by have q7 : r = 11 ↔ n ≤ m2 := (by rw [hm2]; exact hr); by_cases h4 : n ≤ m2 <;> simp only [decide_eq_decide] <;> omega)))) (Wd.u rfl) rfl rfl ?_
            refine LR.v (Y.move rfl rfl) (Wd.u rfl) rfl rfl ?_
            refine LR.v (Y.move rfl rfl) (Wd.g rfl rfl rfl) rfl rfl ?_
            -- call (*selvage/simfs.FS).Ops
            refine LR.call rfl Tryd.call30 rfl (Wd.g rfl rfl rfl) rfl rfl (ops_ct Ka ga b19 Da w0 _ hf) (fun v124 H124 r124 => ?_)
            obtain ⟨rfl, hs124⟩ := r124
            replace mx := mx.nw hs124
            replace hl := hl.nw hs124
            replace hx := fun x hx0 => (hx x hx0).nw hs124
            replace hf := hf.nw hs124
            replace v9 := v9.nw hs124
            replace hm0 := hm0.tr hs124
            replace hlm1 := hlm1.trN hs124
            have hz23 := hs124.size
            refine LR.v (Y.move rfl rfl) (Wd.g rfl rfl rfl) rfl rfl ?_
            refine LR.v (Y.move rfl rfl) (Wd.g rfl rfl rfl) rfl rfl ?_
            refine LR.v (Y.cast (v2 := .int .i64 ((n - 1 : Nat) : Int)) (Y.subi rfl rfl rfl (by omega)) (ivv (by omega))) (Wd.g rfl rfl rfl) rfl rfl ?_
            refine LR.v (Y.cast (v2 := .int .i64 ((min m2 (n - 1) : Nat) : Int)) (Y.mini rfl rfl rfl) (ivv (by omega))) (Wd.g rfl rfl rfl) rfl rfl ?_
            refine LR.v ((Y.neq rfl rfl rfl).isF ((fun h => h (by rw [hDa.ops, hm2])))) (Wd.g rfl rfl rfl) rfl rfl ?_
            refine LR.v (Y.pick_f rfl rfl rfl) (Wd.u rfl) rfl rfl ?_
            refine LR.nil ?_
            refine hK38 _ _ ?_
            refine CW.cond_f rfl ?_
            refine CW.skip ?_
            refine hK17 _ _ ?_
            refine hK16 _ _ ?_
            refine CW.region ?_
            refine LR.v (Y.move rfl rfl) (Wd.u rfl) rfl rfl ?_
            refine LR.v (Y.addi rfl rfl rfl (by omega)) (Wd.u rfl) rfl rfl ?_
            refine LR.v (Y.assign rfl rfl) (Wd.u rfl) rfl rfl ?_
            refine LR.nil ?_
            refine QN.sub (hN13 (i + 1, m2, Ka, ga, Da) _ ?_ ?_) ⟨(iv (by omega)), rfl, rfl, (iv (by omega)), (iv (by omega)), trivial⟩
            · exact ⟨hf, (by split at hm2 <;> (try simp only) <;> omega), (by rw [hm2]; exact hDa), nx82, hlm1⟩
            · first | omega | (simp only; omega) | (simp; omega)
    ·
      refine CW.exit (hE14 (.exit 0) nofun _ _ (hE13 (.exit 0) nofun _ _ (hX12 _ _ ?_)))
      refine hK10 _ _ ?_
      refine CW.seq (fun K39 hK39 hE39 => ?_)
      refine CW.region ?_
      refine LR.v (Y.move rfl rfl) (Wd.u rfl) rfl rfl ?_
      -- call (*selvage/simfs.FS).Crash
      refine LR.call rfl Tryd.call25 rfl (Wd.u rfl) rfl rfl (crash_ct Ki gi b19 Di (fun _ => False) ⟨none, 0, 0⟩ [] w0 _ hf (Rd.nil _ _ _ _) nofun nofun (hD.bs.bd (by omega)) (hD.bs.wy (by omega)) nofun) (fun v132 H132 r132 => ?_)
      have ql84 := hf.bk
      obtain ⟨K132, g132, rfl, hf, hkd132, hs132⟩ := r132
      have df85 := DFL.appK (df5) (bf_mx.mono hm0.size) hkd132
      have df86 := DFL.appK (df6) (bf_hl.mono hm0.size) hkd132
      have df87 := DFL.appK (df7) (bf_hx.mono hm0.size) hkd132
      have nx88 : NxK [] H0.size K132 := NxK.tr (nx8) hkd132 hm0.size
      replace mx := mx.upL hs132 (df5)
      replace hl := hl.upL hs132 (df6)
      replace hx := fun x hx0 => (hx x hx0).upL hs132 (df7)
      replace hm0 := (Mo.trL (ks := []) (hm0.mdn []) hs132 (MIL.ofK0 (nx8))).nil
      have hz24 := hs132.size
      have hbk_hf := hf.bk
      have hSe := hD.bs.crash []
      obtain ⟨w1, w2⟩ := hD.fin (by omega) []
      refine LR.nil ?_
      refine hK39 _ _ ?_
      refine CW.seq (fun K40 hK40 hE40 => ?_)
      refine CW.region ?_
      refine LR.v (Y.move rfl rfl) (Wd.u rfl) rfl rfl ?_
      -- call (*selvage/simfs.FS).Read
      refine LR.call rfl Tryd.call18 rfl (Wd.u rfl) rfl rfl (read_ct mx_ K132 g132 b19 (Di.crash []) [122, 122] w0 _ mx (bf_mx.mono (by omega)) hf (by decide) (fun j => by have := (hSe.f j).1; omega)) (fun v135 H135 r135 => ?_)
      obtain ⟨s135, k135, rfl, ow135, hk135, hs135⟩ := r135
      have df89 := DF.app (DF.z) (bf_mx.mono hm0.size) hk135
      have df90 := DF.app (DF.z) (bf_hl.mono hm0.size) hk135
      have df91 := DF.app (DF.z) (bf_hx.mono hm0.size) hk135
      have dj92 : DL k135 K132 := DL.app2 (DL.zK) hf.bk hk135
      have nx93 : Nx 0 H0.size k135 := Nx.tr (Nx.refl 0 _) hk135 hm0.size
      replace mx := mx.nw hs135
      replace hl := hl.nw hs135
      replace hx := fun x hx0 => (hx x hx0).nw hs135
      replace hf := hf.nw hs135
      replace hm0 := hm0.tr hs135
      have hz25 := hs135.size
      have hle_ow135 := ow135.le
      refine LR.v (Y.move rfl rfl) (Wd.u rfl) rfl rfl ?_
      refine LR.v (Y.extract rfl rfl rfl) (Wd.u rfl) rfl rfl ?_
      refine LR.v (Y.extract rfl rfl rfl) (Wd.u rfl) rfl rfl ?_
      refine LR.v (Y.assign rfl rfl) (Wd.u rfl) rfl rfl ?_
      refine LR.v (Y.assign rfl rfl) (Wd.u rfl) rfl rfl ?_
      refine LR.nil ?_
      refine hK40 _ _ ?_
      refine CW.seq (fun K41 hK41 hE41 => ?_)
      refine CW.region ?_
      refine LR.v (Y.move rfl rfl) (Wd.u rfl) rfl rfl ?_
      refine LR.v ((Y.eql rfl rfl rfl).isT ((by rw [w1]; rfl))) (Wd.u rfl) rfl rfl ?_
      refine LR.v (Y.move rfl rfl) (Wd.u rfl) rfl rfl ?_
      refine LR.v (Y.move rfl rfl) (Wd.g rfl rfl rfl) rfl rfl ?_
      -- call (*selvage/simfs.FS).Write
      refine LR.call rfl Tryd.call17 rfl (Wd.g rfl rfl rfl) rfl rfl (write_ct mx_ K132 g132 b19 (Di.crash []) [122, 122] ⟨none, 0, 0⟩ [] (fun _ => False) w0 _ hf mx (bf_mx.mono (by omega)) (df85) (Rd.nil _ _ _ _) nofun nofun (by decide) (hSe.bd (by omega)) (by decide)) (fun v142 H142 r142 => ?_)
      have ql94 := hf.bk
      obtain ⟨K142, g142, rfl, hf, hkd142, hs142⟩ := r142
      have df95 := DFL.appK (df85) (bf_mx.mono hm0.size) hkd142
      have df96 := DFL.appK (df86) (bf_hl.mono hm0.size) hkd142
      have df97 := DFL.appK (df87) (bf_hx.mono hm0.size) hkd142
      have nx98 : NxK [] H0.size K142 := NxK.tr (nx88) hkd142 hm0.size
      replace mx := mx.upL hs142 (df85)
      replace hl := hl.upL hs142 (df86)
      replace hx := fun x hx0 => (hx x hx0).upL hs142 (df87)
      replace hm0 := (Mo.trL (ks := []) (hm0.mdn []) hs142 (MIL.ofK0 (nx88))).nil
      have hz26 := hs142.size
      have hbk_hf := hf.bk
      refine LR.v ((Y.eql rfl rfl rfl).isT ((by rw [w2]; rfl))) (Wd.g rfl rfl rfl) rfl rfl ?_
      refine LR.v (Y.pick_t rfl rfl rfl) (Wd.u rfl) rfl rfl ?_
      refine LR.v (Y.assign rfl rfl) (Wd.u rfl) rfl rfl ?_
      refine LR.nil ?_
      refine hK41 _ _ ?_
      refine CW.ret (hret .ret (.inr rfl) _ _ _ (res1 rfl rfl) ?_)
      exact ⟨rfl, hm0⟩
  ·
    refine LR.gs rfl rfl rfl rfl rfl rfl ?_
    refine LR.gs rfl rfl rfl rfl rfl rfl ?_
    refine LR.v (Y.pick_f rfl rfl rfl) (Wd.u rfl) rfl rfl ?_
    refine LR.nil ?_
    refine hK15 _ _ ?_
    refine CW.cond_f rfl ?_
    refine CW.exit (hE14 (.exit 0) nofun _ _ (hE13 (.exit 0) nofun _ _ (hX12 _ _ ?_)))
    refine hK10 _ _ ?_
    refine CW.seq (fun K42 hK42 hE42 => ?_)
    refine CW.region ?_
    refine LR.v (Y.move rfl rfl) (Wd.u rfl) rfl rfl ?_
    -- call (*selvage/simfs.FS).Crash
    refine LR.call rfl Tryd.call25 rfl (Wd.u rfl) rfl rfl (crash_ct Ki gi b19 Di (fun _ => False) ⟨none, 0, 0⟩ [] w0 _ hf (Rd.nil _ _ _ _) nofun nofun (hD.bs.bd (by omega)) (hD.bs.wy (by omega)) nofun) (fun v132 H132 r132 => ?_)
    have ql99 := hf.bk
    obtain ⟨K132, g132, rfl, hf, hkd132, hs132⟩ := r132
    have df100 := DFL.appK (df5) (bf_mx.mono hm0.size) hkd132
    have df101 := DFL.appK (df6) (bf_hl.mono hm0.size) hkd132
    have df102 := DFL.appK (df7) (bf_hx.mono hm0.size) hkd132
    have nx103 : NxK [] H0.size K132 := NxK.tr (nx8) hkd132 hm0.size
    replace mx := mx.upL hs132 (df5)
    replace hl := hl.upL hs132 (df6)
    replace hx := fun x hx0 => (hx x hx0).upL hs132 (df7)
    replace hm0 := (Mo.trL (ks := []) (hm0.mdn []) hs132 (MIL.ofK0 (nx8))).nil
    have hz27 := hs132.size
    have hbk_hf := hf.bk
    have hSe := hD.bs.crash []
    obtain ⟨w1, w2⟩ := hD.fin (by omega) []
    refine LR.nil ?_
    refine hK42 _ _ ?_
    refine CW.seq (fun K43 hK43 hE43 => ?_)
    refine CW.region ?_
    refine LR.v (Y.move rfl rfl) (Wd.u rfl) rfl rfl ?_
    -- call (*selvage/simfs.FS).Read
    refine LR.call rfl Tryd.call18 rfl (Wd.u rfl) rfl rfl (read_ct mx_ K132 g132 b19 (Di.crash []) [122, 122] w0 _ mx (bf_mx.mono (by omega)) hf (by decide) (fun j => by have := (hSe.f j).1; omega)) (fun v135 H135 r135 => ?_)
    obtain ⟨s135, k135, rfl, ow135, hk135, hs135⟩ := r135
    have df104 := DF.app (DF.z) (bf_mx.mono hm0.size) hk135
    have df105 := DF.app (DF.z) (bf_hl.mono hm0.size) hk135
    have df106 := DF.app (DF.z) (bf_hx.mono hm0.size) hk135
    have dj107 : DL k135 K132 := DL.app2 (DL.zK) hf.bk hk135
    have nx108 : Nx 0 H0.size k135 := Nx.tr (Nx.refl 0 _) hk135 hm0.size
    replace mx := mx.nw hs135
    replace hl := hl.nw hs135
    replace hx := fun x hx0 => (hx x hx0).nw hs135
    replace hf := hf.nw hs135
    replace hm0 := hm0.tr hs135
    have hz28 := hs135.size
    have hle_ow135 := ow135.le
    refine LR.v (Y.move rfl rfl) (Wd.u rfl) rfl rfl ?_
    refine LR.v (Y.extract rfl rfl rfl) (Wd.u rfl) rfl rfl ?_
    refine LR.v (Y.extract rfl rfl rfl) (Wd.u rfl) rfl rfl ?_
    refine LR.v (Y.assign rfl rfl) (Wd.u rfl) rfl rfl ?_
    refine LR.v (Y.assign rfl rfl) (Wd.u rfl) rfl rfl ?_
    refine LR.nil ?_
    refine hK43 _ _ ?_
    refine CW.seq (fun K44 hK44 hE44 => ?_)
    refine CW.region ?_
    refine LR.v (Y.move rfl rfl) (Wd.u rfl) rfl rfl ?_
    refine LR.v ((Y.eql rfl rfl rfl).isT ((by rw [w1]; rfl))) (Wd.u rfl) rfl rfl ?_
    refine LR.v (Y.move rfl rfl) (Wd.u rfl) rfl rfl ?_
    refine LR.v (Y.move rfl rfl) (Wd.g rfl rfl rfl) rfl rfl ?_
    -- call (*selvage/simfs.FS).Write
    refine LR.call rfl Tryd.call17 rfl (Wd.g rfl rfl rfl) rfl rfl (write_ct mx_ K132 g132 b19 (Di.crash []) [122, 122] ⟨none, 0, 0⟩ [] (fun _ => False) w0 _ hf mx (bf_mx.mono (by omega)) (df100) (Rd.nil _ _ _ _) nofun nofun (by decide) (hSe.bd (by omega)) (by decide)) (fun v142 H142 r142 => ?_)
    have ql109 := hf.bk
    obtain ⟨K142, g142, rfl, hf, hkd142, hs142⟩ := r142
    have df110 := DFL.appK (df100) (bf_mx.mono hm0.size) hkd142
    have df111 := DFL.appK (df101) (bf_hl.mono hm0.size) hkd142
    have df112 := DFL.appK (df102) (bf_hx.mono hm0.size) hkd142
    have nx113 : NxK [] H0.size K142 := NxK.tr (nx103) hkd142 hm0.size
    replace mx := mx.upL hs142 (df100)
    replace hl := hl.upL hs142 (df101)
    replace hx := fun x hx0 => (hx x hx0).upL hs142 (df102)
    replace hm0 := (Mo.trL (ks := []) (hm0.mdn []) hs142 (MIL.ofK0 (nx103))).nil
    have hz29 := hs142.size
    have hbk_hf := hf.bk
    refine LR.v ((Y.eql rfl rfl rfl).isT ((by rw [w2]; rfl))) (Wd.g rfl rfl rfl) rfl rfl ?_
    refine LR.v (Y.pick_t rfl rfl rfl) (Wd.u rfl) rfl rfl ?_
    refine LR.v (Y.assign rfl rfl) (Wd.u rfl) rfl rfl ?_
    refine LR.nil ?_
    refine hK44 _ _ ?_
    refine CW.ret (hret .ret (.inr rfl) _ _ _ (res1 rfl rfl) ?_)
    exact ⟨rfl, hm0⟩

end Go.Proofs.YtfbfjhppppoilaaDoor.SimYB
