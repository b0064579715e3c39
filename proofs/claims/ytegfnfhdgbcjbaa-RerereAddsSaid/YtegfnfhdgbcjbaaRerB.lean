/-
  Keys: the program and the document.
-/
import Derived.Test.YtegfnfhdgbcjbaaRerA
namespace Go.Proofs.Ytegfnfhdgbcjbaa.RerB
open Go.Proofs.Ytegfnfhdgbcjbaa.E Go.RowKit Go.Proofs.Ytegfnfhdgbcjbaa.LinM Go.Proofs.Ytegfnfhdgbcjbaa.LinC Go.Proofs.Ytegfnfhdgbcjbaa.LinL Go.Proofs.Ytegfnfhdgbcjbaa.LinN Go.Proofs.Ytegfnfhdgbcjbaa.MerA Go.Proofs.Ytegfnfhdgbcjbaa.MerB Go.Proofs.Ytegfnfhdgbcjbaa.MerC Go.Proofs.Ytegfnfhdgbcjbaa.MerD Go.Proofs.Ytegfnfhdgbcjbaa.MerE Go.Proofs.Ytegfnfhdgbcjbaa.MerF Go.Proofs.Ytegfnfhdgbcjbaa.MerH Go.Proofs.Ytegfnfhdgbcjbaa.MerL Go.Proofs.Ytegfnfhdgbcjbaa.MerM Go.Proofs.Ytegfnfhdgbcjbaa.MerN Go.Proofs.Ytegfnfhdgbcjbaa.SumA Go.Proofs.Ytegfnfhdgbcjbaa.SumB Go.Proofs.Ytegfnfhdgbcjbaa.SumC Go.Proofs.Ytegfnfhdgbcjbaa.SumD Go.Proofs.Ytegfnfhdgbcjbaa.SumE Go.Proofs.Ytegfnfhdgbcjbaa.SumF Go.Proofs.Ytegfnfhdgbcjbaa.SumG Go.Proofs.Ytegfnfhdgbcjbaa.SumK Go.Proofs.Ytegfnfhdgbcjbaa.SumL Go.Proofs.Ytegfnfhdgbcjbaa.DelA Go.Proofs.Ytegfnfhdgbcjbaa.RerA
set_option maxRecDepth 20000
set_option linter.unusedVariables false
set_option linter.unusedSimpArgs false
set_option linter.unusedSectionVars false
set_option maxRecDepth 100000 in
theorem inf22 : Inf Try.prog 22 5 1 1 := ⟨Try.underlying22, _, _, rfl, rfl, rfl, rfl, rfl⟩
set_option maxRecDepth 100000 in
theorem inf76 : Inf Try.prog 76 22 1 24 := ⟨Try.underlying76, _, _, rfl, rfl, rfl, rfl, rfl⟩

theorem keyC_bad {cs : List Cn} {e : Int} (h : e ≠ 0) : keyC (cs, e) = (Z32, e) := by rw [keyC, if_pos h]
theorem keyC_none {cs : List Cn} (h : someC cs = false) : keyC (cs, 0) = (Z32, 2) := by rw [keyC, if_neg (by simp), if_neg (by simp [h])]
theorem keyC_sum {cs : List Cn} (h : someC cs = true) : keyC (cs, 0) = (sumOf (keyB cs), 0) := by rw [keyC, if_neg (by simp), if_pos h]
theorem splice_all2 {a b : List Value} (h : a.length = b.length) : splice a 0 b = b := by simp [splice, h]
theorem cat_one (s : SV) (x : List UInt8) : cat [(s, x)] = x := by simp [cat]

set_option maxHeartbeats 8000000 in
theorem key_ct (v : Value) (b : List UInt8) (w0 : World) (H0 : Heap)
    (hb : RdT H0 fB 1 v b) (hbl : b.length ≤ 1048576) :
    Ct Try.prog w0 8 #[v] H0 (fun r H2 => r = .tuple #[idV (keyL b).1, .int .i64 (keyL b).2] ∧ Nw H0 H2) := by
  refine Ct.enter (args := [v]) Try.func8 rfl rfl rfl ?_
  intro Q0 hret
  have hm0 : Nw H0 H0 := Mo.refl _ _
  replace hb := hb.bnd
  have bf_hb := Rd.bf hb
  refine CW.seq (fun K1 hK1 hE1 => ?_)
  refine CW.region ?_
  refine LR.z (Z.allocv rfl Try.zeroValue25) (Wd.u rfl) rfl rfl (fun v2 H2 r2 => ?_)
  obtain ⟨rfl, hz, hs2, ob2, hH2⟩ := r2
  have hzs2 : H2.size = H0.size + 1 := by rw [hH2]; simp
  have df1 := (DF.new (bf_hb.mono hm0.size) : DF _ (H0.size + 1))
  have nx2 : Nx 0 H0.size (H0.size + 1) := Nx.new hm0.size
  replace hb := hb.nw hs2
  replace hm0 := hm0.tr hs2
  have hz1 := hs2.size
  replace hz : Var 25 H2 H0.size (Z32.map V8) := hz
  refine LR.v (Y.assign rfl rfl) (Wd.u rfl) rfl rfl ?_
  refine LR.nil ?_
  refine hK1 _ _ ?_
  refine CW.seq (fun K2 hK2 hE2 => ?_)
  refine CW.region ?_
  refine LR.v (Y.move rfl rfl) (Wd.u rfl) rfl rfl ?_
  -- call selvage/merge3.Parse
  refine LR.call rfl Try.call21 rfl (Wd.u rfl) rfl rfl (parse_ct _ b w0 _ hb.any (by omega)) (fun v14 H14 r14 => ?_)
  obtain ⟨vl, l, e, rfl, hpl, hr, hx, hs14⟩ := r14
  replace hb := hb.nw hs14
  replace hz := hz.nw hs14
  replace hm0 := hm0.tr hs14
  have hz2 := hs14.size
  replace hr := hr.bnd
  have bf_hr := Rd.bf hr
  have df3 : DF (fun b => H2.size ≤ b ∧ b < H14.size) (H0.size + 1) := DF.above (fun b h => h.1) (by first | exact hle_hz | exact hlt_hz | omega)
  replace hx := fun x hx_ => (hx x hx_).bnd
  have bf_hx : BF (fun b => H2.size ≤ b ∧ b < H14.size) H14.size := fun b h => h.2
  have df4 : DF (fun b => H2.size ≤ b ∧ b < H14.size) (H0.size + 1) := DF.above (fun b h => h.1) (by first | exact hle_hz | exact hlt_hz | omega)
  have hkl : keyL b = keyC (l.map Ck.c, e) := by rw [keyL, ← hpl]
  have hp1 : (parseL b).1 = l.map Ck.c := by rw [← hpl]
  have hkb := key_bd2 (b := b) (by omega)
  have hpb := parse_bd (b := b) (by omega)
  obtain ⟨_, _, hln⟩ := parse_ok b
  rw [hp1] at hkb hpb hln
  rw [List.length_map] at hln
  have hbd : ∀ x ∈ l, BdC x.c ∧ (x.c.1 = 0 ∨ x.c.1 = 4) := fun x hx => hpb _ (List.mem_map.2 ⟨x, hx, rfl⟩)
  refine LR.v (Y.move rfl rfl) (Wd.u rfl) rfl rfl ?_
  refine LR.v (Y.extract rfl rfl rfl) (Wd.u rfl) rfl rfl ?_
  refine LR.v (Y.extract rfl rfl rfl) (Wd.u rfl) rfl rfl ?_
  refine LR.v (Y.assign rfl rfl) (Wd.u rfl) rfl rfl ?_
  refine LR.v (Y.assign rfl rfl) (Wd.u rfl) rfl rfl ?_
  refine LR.nil ?_
  refine hK2 _ _ ?_
  refine CW.seq (fun K3 hK3 hE3 => ?_)
  refine CW.seq (fun K4 hK4 hE4 => ?_)
  refine CW.region ?_
  refine LR.v (Y.move rfl rfl) (Wd.u rfl) rfl rfl ?_
  refine LR.v (Y.neq rfl rfl rfl) (Wd.u rfl) rfl rfl ?_
  refine LR.nil ?_
  refine hK4 _ _ ?_
  refine CW.condp rfl (fun c18 => ?_) (fun c18 => ?_)
  ·
    refine CW.seq (fun K5 hK5 hE5 => ?_)
    refine CW.region ?_
    refine LR.v (Y.build (v := idV Z32) rfl rfl (by intro w; kernel_rfl)) (Wd.u rfl) rfl rfl ?_
    refine LR.v (Y.move rfl rfl) (Wd.u rfl) rfl rfl ?_
    refine LR.s (S.var hz ((Z32).map V8) ((Z32).map V8) rfl rfl rfl rfl (by intro u hu; obtain ⟨x, _, rfl⟩ := List.mem_map.1 hu; rfl) Try.sizeOf25 (by simp [Z32_len]) (by simp [Z32_len]) (splice_all2 (by simp [Z32_len]))) (Wd.u rfl) rfl (fun H3_2 r3_2 => ?_)
    obtain ⟨hz, hs3_2⟩ := r3_2
    replace hs3_2 := hs3_2.md1
    replace hb := hb.upL hs3_2 (DFL.cons df1 DFL.nil)
    replace hr := hr.upL hs3_2 (DFL.cons df3 DFL.nil)
    replace hx := fun x hx_ => (hx x hx_).upL hs3_2 (DFL.cons df4 DFL.nil)
    replace hm0 := (Mo.trL (ks := []) (hm0.mdn []) hs3_2 (MIL.cons (MI.app MI.z (nx2) (Nat.le_refl _)) MIL.nil)).nil
    have hz3 := hs3_2.size
    refine LR.v (Y.assign rfl rfl) (Wd.u rfl) rfl rfl ?_
    refine LR.nil ?_
    refine hK5 _ _ ?_
    refine CW.ret (hE3 .ret nofun _ _ (hret .ret (.inr rfl) _ _ _ (resCT rfl rfl hz.pt Try.isAgg25 Try.sizeOf25 (by first | rfl | simp) rfl) ?_))
    exact ⟨by rw [hkl, keyC_bad (by omega)]; rfl, hm0⟩
  ·
    refine CW.skip ?_
    refine hK3 _ _ ?_
    refine CW.seq (fun K6 hK6 hE6 => ?_)
    refine CW.region ?_
    refine LR.v (Y.assign rfl rfl) (Wd.u rfl) rfl rfl ?_
    refine LR.nil ?_
    refine hK6 _ _ ?_
    refine CW.seq (fun K7 hK7 hE7 => ?_)
    refine CW.region ?_
    refine LR.v (Y.assign rfl rfl) (Wd.u rfl) rfl rfl ?_
    refine LR.nil ?_
    refine hK7 _ _ ?_
    refine CW.seq (fun K8 hK8 hE8 => ?_)
    refine CW.seq (fun K9 hK9 hE9 => ?_)
    refine CW.region ?_
    refine LR.v (Y.move rfl rfl) (Wd.u rfl) rfl rfl ?_
    refine LR.v (Y.len hr rfl Try.runUnderlying50 rfl) (Wd.u rfl) rfl rfl ?_
    refine LR.v (Y.move rfl rfl) (Wd.u rfl) rfl rfl ?_
    refine LR.nil ?_
    refine hK9 _ _ ?_
    refine CW.block (fun K10 hK10 hX10 hE10 => ?_)
    refine CW.loop (fun (s_ : (Nat) × (Value) × (Nat)) => match s_ with | (j, vo, ko) => [(2, .pointer (some ⟨H0.size, 0, none⟩)), (6, vo), (7, .bool (someC ((l.map Ck.c).take j))), (21, vl), (22, .int .i64 l.length), (23, .int .i64 j)])
      (fun (s_ : (Nat) × (Value) × (Nat)) (H : Heap) => match s_ with | (j, vo, ko) => (j ≤ l.length) ∧ (Ow ko 5 H fB 1 vo (keyB ((l.map Ck.c).take j))) ∧ (Nx 0 H14.size ko) ∧ Nw H14 H)
      (fun (s_ : (Nat) × (Value) × (Nat)) => match s_ with | (j, vo, ko) => l.length - j) (0, .slice none 0 0, 0) ⟨rfl, rfl, rfl, rfl, rfl, rfl, trivial⟩ ?_ ?_
    ·
      exact ⟨(by omega), Ow.nil fB_len fB_one, Nx.refl _ _, Mo.refl _ _⟩
    rintro ⟨j, vo, ko⟩ HL1 hI1 K11 hN11 hE11
    obtain ⟨hj, ow, nxl_ow, hlm1⟩ := hI1
    have df5 := DF.app (DF.z) (bf_hb.mono hm0.size) nxl_ow
    have dj6 : Dj (H0.size + 1) ko := Dj.app (Dj.z) hz.lt nxl_ow
    have df7 := DF.app (DF.z) (bf_hr.mono (by omega)) nxl_ow
    have df8 := DF.app (DF.z) (bf_hx.mono (by omega)) nxl_ow
    have nx9 : Nx 0 H0.size ko := Nx.tr (Nx.refl 0 _) nxl_ow hm0.size
    replace hb := hb.nw hlm1
    replace hz := hz.nw hlm1
    replace hr := hr.nw hlm1
    replace hx := fun x hx_ => (hx x hx_).nw hlm1
    replace hm0 := hm0.tr hlm1
    have hz4 := hlm1.size
    have hle_ow := ow.le
    have nx10 := nxl_ow
    refine CW.seq (fun K12 hK12 hE12 => ?_)
    refine CW.region ?_
    refine LR.v (Y.lss rfl rfl rfl) (Wd.u rfl) rfl rfl ?_
    refine LR.nil ?_
    refine hK12 _ _ ?_
    refine CW.seq (fun K13 hK13 hE13 => ?_)
    refine CW.condp rfl (fun c24 => ?_) (fun c24 => ?_)
    ·
      refine CW.skip ?_
      refine hK13 _ _ ?_
      refine CW.seq (fun K14 hK14 hE14 => ?_)
      refine CW.block (fun K15 hK15 hX15 hE15 => ?_)
      refine CW.seq (fun K16 hK16 hE16 => ?_)
      refine CW.region ?_
      have hjl : j < l.length := by omega
      obtain ⟨⟨hb1, hb2, hb3⟩, hk04⟩ := hbd _ (List.getElem_mem hjl)
      simp only [Ck.c] at hb1 hb2 hb3
      have hks := key_snoc (l.map Ck.c) j (by simpa using hjl)
      have hss := some_snoc (l.map Ck.c) j (by simpa using hjl)
      have hkt := keyB_take (l.map Ck.c) j
      rw [List.getElem_map] at hks hss
      refine LR.e (g := fun ad => .pointer (some ad)) (Y.indexAddrF hr (j) rfl Try.runUnderlying50 Try.sizeOf54 rfl rfl (by first | rfl | omega) (by first | omega | (simp; omega) | (simp; done))) (Wd.u rfl) rfl rfl (fun ad25 pt25 => ?_)
      have bf_pt25 := bf_hr
      refine LR.v (Y.loadN pt25.pt rfl Try.isAgg54 Try.sizeOf54 (rfl) rfl) (Wd.u rfl) rfl rfl ?_
      refine LR.z (Z.allocv rfl Try.zeroValue54) (Wd.u rfl) rfl rfl (fun v9 H9 r9 => ?_)
      obtain ⟨rfl, hc, hs9, ob9, hH9⟩ := r9
      have hzs9 : H9.size = HL1.size + 1 := by rw [hH9]; simp
      have df11 := (DF.new (bf_hb.mono hm0.size) : DF _ (HL1.size + 1))
      have dj12 : Dj (H0.size + 1) (HL1.size + 1) := Dj.new hz.lt
      have df13 := (DF.new (bf_hr.mono (by omega)) : DF _ (HL1.size + 1))
      have df14 := (DF.new (bf_hx.mono (by omega)) : DF _ (HL1.size + 1))
      have dj15 : Dj ko (HL1.size + 1) := Dj.new ow.le
      have df16 := (DF.new (bf_pt25.mono (by omega)) : DF _ (HL1.size + 1))
      have nx17 : Nx 0 H0.size (HL1.size + 1) := Nx.new hm0.size
      have nx18 : Nx 0 H14.size (HL1.size + 1) := Nx.new hlm1.size
      replace hb := hb.nw hs9
      replace hz := hz.nw hs9
      replace hr := hr.nw hs9
      replace hx := fun x hx_ => (hx x hx_).nw hs9
      replace ow := ow.nw hs9
      replace pt25 := pt25.nw hs9
      replace hm0 := hm0.tr hs9
      replace hlm1 := hlm1.tr hs9
      have hz5 := hs9.size
      refine LR.s (S.var hc (_) (fK l[j]) rfl rfl rfl rfl (fK_one l[j]) Try.sizeOf54 (rfl) (Nat.le_of_ble_eq_true rfl) (rfl)) (Wd.u rfl) rfl (fun H8_3 r8_3 => ?_)
      obtain ⟨hc, hs8_3⟩ := r8_3
      replace hs8_3 := hs8_3.md1
      replace hb := hb.upL hs8_3 (DFL.cons df11 DFL.nil)
      replace hz := hz.upL hs8_3 (DL.cons dj12 DL.nil)
      replace hr := hr.upL hs8_3 (DFL.cons df13 DFL.nil)
      replace hx := fun x hx_ => (hx x hx_).upL hs8_3 (DFL.cons df14 DFL.nil)
      replace ow := ow.upL hs8_3 (DL.cons dj15 DL.nil)
      replace pt25 := pt25.upL hs8_3 (DFL.cons df16 DFL.nil)
      replace hm0 := (Mo.trL (ks := []) (hm0.mdn []) hs8_3 (MIL.cons (MI.app MI.z (nx17) (Nat.le_refl _)) MIL.nil)).nil
      replace hlm1 := (Mo.trL (ks := []) (hlm1.mdn []) hs8_3 (MIL.cons (MI.app MI.z (nx18) (Nat.le_refl _)) MIL.nil)).nil
      have hz6 := hs8_3.size
      refine LR.nil ?_
      refine hK16 _ _ ?_
      refine CW.seq (fun K17 hK17 hE17 => ?_)
      refine CW.seq (fun K18 hK18 hE18 => ?_)
      refine CW.region ?_
      refine LR.v (Y.fieldAddr hc.pt rfl Try.runUnderlying54 rfl rfl Try.sizeOf3 (by decide) rfl) (Wd.u rfl) rfl rfl ?_
      refine LR.v (Y.cast (v2 := .int .i64 l[j].c.1) (Y.load1 hc.pt rfl Try.isAgg3 rfl) (rfl)) (Wd.u rfl) rfl rfl ?_
      refine LR.v (Y.eql rfl rfl rfl) (Wd.u rfl) rfl rfl ?_
      refine LR.nil ?_
      refine hK18 _ _ ?_
      refine CW.condp rfl (fun c29 => ?_) (fun c29 => ?_)
      ·
        refine CW.seq (fun K19 hK19 hE19 => ?_)
        refine CW.region_any (fun Hq => Mo (Ms [ko]) H8_3 Hq) [] rfl ?_
        have hq10 : Mo (Ms [ko]) H8_3 H8_3 := Mo.refl _ _
        have nx19 := Nx.refl ko H8_3.size
        refine LH.take 0 (by kernel_rfl) rfl (by kernel_rfl) (by kernel_rfl) (by kernel_rfl) (fun Hq hq => Y.move rfl rfl) (Wd.u rfl) rfl rfl hq10 ?_
        refine LH.take 3 (by kernel_rfl) rfl (by kernel_rfl) (by kernel_rfl) (by kernel_rfl) (fun Hq hq => Y.fieldAddr (hc.upL hq (DL.cons dj15.symm DL.nil)).pt rfl Try.runUnderlying54 rfl rfl Try.sizeOf32 (by decide) rfl) (Wd.u rfl) rfl rfl hq10 ?_
        refine LH.take 4 (by kernel_rfl) rfl (by kernel_rfl) (by kernel_rfl) (by kernel_rfl) (fun Hq hq => Y.load1 ((hc.upL hq (DL.cons dj15.symm DL.nil)).pt.drop 1) rfl Try.isAgg32 rfl) (Wd.u rfl) rfl rfl hq10 ?_
        refine LH.one (i := 1) (by kernel_rfl) ?_
        refine LO.z rfl (Z.litw _ ([(0 : UInt8)]) rfl inf22 rfl rfl rfl (by decide) (by decide) fB_len fB_one (rfl)) (Wd.u rfl) rfl rfl (fun v31 H31 r31 => ?_)
        obtain ⟨ow31, hs31, ob31, hH31⟩ := r31
        have hzs31 : H31.size = H8_3.size + 1 := by rw [hH31]; simp
        have df20 := (DF.new (bf_hb.mono hm0.size) : DF _ (H8_3.size + 1))
        have dj21 : Dj (H0.size + 1) (H8_3.size + 1) := Dj.new hz.lt
        have df22 := (DF.new (bf_hr.mono (by omega)) : DF _ (H8_3.size + 1))
        have df23 := (DF.new (bf_hx.mono (by omega)) : DF _ (H8_3.size + 1))
        have dj24 : Dj ko (H8_3.size + 1) := Dj.new ow.le
        have dj25 : Dj (HL1.size + 1) (H8_3.size + 1) := Dj.new hc.lt
        have nx26 : Nx 0 H0.size (H8_3.size + 1) := Nx.new hm0.size
        have nx27 : Nx 0 H14.size (H8_3.size + 1) := Nx.new hlm1.size
        have nx28 : Nx 0 H8_3.size (H8_3.size + 1) := Nx.new hq10.size
        replace hb := hb.nw hs31
        replace hz := hz.nw hs31
        replace hr := hr.nw hs31
        replace hx := fun x hx_ => (hx x hx_).nw hs31
        replace ow := ow.nw hs31
        replace hc := hc.nw hs31
        replace hm0 := hm0.tr hs31
        replace hlm1 := hlm1.tr hs31
        replace hq10 := hq10.trN hs31
        have hz7 := hs31.size
        refine ⟨.inr hq10, LH.narrow (SH2 := fun Hq => Mo (Ms [ko, (H8_3.size + 1)]) H31 Hq) (fun Hq hq => hq10.trL hq (MIL.cons (MI.app (MI.root (by simp)) (nx19) (Nat.le_refl _)) (MIL.cons (MI.app MI.z (nx28) (Nat.le_refl _)) MIL.nil))) ?_⟩
        have hq10 : Mo (Ms [ko, (H8_3.size + 1)]) H31 H31 := Mo.refl _ _
        have nx29 := Nx.refl ko H31.size
        have nx30 := Nx.refl (H8_3.size + 1) H31.size
        refine LH.one (i := 2) (by kernel_rfl) ?_
        refine LO.z rfl (Z.apnd ow ow31.rd rfl inf22 rfl rfl (by simp only [List.length_cons, List.length_nil]; omega) (by simp only [List.length_cons, List.length_nil]; omega)) (Wd.u rfl) rfl rfl (fun v32 H32 r32 => ?_)
        obtain ⟨k32, ow, hk32, hs32⟩ := r32
        replace hk32 : Nx ko H31.size k32 := hk32
        replace hs32 := hs32.md
        have df31 := DF.app (df5) (bf_hb.mono hm0.size) hk32
        have dj32 : Dj (H0.size + 1) k32 := Dj.app (dj6) hz.lt hk32
        have df33 := DF.app (df7) (bf_hr.mono (by omega)) hk32
        have df34 := DF.app (df8) (bf_hx.mono (by omega)) hk32
        have dj35 : Dj (HL1.size + 1) k32 := Dj.app (dj15.symm) hc.lt hk32
        have dj36 : Dj (H8_3.size + 1) k32 := Dj.app (dj24.symm) ow31.le hk32
        have nx37 : Nx 0 H0.size k32 := Nx.tr (nx9) hk32 hm0.size
        have nx38 : Nx 0 H14.size k32 := Nx.tr (nx10) hk32 hlm1.size
        have nx39 : Nx ko H31.size k32 := Nx.tr (nx29) hk32 hq10.size
        replace hb := hb.upL hs32 (DFL.cons df5 DFL.nil)
        replace hz := hz.upL hs32 (DL.cons dj6 DL.nil)
        replace hr := hr.upL hs32 (DFL.cons df7 DFL.nil)
        replace hx := fun x hx_ => (hx x hx_).upL hs32 (DFL.cons df8 DFL.nil)
        replace hc := hc.upL hs32 (DL.cons dj15.symm DL.nil)
        replace ow31 := ow31.upL hs32 (DL.cons dj24.symm DL.nil)
        replace hm0 := (Mo.trL (ks := []) (hm0.mdn []) hs32 (MIL.cons (MI.app MI.z (nx9) (Nat.le_refl _)) MIL.nil)).nil
        replace hlm1 := (Mo.trL (ks := []) (hlm1.mdn []) hs32 (MIL.cons (MI.app MI.z (nx10) (Nat.le_refl _)) MIL.nil)).nil
        replace hq10 := hq10.trL hs32 (MIL.cons (MI.app (MI.root (by simp)) (nx29) (Nat.le_refl _)) MIL.nil)
        have hz8 := hs32.size
        have hle_ow := ow.le
        refine ⟨.inr hq10, LH.narrow (SH2 := fun Hq => Mo (Ms [k32, (H8_3.size + 1)]) H32 Hq) (fun Hq hq => hq10.trL hq (MIL.cons (MI.app (MI.root (by simp)) (nx39) (Nat.le_refl _)) (MIL.cons (MI.app (MI.root (by simp)) (nx30) (Nat.le_refl _)) MIL.nil))) ?_⟩
        have hq10 : Mo (Ms [k32, (H8_3.size + 1)]) H32 H32 := Mo.refl _ _
        have nx40 := Nx.refl k32 H32.size
        have nx41 := Nx.refl (H8_3.size + 1) H32.size
        refine LH.one (i := 5) (by kernel_rfl) ?_
        -- call selvage/rerere.row
        refine LO.call rfl rfl Try.call22 rfl (Wd.u rfl) rfl rfl (row_ct _ _ _ _ l[j].b w0 _ ow (hx l[j] (List.getElem_mem hjl)).b.any (by have h1 := rowL_len l[j].b; have h2 := rowL_len l[j].o; have h3 := rowL_len l[j].t; (try simp only [List.length_append, List.length_cons, List.length_nil]); omega) hb1) (fun v35 H35 r35 => ?_)
        have ql42 := hz.lt
        have ql43 := ow.le
        have ql44 := hc.lt
        have ql45 := ow31.le
        obtain ⟨v235, k235, rfl, ow, hk235, hs35⟩ := r35
        have df46 := DF.app (df31) (bf_hb.mono hm0.size) hk235
        have dj47 : Dj (H0.size + 1) k235 := Dj.app (dj32) ql42 hk235
        have df48 := DF.app (df33) (bf_hr.mono (by omega)) hk235
        have df49 := DF.app (df34) (bf_hx.mono (by omega)) hk235
        have dj50 : Dj (HL1.size + 1) k235 := Dj.app (dj35) ql44 hk235
        have dj51 : Dj (H8_3.size + 1) k235 := Dj.app (dj36) ql45 hk235
        have nx52 : Nx 0 H0.size k235 := Nx.tr (nx37) hk235 hm0.size
        have nx53 : Nx 0 H14.size k235 := Nx.tr (nx38) hk235 hlm1.size
        have nx54 : Nx k32 H32.size k235 := Nx.tr (nx40) hk235 hq10.size
        replace hb := hb.upL hs35 (DFL.cons df31 DFL.nil)
        replace hz := hz.upL hs35 (DL.cons dj32 DL.nil)
        replace hr := hr.upL hs35 (DFL.cons df33 DFL.nil)
        replace hx := fun x hx_ => (hx x hx_).upL hs35 (DFL.cons df34 DFL.nil)
        replace hc := hc.upL hs35 (DL.cons dj35 DL.nil)
        replace ow31 := ow31.upL hs35 (DL.cons dj36 DL.nil)
        replace hm0 := (Mo.trL (ks := []) (hm0.mdn []) hs35 (MIL.cons (MI.app MI.z (nx37) (Nat.le_refl _)) MIL.nil)).nil
        replace hlm1 := (Mo.trL (ks := []) (hlm1.mdn []) hs35 (MIL.cons (MI.app MI.z (nx38) (Nat.le_refl _)) MIL.nil)).nil
        replace hq10 := hq10.trL hs35 (MIL.cons (MI.app (MI.root (by simp)) (nx40) (Nat.le_refl _)) MIL.nil)
        have hz9 := hs35.size
        have hle_ow := ow.le
        refine ⟨.inr hq10, LH.narrow (SH2 := fun Hq => Mo (Ms [k235, (H8_3.size + 1)]) H35 Hq) (fun Hq hq => hq10.trL hq (MIL.cons (MI.app (MI.root (by simp)) (nx54) (Nat.le_refl _)) (MIL.cons (MI.app (MI.root (by simp)) (nx41) (Nat.le_refl _)) MIL.nil))) ?_⟩
        have hq10 : Mo (Ms [k235, (H8_3.size + 1)]) H35 H35 := Mo.refl _ _
        have nx55 := Nx.refl k235 H35.size
        have nx56 := Nx.refl (H8_3.size + 1) H35.size
        refine LH.take 6 (by kernel_rfl) rfl (by kernel_rfl) (by kernel_rfl) (by kernel_rfl) (fun Hq hq => Y.assign rfl rfl) (Wd.u rfl) rfl rfl hq10 ?_
        refine LH.done (by kernel_rfl) ?_
        refine hK19 _ _ ?_
        refine CW.exit (hE17 (.exit 1) nofun _ _ (hX15 _ _ ?_))
        refine hK14 _ _ ?_
        refine CW.region ?_
        refine LR.v (Y.addi rfl rfl rfl (by omega)) (Wd.u rfl) rfl rfl ?_
        refine LR.v (Y.move rfl rfl) (Wd.u rfl) rfl rfl ?_
        refine LR.nil ?_
        have hsm : someC ((l.map Ck.c).take j) = someC ((l.map Ck.c).take (j + 1)) := by rw [hss, decide_eq_false (show ¬ l[j].c.1 ≠ 0 by omega), Bool.or_false]
        refine QN.sub (hN11 (j + 1, v35, k235) _ ?_ ?_) ⟨rfl, rfl, (congrArg (fun x => some (Value.bool x)) hsm), rfl, (iv (by omega)), (iv (by omega)), trivial⟩
        · exact ⟨(by omega), by rw [hks, key1_0 (by omega)]; simpa using ow, nx53, hlm1⟩
        · first | omega | (simp only; omega) | (simp; omega)
      ·
        refine CW.skip ?_
        refine hK17 _ _ ?_
        refine CW.seq (fun K20 hK20 hE20 => ?_)
        refine CW.region ?_
        refine LR.v (Y.assign rfl rfl) (Wd.u rfl) rfl rfl ?_
        refine LR.nil ?_
        refine hK20 _ _ ?_
        refine CW.seq (fun K21 hK21 hE21 => ?_)
        refine CW.region_draw rfl (by kernel_rfl) ?_
        refine LR.v (Y.fieldAddr hc.pt rfl Try.runUnderlying54 rfl rfl Try.sizeOf32 (by decide) rfl) (Wd.u rfl) rfl rfl ?_
        refine LR.v (Y.load1 (hc.pt.drop 2) rfl Try.isAgg32 rfl) (Wd.u rfl) rfl rfl ?_
        refine LR.v (Y.fieldAddr hc.pt rfl Try.runUnderlying54 rfl rfl Try.sizeOf32 (by decide) rfl) (Wd.u rfl) rfl rfl ?_
        refine LR.v (Y.load1 (hc.pt.drop 3) rfl Try.isAgg32 rfl) (Wd.u rfl) rfl rfl ?_
        refine LR.v (Y.assign rfl rfl) (Wd.u rfl) rfl rfl ?_
        refine LR.v (Y.assign rfl rfl) (Wd.u rfl) rfl rfl ?_
        refine LR.nil ?_
        refine hK21 _ _ ?_
        refine CW.seq (fun K22 hK22 hE22 => ?_)
        refine CW.seq (fun K23 hK23 hE23 => ?_)
        refine CW.region ?_
        refine LR.v (Y.move rfl rfl) (Wd.u rfl) rfl rfl ?_
        -- call selvage/lines.Join
        refine LR.call rfl Try.call24 rfl (Wd.u rfl) rfl rfl (join3 _ l[j].o w0 _ (hx l[j] (List.getElem_mem hjl)).o.any (by omega)) (fun v41 H41 r41 => ?_)
        obtain ⟨v41, k41, rfl, oj41, hk41, hs41⟩ := r41
        have df57 := DF.app (DF.z) (bf_hb.mono hm0.size) hk41
        have dj58 : Dj (H0.size + 1) k41 := Dj.app (Dj.z) hz.lt hk41
        have df59 := DF.app (DF.z) (bf_hr.mono (by omega)) hk41
        have df60 := DF.app (DF.z) (bf_hx.mono (by omega)) hk41
        have dj61 : Dj ko k41 := Dj.app (Dj.z) ow.le hk41
        have dj62 : Dj (HL1.size + 1) k41 := Dj.app (Dj.z) hc.lt hk41
        have nx63 : Nx 0 H0.size k41 := Nx.tr (Nx.refl 0 _) hk41 hm0.size
        have nx64 : Nx 0 H14.size k41 := Nx.tr (Nx.refl 0 _) hk41 hlm1.size
        replace hb := hb.nw hs41
        replace hz := hz.nw hs41
        replace hr := hr.nw hs41
        replace hx := fun x hx_ => (hx x hx_).nw hs41
        replace ow := ow.nw hs41
        replace hc := hc.nw hs41
        replace hm0 := hm0.tr hs41
        replace hlm1 := hlm1.tr hs41
        have hz10 := hs41.size
        have hle_oj41 := oj41.le
        refine LR.v (Y.move rfl rfl) (Wd.u rfl) rfl rfl ?_
        -- call selvage/lines.Join
        refine LR.call rfl Try.call24 rfl (Wd.u rfl) rfl rfl (join3 _ l[j].t w0 _ (hx l[j] (List.getElem_mem hjl)).t.any (by omega)) (fun v43 H43 r43 => ?_)
        obtain ⟨v43, k43, rfl, oj43, hk43, hs43⟩ := r43
        have df65 := DF.app (DF.z) (bf_hb.mono hm0.size) hk43
        have dj66 : Dj (H0.size + 1) k43 := Dj.app (Dj.z) hz.lt hk43
        have df67 := DF.app (DF.z) (bf_hr.mono (by omega)) hk43
        have df68 := DF.app (DF.z) (bf_hx.mono (by omega)) hk43
        have dj69 : Dj ko k43 := Dj.app (Dj.z) ow.le hk43
        have dj70 : Dj (HL1.size + 1) k43 := Dj.app (Dj.z) hc.lt hk43
        have dj71 : Dj k41 k43 := Dj.app (Dj.z) oj41.le hk43
        have nx72 : Nx 0 H0.size k43 := Nx.tr (Nx.refl 0 _) hk43 hm0.size
        have nx73 : Nx 0 H14.size k43 := Nx.tr (Nx.refl 0 _) hk43 hlm1.size
        replace hb := hb.nw hs43
        replace hz := hz.nw hs43
        replace hr := hr.nw hs43
        replace hx := fun x hx_ => (hx x hx_).nw hs43
        replace ow := ow.nw hs43
        replace hc := hc.nw hs43
        replace oj41 := oj41.nw hs43
        replace hm0 := hm0.tr hs43
        replace hlm1 := hlm1.tr hs43
        have hz11 := hs43.size
        have hle_oj43 := oj43.le
        -- call bytes.Compare
        refine LR.call rfl Try.call23 rfl (Wd.u rfl) rfl rfl (cmp_ct _ _ l[j].o.flatten l[j].t.flatten w0 _ oj41.rd.any oj43.rd.any) (fun v44 H44 r44 => ?_)
        obtain ⟨rfl, hs44⟩ := r44
        replace hb := hb.nw hs44
        replace hz := hz.nw hs44
        replace hr := hr.nw hs44
        replace hx := fun x hx_ => (hx x hx_).nw hs44
        replace ow := ow.nw hs44
        replace hc := hc.nw hs44
        replace oj41 := oj41.nw hs44
        replace oj43 := oj43.nw hs44
        replace hm0 := hm0.tr hs44
        replace hlm1 := hlm1.tr hs44
        have hz12 := hs44.size
        refine LR.v (Y.gtr rfl rfl rfl) (Wd.u rfl) rfl rfl ?_
        refine LR.nil ?_
        refine hK23 _ _ ?_
        refine CW.condp rfl (fun c45 => ?_) (fun c45 => ?_)
        ·
          have hsw : swapB l[j].o l[j].t = true := (cmp_pos _ _).1 c45
          ·
            refine CW.region ?_
            refine LR.v (Y.move rfl rfl) (Wd.u rfl) rfl rfl ?_
            refine LR.v (Y.move rfl rfl) (Wd.u rfl) rfl rfl ?_
            refine LR.v (Y.assign rfl rfl) (Wd.u rfl) rfl rfl ?_
            refine LR.v (Y.assign rfl rfl) (Wd.u rfl) rfl rfl ?_
            refine LR.nil ?_
            refine hK22 _ _ ?_
            refine CW.region_any (fun Hq => Mo (Ms [ko]) H44 Hq) [] rfl ?_
            have hq15 : Mo (Ms [ko]) H44 H44 := Mo.refl _ _
            have nx74 := Nx.refl ko H44.size
            refine LH.take 0 (by kernel_rfl) rfl (by kernel_rfl) (by kernel_rfl) (by kernel_rfl) (fun Hq hq => Y.move rfl rfl) (Wd.u rfl) rfl rfl hq15 ?_
            refine LH.take 3 (by kernel_rfl) rfl (by kernel_rfl) (by kernel_rfl) (by kernel_rfl) (fun Hq hq => Y.fieldAddr (hc.upL hq (DL.cons dj15.symm DL.nil)).pt rfl Try.runUnderlying54 rfl rfl Try.sizeOf32 (by decide) rfl) (Wd.u rfl) rfl rfl hq15 ?_
            refine LH.take 4 (by kernel_rfl) rfl (by kernel_rfl) (by kernel_rfl) (by kernel_rfl) (fun Hq hq => Y.load1 ((hc.upL hq (DL.cons dj15.symm DL.nil)).pt.drop 1) rfl Try.isAgg32 rfl) (Wd.u rfl) rfl rfl hq15 ?_
            refine LH.take 6 (by kernel_rfl) rfl (by kernel_rfl) (by kernel_rfl) (by kernel_rfl) (fun Hq hq => Y.move rfl rfl) (Wd.u rfl) rfl rfl hq15 ?_
            refine LH.take 8 (by kernel_rfl) rfl (by kernel_rfl) (by kernel_rfl) (by kernel_rfl) (fun Hq hq => Y.move rfl rfl) (Wd.u rfl) rfl rfl hq15 ?_
            refine LH.one (i := 1) (by kernel_rfl) ?_
            refine LO.z rfl (Z.litw _ ([(1 : UInt8)]) rfl inf22 rfl rfl rfl (by decide) (by decide) fB_len fB_one (rfl)) (Wd.u rfl) rfl rfl (fun v49 H49 r49 => ?_)
            obtain ⟨ow49, hs49, ob49, hH49⟩ := r49
            have hzs49 : H49.size = H44.size + 1 := by rw [hH49]; simp
            have df75 := (DF.new (bf_hb.mono hm0.size) : DF _ (H44.size + 1))
            have dj76 : Dj (H0.size + 1) (H44.size + 1) := Dj.new hz.lt
            have df77 := (DF.new (bf_hr.mono (by omega)) : DF _ (H44.size + 1))
            have df78 := (DF.new (bf_hx.mono (by omega)) : DF _ (H44.size + 1))
            have dj79 : Dj ko (H44.size + 1) := Dj.new ow.le
            have dj80 : Dj (HL1.size + 1) (H44.size + 1) := Dj.new hc.lt
            have dj81 : Dj k41 (H44.size + 1) := Dj.new oj41.le
            have dj82 : Dj k43 (H44.size + 1) := Dj.new oj43.le
            have nx83 : Nx 0 H0.size (H44.size + 1) := Nx.new hm0.size
            have nx84 : Nx 0 H14.size (H44.size + 1) := Nx.new hlm1.size
            have nx85 : Nx 0 H44.size (H44.size + 1) := Nx.new hq15.size
            replace hb := hb.nw hs49
            replace hz := hz.nw hs49
            replace hr := hr.nw hs49
            replace hx := fun x hx_ => (hx x hx_).nw hs49
            replace ow := ow.nw hs49
            replace hc := hc.nw hs49
            replace oj41 := oj41.nw hs49
            replace oj43 := oj43.nw hs49
            replace hm0 := hm0.tr hs49
            replace hlm1 := hlm1.tr hs49
            replace hq15 := hq15.trN hs49
            have hz13 := hs49.size
            refine ⟨.inr hq15, LH.narrow (SH2 := fun Hq => Mo (Ms [ko, (H44.size + 1)]) H49 Hq) (fun Hq hq => hq15.trL hq (MIL.cons (MI.app (MI.root (by simp)) (nx74) (Nat.le_refl _)) (MIL.cons (MI.app MI.z (nx85) (Nat.le_refl _)) MIL.nil))) ?_⟩
            have hq15 : Mo (Ms [ko, (H44.size + 1)]) H49 H49 := Mo.refl _ _
            have nx86 := Nx.refl ko H49.size
            have nx87 := Nx.refl (H44.size + 1) H49.size
            refine LH.one (i := 2) (by kernel_rfl) ?_
            refine LO.z rfl (Z.apnd ow ow49.rd rfl inf22 rfl rfl (by simp only [List.length_cons, List.length_nil]; omega) (by simp only [List.length_cons, List.length_nil]; omega)) (Wd.u rfl) rfl rfl (fun v50 H50 r50 => ?_)
            obtain ⟨k50, ow, hk50, hs50⟩ := r50
            replace hk50 : Nx ko H49.size k50 := hk50
            replace hs50 := hs50.md
            have df88 := DF.app (df5) (bf_hb.mono hm0.size) hk50
            have dj89 : Dj (H0.size + 1) k50 := Dj.app (dj6) hz.lt hk50
            have df90 := DF.app (df7) (bf_hr.mono (by omega)) hk50
            have df91 := DF.app (df8) (bf_hx.mono (by omega)) hk50
            have dj92 : Dj (HL1.size + 1) k50 := Dj.app (dj15.symm) hc.lt hk50
            have dj93 : Dj k41 k50 := Dj.app (dj61.symm) oj41.le hk50
            have dj94 : Dj k43 k50 := Dj.app (dj69.symm) oj43.le hk50
            have dj95 : Dj (H44.size + 1) k50 := Dj.app (dj79.symm) ow49.le hk50
            have nx96 : Nx 0 H0.size k50 := Nx.tr (nx9) hk50 hm0.size
            have nx97 : Nx 0 H14.size k50 := Nx.tr (nx10) hk50 hlm1.size
            have nx98 : Nx ko H49.size k50 := Nx.tr (nx86) hk50 hq15.size
            replace hb := hb.upL hs50 (DFL.cons df5 DFL.nil)
            replace hz := hz.upL hs50 (DL.cons dj6 DL.nil)
            replace hr := hr.upL hs50 (DFL.cons df7 DFL.nil)
            replace hx := fun x hx_ => (hx x hx_).upL hs50 (DFL.cons df8 DFL.nil)
            replace hc := hc.upL hs50 (DL.cons dj15.symm DL.nil)
            replace oj41 := oj41.upL hs50 (DL.cons dj61.symm DL.nil)
            replace oj43 := oj43.upL hs50 (DL.cons dj69.symm DL.nil)
            replace ow49 := ow49.upL hs50 (DL.cons dj79.symm DL.nil)
            replace hm0 := (Mo.trL (ks := []) (hm0.mdn []) hs50 (MIL.cons (MI.app MI.z (nx9) (Nat.le_refl _)) MIL.nil)).nil
            replace hlm1 := (Mo.trL (ks := []) (hlm1.mdn []) hs50 (MIL.cons (MI.app MI.z (nx10) (Nat.le_refl _)) MIL.nil)).nil
            replace hq15 := hq15.trL hs50 (MIL.cons (MI.app (MI.root (by simp)) (nx86) (Nat.le_refl _)) MIL.nil)
            have hz14 := hs50.size
            have hle_ow := ow.le
            refine ⟨.inr hq15, LH.narrow (SH2 := fun Hq => Mo (Ms [k50, (H44.size + 1)]) H50 Hq) (fun Hq hq => hq15.trL hq (MIL.cons (MI.app (MI.root (by simp)) (nx98) (Nat.le_refl _)) (MIL.cons (MI.app (MI.root (by simp)) (nx87) (Nat.le_refl _)) MIL.nil))) ?_⟩
            have hq15 : Mo (Ms [k50, (H44.size + 1)]) H50 H50 := Mo.refl _ _
            have nx99 := Nx.refl k50 H50.size
            have nx100 := Nx.refl (H44.size + 1) H50.size
            refine LH.one (i := 5) (by kernel_rfl) ?_
            -- call selvage/rerere.row
            refine LO.call rfl rfl Try.call22 rfl (Wd.u rfl) rfl rfl (row_ct _ _ _ _ l[j].b w0 _ ow (hx l[j] (List.getElem_mem hjl)).b.any (by have h1 := rowL_len l[j].b; have h2 := rowL_len l[j].o; have h3 := rowL_len l[j].t; (try simp only [List.length_append, List.length_cons, List.length_nil]); omega) hb1) (fun v53 H53 r53 => ?_)
            have ql101 := hz.lt
            have ql102 := ow.le
            have ql103 := hc.lt
            have ql104 := oj41.le
            have ql105 := oj43.le
            have ql106 := ow49.le
            obtain ⟨v253, k253, rfl, ow, hk253, hs53⟩ := r53
            have df107 := DF.app (df88) (bf_hb.mono hm0.size) hk253
            have dj108 : Dj (H0.size + 1) k253 := Dj.app (dj89) ql101 hk253
            have df109 := DF.app (df90) (bf_hr.mono (by omega)) hk253
            have df110 := DF.app (df91) (bf_hx.mono (by omega)) hk253
            have dj111 : Dj (HL1.size + 1) k253 := Dj.app (dj92) ql103 hk253
            have dj112 : Dj k41 k253 := Dj.app (dj93) ql104 hk253
            have dj113 : Dj k43 k253 := Dj.app (dj94) ql105 hk253
            have dj114 : Dj (H44.size + 1) k253 := Dj.app (dj95) ql106 hk253
            have nx115 : Nx 0 H0.size k253 := Nx.tr (nx96) hk253 hm0.size
            have nx116 : Nx 0 H14.size k253 := Nx.tr (nx97) hk253 hlm1.size
            have nx117 : Nx k50 H50.size k253 := Nx.tr (nx99) hk253 hq15.size
            replace hb := hb.upL hs53 (DFL.cons df88 DFL.nil)
            replace hz := hz.upL hs53 (DL.cons dj89 DL.nil)
            replace hr := hr.upL hs53 (DFL.cons df90 DFL.nil)
            replace hx := fun x hx_ => (hx x hx_).upL hs53 (DFL.cons df91 DFL.nil)
            replace hc := hc.upL hs53 (DL.cons dj92 DL.nil)
            replace oj41 := oj41.upL hs53 (DL.cons dj93 DL.nil)
            replace oj43 := oj43.upL hs53 (DL.cons dj94 DL.nil)
            replace ow49 := ow49.upL hs53 (DL.cons dj95 DL.nil)
            replace hm0 := (Mo.trL (ks := []) (hm0.mdn []) hs53 (MIL.cons (MI.app MI.z (nx96) (Nat.le_refl _)) MIL.nil)).nil
            replace hlm1 := (Mo.trL (ks := []) (hlm1.mdn []) hs53 (MIL.cons (MI.app MI.z (nx97) (Nat.le_refl _)) MIL.nil)).nil
            replace hq15 := hq15.trL hs53 (MIL.cons (MI.app (MI.root (by simp)) (nx99) (Nat.le_refl _)) MIL.nil)
            have hz15 := hs53.size
            have hle_ow := ow.le
            refine ⟨.inr hq15, LH.narrow (SH2 := fun Hq => Mo (Ms [k253, (H44.size + 1)]) H53 Hq) (fun Hq hq => hq15.trL hq (MIL.cons (MI.app (MI.root (by simp)) (nx117) (Nat.le_refl _)) (MIL.cons (MI.app (MI.root (by simp)) (nx100) (Nat.le_refl _)) MIL.nil))) ?_⟩
            have hq15 : Mo (Ms [k253, (H44.size + 1)]) H53 H53 := Mo.refl _ _
            have nx118 := Nx.refl k253 H53.size
            have nx119 := Nx.refl (H44.size + 1) H53.size
            refine LH.one (i := 7) (by kernel_rfl) ?_
            -- call selvage/rerere.row
            refine LO.call rfl rfl Try.call22 rfl (Wd.u rfl) rfl rfl (row_ct _ _ _ _ l[j].t w0 _ ow (hx l[j] (List.getElem_mem hjl)).t.any (by have h1 := rowL_len l[j].b; have h2 := rowL_len l[j].o; have h3 := rowL_len l[j].t; (try simp only [List.length_append, List.length_cons, List.length_nil]); omega) hb3) (fun v55 H55 r55 => ?_)
            have ql120 := hz.lt
            have ql121 := ow.le
            have ql122 := hc.lt
            have ql123 := oj41.le
            have ql124 := oj43.le
            have ql125 := ow49.le
            obtain ⟨v255, k255, rfl, ow, hk255, hs55⟩ := r55
            have df126 := DF.app (df107) (bf_hb.mono hm0.size) hk255
            have dj127 : Dj (H0.size + 1) k255 := Dj.app (dj108) ql120 hk255
            have df128 := DF.app (df109) (bf_hr.mono (by omega)) hk255
            have df129 := DF.app (df110) (bf_hx.mono (by omega)) hk255
            have dj130 : Dj (HL1.size + 1) k255 := Dj.app (dj111) ql122 hk255
            have dj131 : Dj k41 k255 := Dj.app (dj112) ql123 hk255
            have dj132 : Dj k43 k255 := Dj.app (dj113) ql124 hk255
            have dj133 : Dj (H44.size + 1) k255 := Dj.app (dj114) ql125 hk255
            have nx134 : Nx 0 H0.size k255 := Nx.tr (nx115) hk255 hm0.size
            have nx135 : Nx 0 H14.size k255 := Nx.tr (nx116) hk255 hlm1.size
            have nx136 : Nx k253 H53.size k255 := Nx.tr (nx118) hk255 hq15.size
            replace hb := hb.upL hs55 (DFL.cons df107 DFL.nil)
            replace hz := hz.upL hs55 (DL.cons dj108 DL.nil)
            replace hr := hr.upL hs55 (DFL.cons df109 DFL.nil)
            replace hx := fun x hx_ => (hx x hx_).upL hs55 (DFL.cons df110 DFL.nil)
            replace hc := hc.upL hs55 (DL.cons dj111 DL.nil)
            replace oj41 := oj41.upL hs55 (DL.cons dj112 DL.nil)
            replace oj43 := oj43.upL hs55 (DL.cons dj113 DL.nil)
            replace ow49 := ow49.upL hs55 (DL.cons dj114 DL.nil)
            replace hm0 := (Mo.trL (ks := []) (hm0.mdn []) hs55 (MIL.cons (MI.app MI.z (nx115) (Nat.le_refl _)) MIL.nil)).nil
            replace hlm1 := (Mo.trL (ks := []) (hlm1.mdn []) hs55 (MIL.cons (MI.app MI.z (nx116) (Nat.le_refl _)) MIL.nil)).nil
            replace hq15 := hq15.trL hs55 (MIL.cons (MI.app (MI.root (by simp)) (nx118) (Nat.le_refl _)) MIL.nil)
            have hz16 := hs55.size
            have hle_ow := ow.le
            refine ⟨.inr hq15, LH.narrow (SH2 := fun Hq => Mo (Ms [k255, (H44.size + 1)]) H55 Hq) (fun Hq hq => hq15.trL hq (MIL.cons (MI.app (MI.root (by simp)) (nx136) (Nat.le_refl _)) (MIL.cons (MI.app (MI.root (by simp)) (nx119) (Nat.le_refl _)) MIL.nil))) ?_⟩
            have hq15 : Mo (Ms [k255, (H44.size + 1)]) H55 H55 := Mo.refl _ _
            have nx137 := Nx.refl k255 H55.size
            have nx138 := Nx.refl (H44.size + 1) H55.size
            refine LH.one (i := 9) (by kernel_rfl) ?_
            -- call selvage/rerere.row
            refine LO.call rfl rfl Try.call22 rfl (Wd.u rfl) rfl rfl (row_ct _ _ _ _ l[j].o w0 _ ow (hx l[j] (List.getElem_mem hjl)).o.any (by have h1 := rowL_len l[j].b; have h2 := rowL_len l[j].o; have h3 := rowL_len l[j].t; (try simp only [List.length_append, List.length_cons, List.length_nil]); omega) hb2) (fun v57 H57 r57 => ?_)
            have ql139 := hz.lt
            have ql140 := ow.le
            have ql141 := hc.lt
            have ql142 := oj41.le
            have ql143 := oj43.le
            have ql144 := ow49.le
            obtain ⟨v257, k257, rfl, ow, hk257, hs57⟩ := r57
            have df145 := DF.app (df126) (bf_hb.mono hm0.size) hk257
            have dj146 : Dj (H0.size + 1) k257 := Dj.app (dj127) ql139 hk257
            have df147 := DF.app (df128) (bf_hr.mono (by omega)) hk257
            have df148 := DF.app (df129) (bf_hx.mono (by omega)) hk257
            have dj149 : Dj (HL1.size + 1) k257 := Dj.app (dj130) ql141 hk257
            have dj150 : Dj k41 k257 := Dj.app (dj131) ql142 hk257
            have dj151 : Dj k43 k257 := Dj.app (dj132) ql143 hk257
            have dj152 : Dj (H44.size + 1) k257 := Dj.app (dj133) ql144 hk257
            have nx153 : Nx 0 H0.size k257 := Nx.tr (nx134) hk257 hm0.size
            have nx154 : Nx 0 H14.size k257 := Nx.tr (nx135) hk257 hlm1.size
            have nx155 : Nx k255 H55.size k257 := Nx.tr (nx137) hk257 hq15.size
            replace hb := hb.upL hs57 (DFL.cons df126 DFL.nil)
            replace hz := hz.upL hs57 (DL.cons dj127 DL.nil)
            replace hr := hr.upL hs57 (DFL.cons df128 DFL.nil)
            replace hx := fun x hx_ => (hx x hx_).upL hs57 (DFL.cons df129 DFL.nil)
            replace hc := hc.upL hs57 (DL.cons dj130 DL.nil)
            replace oj41 := oj41.upL hs57 (DL.cons dj131 DL.nil)
            replace oj43 := oj43.upL hs57 (DL.cons dj132 DL.nil)
            replace ow49 := ow49.upL hs57 (DL.cons dj133 DL.nil)
            replace hm0 := (Mo.trL (ks := []) (hm0.mdn []) hs57 (MIL.cons (MI.app MI.z (nx134) (Nat.le_refl _)) MIL.nil)).nil
            replace hlm1 := (Mo.trL (ks := []) (hlm1.mdn []) hs57 (MIL.cons (MI.app MI.z (nx135) (Nat.le_refl _)) MIL.nil)).nil
            replace hq15 := hq15.trL hs57 (MIL.cons (MI.app (MI.root (by simp)) (nx137) (Nat.le_refl _)) MIL.nil)
            have hz17 := hs57.size
            have hle_ow := ow.le
            refine ⟨.inr hq15, LH.narrow (SH2 := fun Hq => Mo (Ms [k257, (H44.size + 1)]) H57 Hq) (fun Hq hq => hq15.trL hq (MIL.cons (MI.app (MI.root (by simp)) (nx155) (Nat.le_refl _)) (MIL.cons (MI.app (MI.root (by simp)) (nx138) (Nat.le_refl _)) MIL.nil))) ?_⟩
            have hq15 : Mo (Ms [k257, (H44.size + 1)]) H57 H57 := Mo.refl _ _
            have nx156 := Nx.refl k257 H57.size
            have nx157 := Nx.refl (H44.size + 1) H57.size
            refine LH.take 10 (by kernel_rfl) rfl (by kernel_rfl) (by kernel_rfl) (by kernel_rfl) (fun Hq hq => Y.assign rfl rfl) (Wd.u rfl) rfl rfl hq15 ?_
            refine LH.done (by kernel_rfl) ?_
            refine hK15 _ _ ?_
            refine hK14 _ _ ?_
            refine CW.region ?_
            refine LR.v (Y.addi rfl rfl rfl (by omega)) (Wd.u rfl) rfl rfl ?_
            refine LR.v (Y.move rfl rfl) (Wd.u rfl) rfl rfl ?_
            refine LR.nil ?_
            have hsm : true = someC ((l.map Ck.c).take (j + 1)) := by rw [hss, decide_eq_true (show l[j].c.1 ≠ 0 by omega), Bool.or_true]
            refine QN.sub (hN11 (j + 1, v57, k257) _ ?_ ?_) ⟨rfl, rfl, (congrArg (fun x => some (Value.bool x)) hsm), rfl, (iv (by omega)), (iv (by omega)), trivial⟩
            · exact ⟨(by omega), by rw [hks, key1_T (by omega) hsw]; simpa using ow, nx154, hlm1⟩
            · first | omega | (simp only; omega) | (simp; omega)
        ·
          have hsw : ¬ swapB l[j].o l[j].t = true := fun h => c45 ((cmp_pos _ _).2 h)
          ·
            refine CW.skip ?_
            refine hK22 _ _ ?_
            refine CW.region_any (fun Hq => Mo (Ms [ko]) H44 Hq) [] rfl ?_
            have hq15 : Mo (Ms [ko]) H44 H44 := Mo.refl _ _
            have nx158 := Nx.refl ko H44.size
            refine LH.take 0 (by kernel_rfl) rfl (by kernel_rfl) (by kernel_rfl) (by kernel_rfl) (fun Hq hq => Y.move rfl rfl) (Wd.u rfl) rfl rfl hq15 ?_
            refine LH.take 3 (by kernel_rfl) rfl (by kernel_rfl) (by kernel_rfl) (by kernel_rfl) (fun Hq hq => Y.fieldAddr (hc.upL hq (DL.cons dj15.symm DL.nil)).pt rfl Try.runUnderlying54 rfl rfl Try.sizeOf32 (by decide) rfl) (Wd.u rfl) rfl rfl hq15 ?_
            refine LH.take 4 (by kernel_rfl) rfl (by kernel_rfl) (by kernel_rfl) (by kernel_rfl) (fun Hq hq => Y.load1 ((hc.upL hq (DL.cons dj15.symm DL.nil)).pt.drop 1) rfl Try.isAgg32 rfl) (Wd.u rfl) rfl rfl hq15 ?_
            refine LH.take 6 (by kernel_rfl) rfl (by kernel_rfl) (by kernel_rfl) (by kernel_rfl) (fun Hq hq => Y.move rfl rfl) (Wd.u rfl) rfl rfl hq15 ?_
            refine LH.take 8 (by kernel_rfl) rfl (by kernel_rfl) (by kernel_rfl) (by kernel_rfl) (fun Hq hq => Y.move rfl rfl) (Wd.u rfl) rfl rfl hq15 ?_
            refine LH.one (i := 1) (by kernel_rfl) ?_
            refine LO.z rfl (Z.litw _ ([(1 : UInt8)]) rfl inf22 rfl rfl rfl (by decide) (by decide) fB_len fB_one (rfl)) (Wd.u rfl) rfl rfl (fun v49 H49 r49 => ?_)
            obtain ⟨ow49, hs49, ob49, hH49⟩ := r49
            have hzs49 : H49.size = H44.size + 1 := by rw [hH49]; simp
            have df159 := (DF.new (bf_hb.mono hm0.size) : DF _ (H44.size + 1))
            have dj160 : Dj (H0.size + 1) (H44.size + 1) := Dj.new hz.lt
            have df161 := (DF.new (bf_hr.mono (by omega)) : DF _ (H44.size + 1))
            have df162 := (DF.new (bf_hx.mono (by omega)) : DF _ (H44.size + 1))
            have dj163 : Dj ko (H44.size + 1) := Dj.new ow.le
            have dj164 : Dj (HL1.size + 1) (H44.size + 1) := Dj.new hc.lt
            have dj165 : Dj k41 (H44.size + 1) := Dj.new oj41.le
            have dj166 : Dj k43 (H44.size + 1) := Dj.new oj43.le
            have nx167 : Nx 0 H0.size (H44.size + 1) := Nx.new hm0.size
            have nx168 : Nx 0 H14.size (H44.size + 1) := Nx.new hlm1.size
            have nx169 : Nx 0 H44.size (H44.size + 1) := Nx.new hq15.size
            replace hb := hb.nw hs49
            replace hz := hz.nw hs49
            replace hr := hr.nw hs49
            replace hx := fun x hx_ => (hx x hx_).nw hs49
            replace ow := ow.nw hs49
            replace hc := hc.nw hs49
            replace oj41 := oj41.nw hs49
            replace oj43 := oj43.nw hs49
            replace hm0 := hm0.tr hs49
            replace hlm1 := hlm1.tr hs49
            replace hq15 := hq15.trN hs49
            have hz18 := hs49.size
            refine ⟨.inr hq15, LH.narrow (SH2 := fun Hq => Mo (Ms [ko, (H44.size + 1)]) H49 Hq) (fun Hq hq => hq15.trL hq (MIL.cons (MI.app (MI.root (by simp)) (nx158) (Nat.le_refl _)) (MIL.cons (MI.app MI.z (nx169) (Nat.le_refl _)) MIL.nil))) ?_⟩
            have hq15 : Mo (Ms [ko, (H44.size + 1)]) H49 H49 := Mo.refl _ _
            have nx170 := Nx.refl ko H49.size
            have nx171 := Nx.refl (H44.size + 1) H49.size
            refine LH.one (i := 2) (by kernel_rfl) ?_
            refine LO.z rfl (Z.apnd ow ow49.rd rfl inf22 rfl rfl (by simp only [List.length_cons, List.length_nil]; omega) (by simp only [List.length_cons, List.length_nil]; omega)) (Wd.u rfl) rfl rfl (fun v50 H50 r50 => ?_)
            obtain ⟨k50, ow, hk50, hs50⟩ := r50
            replace hk50 : Nx ko H49.size k50 := hk50
            replace hs50 := hs50.md
            have df172 := DF.app (df5) (bf_hb.mono hm0.size) hk50
            have dj173 : Dj (H0.size + 1) k50 := Dj.app (dj6) hz.lt hk50
            have df174 := DF.app (df7) (bf_hr.mono (by omega)) hk50
            have df175 := DF.app (df8) (bf_hx.mono (by omega)) hk50
            have dj176 : Dj (HL1.size + 1) k50 := Dj.app (dj15.symm) hc.lt hk50
            have dj177 : Dj k41 k50 := Dj.app (dj61.symm) oj41.le hk50
            have dj178 : Dj k43 k50 := Dj.app (dj69.symm) oj43.le hk50
            have dj179 : Dj (H44.size + 1) k50 := Dj.app (dj163.symm) ow49.le hk50
            have nx180 : Nx 0 H0.size k50 := Nx.tr (nx9) hk50 hm0.size
            have nx181 : Nx 0 H14.size k50 := Nx.tr (nx10) hk50 hlm1.size
            have nx182 : Nx ko H49.size k50 := Nx.tr (nx170) hk50 hq15.size
            replace hb := hb.upL hs50 (DFL.cons df5 DFL.nil)
            replace hz := hz.upL hs50 (DL.cons dj6 DL.nil)
            replace hr := hr.upL hs50 (DFL.cons df7 DFL.nil)
            replace hx := fun x hx_ => (hx x hx_).upL hs50 (DFL.cons df8 DFL.nil)
            replace hc := hc.upL hs50 (DL.cons dj15.symm DL.nil)
            replace oj41 := oj41.upL hs50 (DL.cons dj61.symm DL.nil)
            replace oj43 := oj43.upL hs50 (DL.cons dj69.symm DL.nil)
            replace ow49 := ow49.upL hs50 (DL.cons dj163.symm DL.nil)
            replace hm0 := (Mo.trL (ks := []) (hm0.mdn []) hs50 (MIL.cons (MI.app MI.z (nx9) (Nat.le_refl _)) MIL.nil)).nil
            replace hlm1 := (Mo.trL (ks := []) (hlm1.mdn []) hs50 (MIL.cons (MI.app MI.z (nx10) (Nat.le_refl _)) MIL.nil)).nil
            replace hq15 := hq15.trL hs50 (MIL.cons (MI.app (MI.root (by simp)) (nx170) (Nat.le_refl _)) MIL.nil)
            have hz19 := hs50.size
            have hle_ow := ow.le
            refine ⟨.inr hq15, LH.narrow (SH2 := fun Hq => Mo (Ms [k50, (H44.size + 1)]) H50 Hq) (fun Hq hq => hq15.trL hq (MIL.cons (MI.app (MI.root (by simp)) (nx182) (Nat.le_refl _)) (MIL.cons (MI.app (MI.root (by simp)) (nx171) (Nat.le_refl _)) MIL.nil))) ?_⟩
            have hq15 : Mo (Ms [k50, (H44.size + 1)]) H50 H50 := Mo.refl _ _
            have nx183 := Nx.refl k50 H50.size
            have nx184 := Nx.refl (H44.size + 1) H50.size
            refine LH.one (i := 5) (by kernel_rfl) ?_
            -- call selvage/rerere.row
            refine LO.call rfl rfl Try.call22 rfl (Wd.u rfl) rfl rfl (row_ct _ _ _ _ l[j].b w0 _ ow (hx l[j] (List.getElem_mem hjl)).b.any (by have h1 := rowL_len l[j].b; have h2 := rowL_len l[j].o; have h3 := rowL_len l[j].t; (try simp only [List.length_append, List.length_cons, List.length_nil]); omega) hb1) (fun v53 H53 r53 => ?_)
            have ql185 := hz.lt
            have ql186 := ow.le
            have ql187 := hc.lt
            have ql188 := oj41.le
            have ql189 := oj43.le
            have ql190 := ow49.le
            obtain ⟨v253, k253, rfl, ow, hk253, hs53⟩ := r53
            have df191 := DF.app (df172) (bf_hb.mono hm0.size) hk253
            have dj192 : Dj (H0.size + 1) k253 := Dj.app (dj173) ql185 hk253
            have df193 := DF.app (df174) (bf_hr.mono (by omega)) hk253
            have df194 := DF.app (df175) (bf_hx.mono (by omega)) hk253
            have dj195 : Dj (HL1.size + 1) k253 := Dj.app (dj176) ql187 hk253
            have dj196 : Dj k41 k253 := Dj.app (dj177) ql188 hk253
            have dj197 : Dj k43 k253 := Dj.app (dj178) ql189 hk253
            have dj198 : Dj (H44.size + 1) k253 := Dj.app (dj179) ql190 hk253
            have nx199 : Nx 0 H0.size k253 := Nx.tr (nx180) hk253 hm0.size
            have nx200 : Nx 0 H14.size k253 := Nx.tr (nx181) hk253 hlm1.size
            have nx201 : Nx k50 H50.size k253 := Nx.tr (nx183) hk253 hq15.size
            replace hb := hb.upL hs53 (DFL.cons df172 DFL.nil)
            replace hz := hz.upL hs53 (DL.cons dj173 DL.nil)
            replace hr := hr.upL hs53 (DFL.cons df174 DFL.nil)
            replace hx := fun x hx_ => (hx x hx_).upL hs53 (DFL.cons df175 DFL.nil)
            replace hc := hc.upL hs53 (DL.cons dj176 DL.nil)
            replace oj41 := oj41.upL hs53 (DL.cons dj177 DL.nil)
            replace oj43 := oj43.upL hs53 (DL.cons dj178 DL.nil)
            replace ow49 := ow49.upL hs53 (DL.cons dj179 DL.nil)
            replace hm0 := (Mo.trL (ks := []) (hm0.mdn []) hs53 (MIL.cons (MI.app MI.z (nx180) (Nat.le_refl _)) MIL.nil)).nil
            replace hlm1 := (Mo.trL (ks := []) (hlm1.mdn []) hs53 (MIL.cons (MI.app MI.z (nx181) (Nat.le_refl _)) MIL.nil)).nil
            replace hq15 := hq15.trL hs53 (MIL.cons (MI.app (MI.root (by simp)) (nx183) (Nat.le_refl _)) MIL.nil)
            have hz20 := hs53.size
            have hle_ow := ow.le
            refine ⟨.inr hq15, LH.narrow (SH2 := fun Hq => Mo (Ms [k253, (H44.size + 1)]) H53 Hq) (fun Hq hq => hq15.trL hq (MIL.cons (MI.app (MI.root (by simp)) (nx201) (Nat.le_refl _)) (MIL.cons (MI.app (MI.root (by simp)) (nx184) (Nat.le_refl _)) MIL.nil))) ?_⟩
            have hq15 : Mo (Ms [k253, (H44.size + 1)]) H53 H53 := Mo.refl _ _
            have nx202 := Nx.refl k253 H53.size
            have nx203 := Nx.refl (H44.size + 1) H53.size
            refine LH.one (i := 7) (by kernel_rfl) ?_
            -- call selvage/rerere.row
            refine LO.call rfl rfl Try.call22 rfl (Wd.u rfl) rfl rfl (row_ct _ _ _ _ l[j].o w0 _ ow (hx l[j] (List.getElem_mem hjl)).o.any (by have h1 := rowL_len l[j].b; have h2 := rowL_len l[j].o; have h3 := rowL_len l[j].t; (try simp only [List.length_append, List.length_cons, List.length_nil]); omega) hb2) (fun v55 H55 r55 => ?_)
            have ql204 := hz.lt
            have ql205 := ow.le
            have ql206 := hc.lt
            have ql207 := oj41.le
            have ql208 := oj43.le
            have ql209 := ow49.le
            obtain ⟨v255, k255, rfl, ow, hk255, hs55⟩ := r55
            have df210 := DF.app (df191) (bf_hb.mono hm0.size) hk255
            have dj211 : Dj (H0.size + 1) k255 := Dj.app (dj192) ql204 hk255
            have df212 := DF.app (df193) (bf_hr.mono (by omega)) hk255
            have df213 := DF.app (df194) (bf_hx.mono (by omega)) hk255
            have dj214 : Dj (HL1.size + 1) k255 := Dj.app (dj195) ql206 hk255
            have dj215 : Dj k41 k255 := Dj.app (dj196) ql207 hk255
            have dj216 : Dj k43 k255 := Dj.app (dj197) ql208 hk255
            have dj217 : Dj (H44.size + 1) k255 := Dj.app (dj198) ql209 hk255
            have nx218 : Nx 0 H0.size k255 := Nx.tr (nx199) hk255 hm0.size
            have nx219 : Nx 0 H14.size k255 := Nx.tr (nx200) hk255 hlm1.size
            have nx220 : Nx k253 H53.size k255 := Nx.tr (nx202) hk255 hq15.size
            replace hb := hb.upL hs55 (DFL.cons df191 DFL.nil)
            replace hz := hz.upL hs55 (DL.cons dj192 DL.nil)
            replace hr := hr.upL hs55 (DFL.cons df193 DFL.nil)
            replace hx := fun x hx_ => (hx x hx_).upL hs55 (DFL.cons df194 DFL.nil)
            replace hc := hc.upL hs55 (DL.cons dj195 DL.nil)
            replace oj41 := oj41.upL hs55 (DL.cons dj196 DL.nil)
            replace oj43 := oj43.upL hs55 (DL.cons dj197 DL.nil)
            replace ow49 := ow49.upL hs55 (DL.cons dj198 DL.nil)
            replace hm0 := (Mo.trL (ks := []) (hm0.mdn []) hs55 (MIL.cons (MI.app MI.z (nx199) (Nat.le_refl _)) MIL.nil)).nil
            replace hlm1 := (Mo.trL (ks := []) (hlm1.mdn []) hs55 (MIL.cons (MI.app MI.z (nx200) (Nat.le_refl _)) MIL.nil)).nil
            replace hq15 := hq15.trL hs55 (MIL.cons (MI.app (MI.root (by simp)) (nx202) (Nat.le_refl _)) MIL.nil)
            have hz21 := hs55.size
            have hle_ow := ow.le
            refine ⟨.inr hq15, LH.narrow (SH2 := fun Hq => Mo (Ms [k255, (H44.size + 1)]) H55 Hq) (fun Hq hq => hq15.trL hq (MIL.cons (MI.app (MI.root (by simp)) (nx220) (Nat.le_refl _)) (MIL.cons (MI.app (MI.root (by simp)) (nx203) (Nat.le_refl _)) MIL.nil))) ?_⟩
            have hq15 : Mo (Ms [k255, (H44.size + 1)]) H55 H55 := Mo.refl _ _
            have nx221 := Nx.refl k255 H55.size
            have nx222 := Nx.refl (H44.size + 1) H55.size
            refine LH.one (i := 9) (by kernel_rfl) ?_
            -- call selvage/rerere.row
            refine LO.call rfl rfl Try.call22 rfl (Wd.u rfl) rfl rfl (row_ct _ _ _ _ l[j].t w0 _ ow (hx l[j] (List.getElem_mem hjl)).t.any (by have h1 := rowL_len l[j].b; have h2 := rowL_len l[j].o; have h3 := rowL_len l[j].t; (try simp only [List.length_append, List.length_cons, List.length_nil]); omega) hb3) (fun v57 H57 r57 => ?_)
            have ql223 := hz.lt
            have ql224 := ow.le
            have ql225 := hc.lt
            have ql226 := oj41.le
            have ql227 := oj43.le
            have ql228 := ow49.le
            obtain ⟨v257, k257, rfl, ow, hk257, hs57⟩ := r57
            have df229 := DF.app (df210) (bf_hb.mono hm0.size) hk257
            have dj230 : Dj (H0.size + 1) k257 := Dj.app (dj211) ql223 hk257
            have df231 := DF.app (df212) (bf_hr.mono (by omega)) hk257
            have df232 := DF.app (df213) (bf_hx.mono (by omega)) hk257
            have dj233 : Dj (HL1.size + 1) k257 := Dj.app (dj214) ql225 hk257
            have dj234 : Dj k41 k257 := Dj.app (dj215) ql226 hk257
            have dj235 : Dj k43 k257 := Dj.app (dj216) ql227 hk257
            have dj236 : Dj (H44.size + 1) k257 := Dj.app (dj217) ql228 hk257
            have nx237 : Nx 0 H0.size k257 := Nx.tr (nx218) hk257 hm0.size
            have nx238 : Nx 0 H14.size k257 := Nx.tr (nx219) hk257 hlm1.size
            have nx239 : Nx k255 H55.size k257 := Nx.tr (nx221) hk257 hq15.size
            replace hb := hb.upL hs57 (DFL.cons df210 DFL.nil)
            replace hz := hz.upL hs57 (DL.cons dj211 DL.nil)
            replace hr := hr.upL hs57 (DFL.cons df212 DFL.nil)
            replace hx := fun x hx_ => (hx x hx_).upL hs57 (DFL.cons df213 DFL.nil)
            replace hc := hc.upL hs57 (DL.cons dj214 DL.nil)
            replace oj41 := oj41.upL hs57 (DL.cons dj215 DL.nil)
            replace oj43 := oj43.upL hs57 (DL.cons dj216 DL.nil)
            replace ow49 := ow49.upL hs57 (DL.cons dj217 DL.nil)
            replace hm0 := (Mo.trL (ks := []) (hm0.mdn []) hs57 (MIL.cons (MI.app MI.z (nx218) (Nat.le_refl _)) MIL.nil)).nil
            replace hlm1 := (Mo.trL (ks := []) (hlm1.mdn []) hs57 (MIL.cons (MI.app MI.z (nx219) (Nat.le_refl _)) MIL.nil)).nil
            replace hq15 := hq15.trL hs57 (MIL.cons (MI.app (MI.root (by simp)) (nx221) (Nat.le_refl _)) MIL.nil)
            have hz22 := hs57.size
            have hle_ow := ow.le
            refine ⟨.inr hq15, LH.narrow (SH2 := fun Hq => Mo (Ms [k257, (H44.size + 1)]) H57 Hq) (fun Hq hq => hq15.trL hq (MIL.cons (MI.app (MI.root (by simp)) (nx239) (Nat.le_refl _)) (MIL.cons (MI.app (MI.root (by simp)) (nx222) (Nat.le_refl _)) MIL.nil))) ?_⟩
            have hq15 : Mo (Ms [k257, (H44.size + 1)]) H57 H57 := Mo.refl _ _
            have nx240 := Nx.refl k257 H57.size
            have nx241 := Nx.refl (H44.size + 1) H57.size
            refine LH.take 10 (by kernel_rfl) rfl (by kernel_rfl) (by kernel_rfl) (by kernel_rfl) (fun Hq hq => Y.assign rfl rfl) (Wd.u rfl) rfl rfl hq15 ?_
            refine LH.done (by kernel_rfl) ?_
            refine hK15 _ _ ?_
            refine hK14 _ _ ?_
            refine CW.region ?_
            refine LR.v (Y.addi rfl rfl rfl (by omega)) (Wd.u rfl) rfl rfl ?_
            refine LR.v (Y.move rfl rfl) (Wd.u rfl) rfl rfl ?_
            refine LR.nil ?_
            have hsm : true = someC ((l.map Ck.c).take (j + 1)) := by rw [hss, decide_eq_true (show l[j].c.1 ≠ 0 by omega), Bool.or_true]
            refine QN.sub (hN11 (j + 1, v57, k257) _ ?_ ?_) ⟨rfl, rfl, (congrArg (fun x => some (Value.bool x)) hsm), rfl, (iv (by omega)), (iv (by omega)), trivial⟩
            · exact ⟨(by omega), by rw [hks, key1_F (by omega) hsw]; simpa using ow, nx238, hlm1⟩
            · first | omega | (simp only; omega) | (simp; omega)
    ·
      obtain rfl : j = l.length := by omega
      rw [List.take_of_length_le (by simp)] at *
      obtain ⟨so, rfl⟩ : ∃ s : SV, vo = s.v := ⟨toSV vo, ow.sv.symm⟩
      obtain rfl : e = 0 := by omega
      refine CW.exit (hE13 (.exit 0) nofun _ _ (hE11 (.exit 0) nofun _ _ (hX10 _ _ ?_)))
      refine hK8 _ _ ?_
      refine CW.seq (fun K24 hK24 hE24 => ?_)
      refine CW.seq (fun K25 hK25 hE25 => ?_)
      refine CW.region ?_
      refine LR.v (Y.move rfl rfl) (Wd.u rfl) rfl rfl ?_
      refine LR.v (Y.not rfl rfl) (Wd.u rfl) rfl rfl ?_
      refine LR.nil ?_
      refine hK25 _ _ ?_
      refine CW.cond rfl (fun c60 => ?_) (fun c60 => ?_)
      ·
        refine CW.seq (fun K26 hK26 hE26 => ?_)
        refine CW.region ?_
        refine LR.v (Y.build (v := idV Z32) rfl rfl (by intro w; kernel_rfl)) (Wd.u rfl) rfl rfl ?_
        refine LR.s (S.var hz ((Z32).map V8) ((Z32).map V8) rfl rfl rfl rfl (by intro u hu; obtain ⟨x, _, rfl⟩ := List.mem_map.1 hu; rfl) Try.sizeOf25 (by simp [Z32_len]) (by simp [Z32_len]) (splice_all2 (by simp [Z32_len]))) (Wd.u rfl) rfl (fun H18_1 r18_1 => ?_)
        obtain ⟨hz, hs18_1⟩ := r18_1
        replace hs18_1 := hs18_1.md1
        replace hb := hb.upL hs18_1 (DFL.cons df1 DFL.nil)
        replace hr := hr.upL hs18_1 (DFL.cons df3 DFL.nil)
        replace hx := fun x hx_ => (hx x hx_).upL hs18_1 (DFL.cons df4 DFL.nil)
        replace ow := ow.upL hs18_1 (DL.cons dj6.symm DL.nil)
        replace hm0 := (Mo.trL (ks := []) (hm0.mdn []) hs18_1 (MIL.cons (MI.app MI.z (nx2) (Nat.le_refl _)) MIL.nil)).nil
        have hz23 := hs18_1.size
        refine LR.v (Y.assign rfl rfl) (Wd.u rfl) rfl rfl ?_
        refine LR.nil ?_
        refine hK26 _ _ ?_
        refine CW.ret (hE24 .ret nofun _ _ (hret .ret (.inr rfl) _ _ _ (resCT rfl rfl hz.pt Try.isAgg25 Try.sizeOf25 (by first | rfl | simp) rfl) ?_))
        exact ⟨by rw [hkl, keyC_none (by have h := c60; rw [List.take_of_length_le (by simp)] at h; simpa using h)], hm0⟩
      ·
        refine CW.skip ?_
        refine hK24 _ _ ?_
        refine CW.seq (fun K27 hK27 hE27 => ?_)
        refine CW.region ?_
        refine LR.v (Y.move rfl rfl) (Wd.u rfl) rfl rfl ?_
        refine LR.z (Z.litw _ ([((so, keyB (l.map Ck.c)) : SV × List UInt8)]) rfl inf76 rfl rfl rfl (by decide) (by decide) fP_len fP_one (rfl)) (Wd.u rfl) rfl rfl (fun v63 H63 r63 => ?_)
        obtain ⟨nw63, hs63, ob63, hH63⟩ := r63
        have hzs63 : H63.size = HL1.size + 1 := by rw [hH63]; simp
        have df242 := (DF.new (bf_hb.mono hm0.size) : DF _ (HL1.size + 1))
        have dj243 : Dj (H0.size + 1) (HL1.size + 1) := Dj.new hz.lt
        have df244 := (DF.new (bf_hr.mono (by omega)) : DF _ (HL1.size + 1))
        have df245 := (DF.new (bf_hx.mono (by omega)) : DF _ (HL1.size + 1))
        have dj246 : Dj ko (HL1.size + 1) := Dj.new ow.le
        have nx247 : Nx 0 H0.size (HL1.size + 1) := Nx.new hm0.size
        replace hb := hb.nw hs63
        replace hz := hz.nw hs63
        replace hr := hr.nw hs63
        replace hx := fun x hx_ => (hx x hx_).nw hs63
        replace ow := ow.nw hs63
        replace hm0 := hm0.tr hs63
        have hz24 := hs63.size
        -- call selvage/sum.Of
        refine LR.call rfl Try.call25 rfl (Wd.u rfl) rfl rfl (pof_ct _ [(so, keyB (l.map Ck.c))] w0 _ nw63.rd.any (fun x hx => by rw [List.mem_singleton] at hx; subst hx; exact ow.rd.any) (by rw [cat_one]; omega)) (fun v64 H64 r64 => ?_)
        obtain ⟨rfl, hs64⟩ := r64
        replace hb := hb.nw hs64
        replace hz := hz.nw hs64
        replace hr := hr.nw hs64
        replace hx := fun x hx_ => (hx x hx_).nw hs64
        replace ow := ow.nw hs64
        replace nw63 := nw63.nw hs64
        replace hm0 := hm0.tr hs64
        have hz25 := hs64.size
        refine LR.s (S.var hz ((sumOf (cat [(so, keyB (l.map Ck.c))])).map V8) ((sumOf (cat [(so, keyB (l.map Ck.c))])).map V8) rfl rfl rfl rfl (by intro u hu; obtain ⟨x, _, rfl⟩ := List.mem_map.1 hu; rfl) Try.sizeOf25 (by simp [sumOf_len, Z32_len]) (by simp [sumOf_len, Z32_len]) (splice_all2 (by simp [sumOf_len, Z32_len]))) (Wd.u rfl) rfl (fun H19_3 r19_3 => ?_)
        obtain ⟨hz, hs19_3⟩ := r19_3
        replace hs19_3 := hs19_3.md1
        replace hb := hb.upL hs19_3 (DFL.cons df1 DFL.nil)
        replace hr := hr.upL hs19_3 (DFL.cons df3 DFL.nil)
        replace hx := fun x hx_ => (hx x hx_).upL hs19_3 (DFL.cons df4 DFL.nil)
        replace ow := ow.upL hs19_3 (DL.cons dj6.symm DL.nil)
        replace nw63 := nw63.upL hs19_3 (DL.cons dj243.symm DL.nil)
        replace hm0 := (Mo.trL (ks := []) (hm0.mdn []) hs19_3 (MIL.cons (MI.app MI.z (nx2) (Nat.le_refl _)) MIL.nil)).nil
        have hz26 := hs19_3.size
        refine LR.v (Y.assign rfl rfl) (Wd.u rfl) rfl rfl ?_
        refine LR.nil ?_
        refine hK27 _ _ ?_
        refine CW.ret (hret .ret (.inr rfl) _ _ _ (resCT rfl rfl hz.pt Try.isAgg25 Try.sizeOf25 (by first | rfl | simp) rfl) ?_)
        exact ⟨by rw [hkl, keyC_sum (by have h := c60; rw [List.take_of_length_le (by simp)] at h; simpa using h), cat_one], hm0⟩

theorem sumOf_len2 (m : List UInt8) : (sumOf m).length = 32 := by simp [sumOf_len]
theorem keyL_len (b : List UInt8) : (keyL b).1.length = 32 := by
  unfold keyL keyC
  split
  · rfl
  · split
    · exact sumOf_len2 _
    · rfl
abbrev kM1 : List UInt8 := mk 0 ++ [98, 10] ++ mk 1 ++ [97, 10] ++ mk 2 ++ [99, 10] ++ mk 3
abbrev kM2 : List UInt8 := mk 0 ++ [99, 10] ++ mk 1 ++ [97, 10] ++ mk 2 ++ [98, 10] ++ mk 3
theorem kn1 : (keyL kM1).2 = 0 ∧ keyL kM2 = keyL kM1 ∧ (keyL kM1).1 ≠ Z32 := by decide +kernel
theorem kn2 : keyL [97, 10] = (Z32, 2) := by decide +kernel
theorem keyT {b : List UInt8} {x : List UInt8} {e : Int} (v : Value) (w0 : World) (H0 : Heap) (hb : RdT H0 fB 1 v b) (hbl : b.length ≤ 1048576) (hx : keyL b = (x, e)) : Ct Try.prog w0 8 #[v] H0 (fun r H2 => r = .tuple #[idV x, .int .i64 e] ∧ Nw H0 H2) := by
  refine (key_ct v b w0 H0 hb hbl).mono ?_
  rintro r H2 ⟨rfl, h⟩
  exact ⟨by rw [hx], h⟩
theorem kp1 : keyL kM1 = ((keyL kM1).1, 0) := by conv => lhs; rw [← Prod.eta (keyL kM1), kn1.1]

set_option maxHeartbeats 4000000 in
theorem known_ct  (w0 : World) (H0 : Heap)
     :
    Ct Try.prog w0 7 #[] H0 (fun r H2 => r = .bool true ∧ Nw H0 H2) := by
  refine Ct.enter (args := []) Try.func7 rfl rfl rfl ?_
  intro Q0 hret
  have hm0 : Nw H0 H0 := Mo.refl _ _
  refine CW.seq (fun K1 hK1 hE1 => ?_)
  refine CW.region ?_
  refine LR.v (Y.assign rfl rfl) (Wd.u rfl) rfl rfl ?_
  refine LR.nil ?_
  refine hK1 _ _ ?_
  refine CW.seq (fun K2 hK2 hE2 => ?_)
  refine CW.region ?_
  refine LR.z (Z.litw _ (kM1) rfl inf22 rfl rfl rfl (by decide) (by decide) fB_len fB_one (rfl)) (Wd.u rfl) rfl rfl (fun v8 H8 r8 => ?_)
  obtain ⟨ow8, hs8, ob8, hH8⟩ := r8
  have hzs8 : H8.size = H0.size + 1 := by rw [hH8]; simp
  have nx1 : Nx 0 H0.size (H0.size + 1) := Nx.new hm0.size
  replace hm0 := hm0.tr hs8
  have hz1 := hs8.size
  refine LR.z (Z.bconst ow8 (by decide) rfl Try.underlying22 Try.underlying5 rfl) (Wd.u rfl) rfl rfl (fun v9 H9 r9 => ?_)
  obtain ⟨rfl, ow8, hs9⟩ := r9
  replace hs9 := hs9.md
  replace hm0 := (Mo.trL (ks := []) (hm0.mdn []) hs9 (MIL.cons (MI.app MI.z (nx1) (Nat.le_refl _)) MIL.nil)).nil
  have hz2 := hs9.size
  -- call selvage/rerere.Key
  refine LR.call rfl Try.call8 rfl (Wd.u rfl) rfl rfl (keyT _ w0 _ ow8.rd.any (by decide) kp1) (fun v10 H10 r10 => ?_)
  obtain ⟨rfl, hs10⟩ := r10
  replace ow8 := ow8.nw hs10
  replace hm0 := hm0.tr hs10
  have hz3 := hs10.size
  refine LR.v (Y.move rfl rfl) (Wd.u rfl) rfl rfl ?_
  refine LR.v (Y.extract rfl rfl rfl) (Wd.u rfl) rfl rfl ?_
  refine LR.v (Y.extract rfl rfl rfl) (Wd.u rfl) rfl rfl ?_
  refine LR.z (Z.allocv rfl Try.zeroValue25) (Wd.u rfl) rfl rfl (fun v1 H1 r1 => ?_)
  obtain ⟨rfl, hv1, hs1, ob1, hH1⟩ := r1
  have hzs1 : H1.size = H10.size + 1 := by rw [hH1]; simp
  have dj2 : Dj (H0.size + 1) (H10.size + 1) := Dj.new ow8.le
  have nx3 : Nx 0 H0.size (H10.size + 1) := Nx.new hm0.size
  replace ow8 := ow8.nw hs1
  replace hm0 := hm0.tr hs1
  have hz4 := hs1.size
  replace hv1 : Var 25 H1 H10.size (Z32.map V8) := hv1
  refine LR.s (S.var hv1 (((keyL kM1).1).map V8) (((keyL kM1).1).map V8) rfl rfl rfl rfl (by intro u hu; obtain ⟨x, _, rfl⟩ := List.mem_map.1 hu; rfl) Try.sizeOf25 (by simp [keyL_len, Z32_len]) (by simp [keyL_len, Z32_len]) (splice_all2 (by simp [keyL_len, Z32_len]))) (Wd.u rfl) rfl (fun H1_7 r1_7 => ?_)
  obtain ⟨hv1, hs1_7⟩ := r1_7
  replace hs1_7 := hs1_7.md1
  replace ow8 := ow8.upL hs1_7 (DL.cons dj2 DL.nil)
  replace hm0 := (Mo.trL (ks := []) (hm0.mdn []) hs1_7 (MIL.cons (MI.app MI.z (nx3) (Nat.le_refl _)) MIL.nil)).nil
  have hz5 := hs1_7.size
  refine LR.v (Y.assign rfl rfl) (Wd.u rfl) rfl rfl ?_
  refine LR.nil ?_
  refine hK2 _ _ ?_
  refine CW.seq (fun K3 hK3 hE3 => ?_)
  refine CW.region ?_
  refine LR.z (Z.litw _ (kM2) rfl inf22 rfl rfl rfl (by decide) (by decide) fB_len fB_one (rfl)) (Wd.u rfl) rfl rfl (fun v14 H14 r14 => ?_)
  obtain ⟨ow14, hs14, ob14, hH14⟩ := r14
  have hzs14 : H14.size = H1_7.size + 1 := by rw [hH14]; simp
  have dj4 : Dj (H10.size + 1) (H1_7.size + 1) := Dj.new hv1.lt
  have nx5 : Nx 0 H0.size (H1_7.size + 1) := Nx.new hm0.size
  replace hv1 := hv1.nw hs14
  replace hm0 := hm0.tr hs14
  have hz6 := hs14.size
  refine LR.z (Z.bconst ow14 (by decide) rfl Try.underlying22 Try.underlying5 rfl) (Wd.u rfl) rfl rfl (fun v15 H15 r15 => ?_)
  obtain ⟨rfl, ow14, hs15⟩ := r15
  replace hs15 := hs15.md
  replace hv1 := hv1.upL hs15 (DL.cons dj4 DL.nil)
  replace hm0 := (Mo.trL (ks := []) (hm0.mdn []) hs15 (MIL.cons (MI.app MI.z (nx5) (Nat.le_refl _)) MIL.nil)).nil
  have hz7 := hs15.size
  -- call selvage/rerere.Key
  refine LR.call rfl Try.call8 rfl (Wd.u rfl) rfl rfl (keyT _ w0 _ ow14.rd.any (by decide) (kn1.2.1.trans kp1)) (fun v16 H16 r16 => ?_)
  obtain ⟨rfl, hs16⟩ := r16
  replace hv1 := hv1.nw hs16
  replace ow14 := ow14.nw hs16
  replace hm0 := hm0.tr hs16
  have hz8 := hs16.size
  refine LR.v (Y.move rfl rfl) (Wd.u rfl) rfl rfl ?_
  refine LR.v (Y.extract rfl rfl rfl) (Wd.u rfl) rfl rfl ?_
  refine LR.v (Y.extract rfl rfl rfl) (Wd.u rfl) rfl rfl ?_
  refine LR.z (Z.allocv rfl Try.zeroValue25) (Wd.u rfl) rfl rfl (fun v3 H3 r3 => ?_)
  obtain ⟨rfl, hv3, hs3, ob3, hH3⟩ := r3
  have hzs3 : H3.size = H16.size + 1 := by rw [hH3]; simp
  have dj6 : Dj (H10.size + 1) (H16.size + 1) := Dj.new hv1.lt
  have dj7 : Dj (H1_7.size + 1) (H16.size + 1) := Dj.new ow14.le
  have nx8 : Nx 0 H0.size (H16.size + 1) := Nx.new hm0.size
  replace hv1 := hv1.nw hs3
  replace ow14 := ow14.nw hs3
  replace hm0 := hm0.tr hs3
  have hz9 := hs3.size
  replace hv3 : Var 25 H3 H16.size (Z32.map V8) := hv3
  refine LR.s (S.var hv3 (((keyL kM1).1).map V8) (((keyL kM1).1).map V8) rfl rfl rfl rfl (by intro u hu; obtain ⟨x, _, rfl⟩ := List.mem_map.1 hu; rfl) Try.sizeOf25 (by simp [keyL_len, Z32_len]) (by simp [keyL_len, Z32_len]) (splice_all2 (by simp [keyL_len, Z32_len]))) (Wd.u rfl) rfl (fun H2_7 r2_7 => ?_)
  obtain ⟨hv3, hs2_7⟩ := r2_7
  replace hs2_7 := hs2_7.md1
  replace hv1 := hv1.upL hs2_7 (DL.cons dj6 DL.nil)
  replace ow14 := ow14.upL hs2_7 (DL.cons dj7 DL.nil)
  replace hm0 := (Mo.trL (ks := []) (hm0.mdn []) hs2_7 (MIL.cons (MI.app MI.z (nx8) (Nat.le_refl _)) MIL.nil)).nil
  have hz10 := hs2_7.size
  refine LR.v (Y.assign rfl rfl) (Wd.u rfl) rfl rfl ?_
  refine LR.nil ?_
  refine hK3 _ _ ?_
  refine CW.seq (fun K4 hK4 hE4 => ?_)
  refine CW.region ?_
  refine LR.z (Z.litw _ ([(97 : UInt8), 10]) rfl inf22 rfl rfl rfl (by decide) (by decide) fB_len fB_one (rfl)) (Wd.u rfl) rfl rfl (fun v20 H20 r20 => ?_)
  obtain ⟨ow20, hs20, ob20, hH20⟩ := r20
  have hzs20 : H20.size = H2_7.size + 1 := by rw [hH20]; simp
  have dj9 : Dj (H10.size + 1) (H2_7.size + 1) := Dj.new hv1.lt
  have dj10 : Dj (H16.size + 1) (H2_7.size + 1) := Dj.new hv3.lt
  have nx11 : Nx 0 H0.size (H2_7.size + 1) := Nx.new hm0.size
  replace hv1 := hv1.nw hs20
  replace hv3 := hv3.nw hs20
  replace hm0 := hm0.tr hs20
  have hz11 := hs20.size
  refine LR.z (Z.bconst ow20 (by decide) rfl Try.underlying22 Try.underlying5 rfl) (Wd.u rfl) rfl rfl (fun v21 H21 r21 => ?_)
  obtain ⟨rfl, ow20, hs21⟩ := r21
  replace hs21 := hs21.md
  replace hv1 := hv1.upL hs21 (DL.cons dj9 DL.nil)
  replace hv3 := hv3.upL hs21 (DL.cons dj10 DL.nil)
  replace hm0 := (Mo.trL (ks := []) (hm0.mdn []) hs21 (MIL.cons (MI.app MI.z (nx11) (Nat.le_refl _)) MIL.nil)).nil
  have hz12 := hs21.size
  -- call selvage/rerere.Key
  refine LR.call rfl Try.call8 rfl (Wd.u rfl) rfl rfl (keyT _ w0 _ ow20.rd.any (by decide) kn2) (fun v22 H22 r22 => ?_)
  obtain ⟨rfl, hs22⟩ := r22
  replace hv1 := hv1.nw hs22
  replace hv3 := hv3.nw hs22
  replace ow20 := ow20.nw hs22
  replace hm0 := hm0.tr hs22
  have hz13 := hs22.size
  refine LR.v (Y.move rfl rfl) (Wd.u rfl) rfl rfl ?_
  refine LR.v (Y.extract rfl rfl rfl) (Wd.u rfl) rfl rfl ?_
  refine LR.v (Y.extract rfl rfl rfl) (Wd.u rfl) rfl rfl ?_
  refine LR.z (Z.allocv rfl Try.zeroValue25) (Wd.u rfl) rfl rfl (fun v5 H5 r5 => ?_)
  obtain ⟨rfl, hv5, hs5, ob5, hH5⟩ := r5
  have hzs5 : H5.size = H22.size + 1 := by rw [hH5]; simp
  have dj12 : Dj (H10.size + 1) (H22.size + 1) := Dj.new hv1.lt
  have dj13 : Dj (H16.size + 1) (H22.size + 1) := Dj.new hv3.lt
  have dj14 : Dj (H2_7.size + 1) (H22.size + 1) := Dj.new ow20.le
  have nx15 : Nx 0 H0.size (H22.size + 1) := Nx.new hm0.size
  replace hv1 := hv1.nw hs5
  replace hv3 := hv3.nw hs5
  replace ow20 := ow20.nw hs5
  replace hm0 := hm0.tr hs5
  have hz14 := hs5.size
  replace hv5 : Var 25 H5 H22.size (Z32.map V8) := hv5
  refine LR.s (S.var hv5 ((Z32).map V8) ((Z32).map V8) rfl rfl rfl rfl (by intro u hu; obtain ⟨x, _, rfl⟩ := List.mem_map.1 hu; rfl) Try.sizeOf25 (by simp [Z32_len, Z32_len]) (by simp [Z32_len, Z32_len]) (splice_all2 (by simp [Z32_len, Z32_len]))) (Wd.u rfl) rfl (fun H3_7 r3_7 => ?_)
  obtain ⟨hv5, hs3_7⟩ := r3_7
  replace hs3_7 := hs3_7.md1
  replace hv1 := hv1.upL hs3_7 (DL.cons dj12 DL.nil)
  replace hv3 := hv3.upL hs3_7 (DL.cons dj13 DL.nil)
  replace ow20 := ow20.upL hs3_7 (DL.cons dj14 DL.nil)
  replace hm0 := (Mo.trL (ks := []) (hm0.mdn []) hs3_7 (MIL.cons (MI.app MI.z (nx15) (Nat.le_refl _)) MIL.nil)).nil
  have hz15 := hs3_7.size
  refine LR.v (Y.assign rfl rfl) (Wd.u rfl) rfl rfl ?_
  refine LR.nil ?_
  refine hK4 _ _ ?_
  refine CW.seq (fun K5 hK5 hE5 => ?_)
  refine CW.region ?_
  refine LR.v (Y.move rfl rfl) (Wd.u rfl) rfl rfl ?_
  refine LR.v ((Y.eql rfl rfl rfl).isT (rfl)) (Wd.u rfl) rfl rfl ?_
  refine LR.v (Y.move rfl rfl) (Wd.u rfl) rfl rfl ?_
  refine LR.v (Y.move rfl rfl) (Wd.g rfl rfl rfl) rfl rfl ?_
  refine LR.v ((Y.eql rfl rfl rfl).isT (rfl)) (Wd.g rfl rfl rfl) rfl rfl ?_
  refine LR.v (Y.pick_t rfl rfl rfl) (Wd.u rfl) rfl rfl ?_
  refine LR.v (Y.move rfl rfl) (Wd.u rfl) rfl rfl ?_
  refine LR.v (Y.cast (v2 := idV (keyL kM1).1) (Y.loadN hv1.pt rfl Try.isAgg25 Try.sizeOf25 (by simp [keyL_len]) rfl) (rfl)) (Wd.g rfl rfl rfl) rfl rfl ?_
  refine LR.v (Y.cast (v2 := idV (keyL kM1).1) (Y.loadN hv3.pt rfl Try.isAgg25 Try.sizeOf25 (by simp [keyL_len]) rfl) (rfl)) (Wd.g rfl rfl rfl) rfl rfl ?_
  refine LR.v ((Y.aeql rfl Try.eqGuardType25 (fun w => run_equalIn_id 9998 Try.underlying25 Try.underlying5 Try.sizeOf5 Try.isAgg5 (by first | exact keyL_len _ | exact Z32_len) (by first | exact keyL_len _ | exact Z32_len) w) rfl rfl).isT (rfl)) (Wd.g rfl rfl rfl) rfl rfl ?_
  refine LR.v (Y.pick_t rfl rfl rfl) (Wd.u rfl) rfl rfl ?_
  refine LR.v (Y.move rfl rfl) (Wd.u rfl) rfl rfl ?_
  refine LR.v (Y.cast (v2 := idV (keyL kM1).1) (Y.loadN hv1.pt rfl Try.isAgg25 Try.sizeOf25 (by simp [keyL_len]) rfl) (rfl)) (Wd.g rfl rfl rfl) rfl rfl ?_
  refine LR.v (Y.build (v := idV Z32) rfl rfl (by intro w; kernel_rfl)) (Wd.g rfl rfl rfl) rfl rfl ?_
  refine LR.v ((Y.aneq rfl Try.eqGuardType25 (fun w => run_equalIn_id 9998 Try.underlying25 Try.underlying5 Try.sizeOf5 Try.isAgg5 (by first | exact keyL_len _ | exact Z32_len) (by first | exact keyL_len _ | exact Z32_len) w) rfl rfl).isT (kn1.2.2)) (Wd.g rfl rfl rfl) rfl rfl ?_
  refine LR.v (Y.pick_t rfl rfl rfl) (Wd.u rfl) rfl rfl ?_
  refine LR.v (Y.move rfl rfl) (Wd.u rfl) rfl rfl ?_
  refine LR.v (Y.move rfl rfl) (Wd.g rfl rfl rfl) rfl rfl ?_
  refine LR.v ((Y.eql rfl rfl rfl).isT (rfl)) (Wd.g rfl rfl rfl) rfl rfl ?_
  refine LR.v (Y.pick_t rfl rfl rfl) (Wd.u rfl) rfl rfl ?_
  refine LR.v (Y.assign rfl rfl) (Wd.u rfl) rfl rfl ?_
  refine LR.nil ?_
  refine hK5 _ _ ?_
  refine CW.ret (hret .ret (.inr rfl) _ _ _ (res1 rfl rfl) ?_)
  exact ⟨rfl, hm0⟩

end Go.Proofs.Ytegfnfhdgbcjbaa.RerB
