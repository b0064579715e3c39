/-
  The disk: what a crash leaves of a file.
-/
import Derived.Test.YtfbfjhppppoilaaDoorSimL
namespace Go.Proofs.YtfbfjhppppoilaaDoor.SimM
open Go.Proofs.YtfbfjhppppoilaaDoor.E Go.RowKit Go.Proofs.YtfbfjhppppoilaaDoor.SimA Go.Proofs.YtfbfjhppppoilaaDoor.SimB Go.Proofs.YtfbfjhppppoilaaDoor.SimC Go.Proofs.YtfbfjhppppoilaaDoor.SimD Go.Proofs.YtfbfjhppppoilaaDoor.SimE Go.Proofs.YtfbfjhppppoilaaDoor.SimF Go.Proofs.YtfbfjhppppoilaaDoor.SimG Go.Proofs.YtfbfjhppppoilaaDoor.SimH Go.Proofs.YtfbfjhppppoilaaDoor.SimI Go.Proofs.YtfbfjhppppoilaaDoor.SimJ Go.Proofs.YtfbfjhppppoilaaDoor.SimK Go.Proofs.YtfbfjhppppoilaaDoor.SimL
set_option maxRecDepth 20000
set_option linter.unusedVariables false
set_option linter.unusedSimpArgs false
set_option linter.unusedSectionVars false

theorem ways_sum (l : List Wx) : waysF (l.map (·.1)) = 1 + (l.map (fun y => y.1.ways)).sum := by unfold waysF; rw [List.map_map]; rfl
theorem ways_take {l : List Wx} {i : Nat} (h : i < l.length) : ((l.take (i + 1)).map (fun y => y.1.ways)).sum = ((l.take i).map (fun y => y.1.ways)).sum + l[i].1.ways := by
  rw [List.take_succ_eq_append_getElem h, List.map_append, List.sum_append]; simp
theorem ways_le (l : List Wx) (i : Nat) : ((l.take i).map (fun y => y.1.ways)).sum ≤ (l.map (fun y => y.1.ways)).sum := by
  have e : l.map (fun y => y.1.ways) = (l.take i).map (fun y => y.1.ways) ++ (l.drop i).map (fun y => y.1.ways) := by rw [← List.map_append, List.take_append_drop]
  rw [e, List.sum_append]; omega
theorem onAll_take {ws : List Wr} {b : List UInt8} {i : Nat} (h : i < ws.length) : onAll (ws.take (i + 1)) b = ws[i].on (onAll (ws.take i) b) ws[i].d.length := by
  unfold onAll; rw [List.take_succ_eq_append_getElem h, List.foldl_append]; rfl
theorem wayW_drop {ws : List Wr} {b : List UInt8} {i k : Nat} (h : i < ws.length) : wayW (ws.drop i) b k = if k = 0 then b else if k ≤ ws[i].ways then ws[i].part b (k - 1) else wayW (ws.drop (i + 1)) (ws[i].on b ws[i].d.length) (k - ws[i].ways) := by
  rw [List.drop_eq_getElem_cons h]; rfl
theorem wayW_0 (ws : List Wr) (b : List UInt8) : wayW ws b 0 = b := by cases ws <;> simp [wayW]
theorem splice_all2 {cs vs : List Value} (h : cs.length = vs.length) : splice cs 0 vs = vs := by simp [splice, h]
theorem kfrz {K : List Nat} {g : Gh} {H : Heap} {b : Nat} {D : Dk} {kb n : Nat} (h : PDk K g H b D) (hb : ∀ c, c + 1 = kb → g.ρ c = .frz ∨ n ≤ c) : kb = 0 ∨ kb ∈ K ∨ n < kb := by
  rcases Nat.eq_zero_or_pos kb with e | e
  · exact .inl e
  · rcases hb (kb - 1) (by omega) with h2 | h2
    · have := h.mem h2 (by simp)
      rw [show kb - 1 + 1 = kb by omega] at this
      exact .inr (.inl this)
    · exact .inr (.inr (by omega))

set_option maxHeartbeats 4000000 in
theorem lose_ct (K : List Nat) (g : Gh) (b : Nat) (D : Dk) (G : Nat → Prop) (pb n : Nat) (pv : SV) (picks : List Int) (i : Nat) (w0 : World) (H0 : Heap)
    (hf : PDk K g H0 b D) (hp : Var 89 H0 pb [pv.v, .int .i64 (n : Int)]) (hpk : Rd G H0 fI 1 pv.v picks) (bf_hpk : BF G H0.size) (dpk : DF G (pb + 1)) (dhp : DL (pb + 1) K) (dpkK : DFL G K) (hi : i < D.fs.length) (hwl : (fget D.fs i).w.length ≤ 549755813888) (hwd : ∀ y ∈ (fget D.fs i).w, y.d.length ≤ 549755813888) (hpf : ∀ j, (onAll ((fget D.fs i).w.take j) (fget D.fs i).stays).length ≤ 549755813888) (hwy : waysF (fget D.fs i).w ≤ 2305843009213693952) (hn : n ≤ 1099511627776) (hpw : ∀ x ∈ picks, -9223372036854775808 ≤ x ∧ x ≤ 9223372036854775807) :
    Ct Tryd.prog w0 47 #[fvl g.fb i, ptr pb] H0 (fun r H2 => ∃ K2 : List Nat, ∃ g2 : Gh, r = .tuple #[] ∧ (PDk K2 g2 H2 b (D.putF i ⟨wayW (fget D.fs i).w (fget D.fs i).stays (pickN picks n (waysF (fget D.fs i).w)), wayW (fget D.fs i).w (fget D.fs i).stays (pickN picks n (waysF (fget D.fs i).w)), []⟩)) ∧ (NxK K H0.size K2) ∧ (Var 89 H2 pb [pv.v, .int .i64 ((n + 1 : Nat) : Int)]) ∧ (g2.fb = g.fb ∧ g2.dm = g.dm ∧ g2.mb = g.mb) ∧ Mo (Ms (K ++ [(pb + 1)])) H0 H2) := by
  refine Ct.enter (args := [fvl g.fb i, ptr pb]) Tryd.func47 rfl rfl rfl ?_
  intro Q0 hret
  have hm0 : Mo (Ms (K ++ [(pb + 1)])) H0 H0 := Mo.refl _ _
  have nx_hm0_hf := NxK.refl K H0.size
  have hbk_hf := hf.bk
  have nx_hm0_hp := Nx.refl (pb + 1) H0.size
  have hlt_hp := hp.lt
  have hlt0 : ∀ c, g.ρ c ≠ .out → c < H0.size := hf.lt
  obtain ⟨nv, sv, wv, kw, lw, hfi⟩ := hf.fil i hi
  have hlw := hfi.lw
  have hlwl : lw.length = (fget D.fs i).w.length := by rw [← hlw, List.length_map]
  have hwys := ways_sum lw
  rw [hlw] at hwys
  obtain ⟨kq, hq, hqF⟩ := rd_q hfi.hs
  refine CW.seq (fun K1 hK1 hE1 => ?_)
  refine CW.region ?_
  refine LR.v (Y.assign rfl rfl) (Wd.u rfl) rfl rfl ?_
  refine LR.nil ?_
  refine hK1 _ _ ?_
  refine CW.seq (fun K2 hK2 hE2 => ?_)
  refine CW.seq (fun K3 hK3 hE3 => ?_)
  refine CW.region ?_
  have hdR := hfi.hd
  have bf_hdR : BF (fun c => g.ρ c = .frz) H0.size := fun c e => hf.lt c (by rw [e]; simp)
  have hvf := hfi.vf
  have hlt_hvf := hvf.lt
  have hw := hfi.hw
  have hle_hw := hw.le
  have hb := hq
  have hle_hb := hb.le
  have dj1 : Dj (pb + 1) (g.fb.getD i 0 + 1) := DL.at dhp (hf.km1 hfi.rf (by simp))
  have dj2 : Dj (pb + 1) kw := DL.at dhp (hf.km hfi.rk (by simp))
  have dj3 : Dj (pb + 1) kq := DL.at dhp (hf.km hqF (by simp))
  have df4 := (fun c e he => dhp (c + 1) (hf.mem e (by simp)) pb rfl he.symm : DF (fun c => g.ρ c = .frz) (pb + 1))
  refine LR.v (Y.move rfl rfl) (Wd.u rfl) rfl rfl ?_
  refine LR.v (Y.nilCheck rfl rfl) (Wd.u rfl) rfl rfl ?_
  refine LR.v (Y.fieldAddr hvf.pt rfl Tryd.runUnderlying76 rfl rfl Tryd.sizeOf74 (by decide) rfl) (Wd.u rfl) rfl rfl ?_
  refine LR.v (Y.load1 (hvf.pt.drop 2) rfl Tryd.isAgg74 rfl) (Wd.u rfl) rfl rfl ?_
  refine LR.v (Y.len hw.rd rfl Tryd.runUnderlying74 rfl) (Wd.u rfl) rfl rfl ?_
  refine LR.v (Y.move rfl rfl) (Wd.u rfl) rfl rfl ?_
  refine LR.nil ?_
  refine hK3 _ _ ?_
  refine CW.block (fun K4 hK4 hX4 hE4 => ?_)
  refine CW.loop (fun (i1 : (Nat)) => [(0, fvl g.fb i), (1, ptr pb), (4, .int .i64 ((1 + ((lw.take i1).map (fun y => y.1.ways)).sum : Nat) : Int)), (14, wv.v), (15, .int .i64 lw.length), (16, .int .i64 (i1 : Int))])
    (fun (i1 : (Nat)) (H : Heap) => (i1 ≤ lw.length) ∧ Nw H0 H)
    (fun (i1 : (Nat)) => lw.length - i1) 0 ⟨rfl, rfl, rfl, rfl, rfl, rfl, trivial⟩ ?_ ?_
  ·
    exact ⟨(by omega), Mo.refl _ _⟩
  intro i1 HL1 hI1 K5 hN5 hE5
  obtain ⟨hi1, hlm1⟩ := hI1
  replace hf := hf.nw hlm1
  replace hp := hp.nw hlm1
  replace hpk := hpk.nw hlm1
  replace hdR := fun y hy => (hdR y hy).nw hlm1
  replace hvf := hvf.nw hlm1
  replace hw := hw.nw hlm1
  replace hb := hb.nw hlm1
  replace hm0 := hm0.trN hlm1
  have hz1 := hlm1.size
  refine CW.seq (fun K6 hK6 hE6 => ?_)
  refine CW.region ?_
  refine LR.v (Y.lss rfl rfl rfl) (Wd.u rfl) rfl rfl ?_
  refine LR.nil ?_
  refine hK6 _ _ ?_
  refine CW.seq (fun K7 hK7 hE7 => ?_)
  refine CW.condp rfl (fun c17 => ?_) (fun c17 => ?_)
  ·
    have hil : i1 < lw.length := by omega
    have hwt := ways_take hil
    have hwt2 := ways_le lw (i1 + 1)
    have hdl1 := hwd lw[i1].1 (by rw [← hlw]; exact List.mem_map.2 ⟨_, List.getElem_mem hil, rfl⟩)
    refine CW.skip ?_
    refine hK7 _ _ ?_
    refine CW.seq (fun K8 hK8 hE8 => ?_)
    refine CW.block (fun K9 hK9 hX9 hE9 => ?_)
    refine CW.seq (fun K10 hK10 hE10 => ?_)
    refine CW.region ?_
    refine LR.v (Y.owAddr hw (i1) rfl Tryd.runUnderlying74 Tryd.sizeOf67 rfl rfl (by first | rfl | omega) (by first | omega | (simp; omega) | (simp; done))) (Wd.u rfl) rfl rfl ?_
    refine LR.v (Y.loadN (hw.pt (j := i1) (by first | omega | (simp; omega) | (simp; done))) rfl Tryd.isAgg67 Tryd.sizeOf67 (fW_len _) rfl) (Wd.u rfl) rfl rfl ?_
    refine LR.z (Z.allocv rfl Tryd.zeroValue67) (Wd.u rfl) rfl rfl (fun v6 H6 r6 => ?_)
    obtain ⟨rfl, v6, hs6, ob6, hH6⟩ := r6
    have hzs6 : H6.size = HL1.size + 1 := by rw [hH6]; simp
    have dj5 : DL (HL1.size + 1) K := DL.newK hf.bk
    have dj6 : Dj (pb + 1) (HL1.size + 1) := Dj.new hp.lt
    have df7 := (DF.new (bf_hpk.mono hm0.size) : DF _ (HL1.size + 1))
    have df8 := (DF.new (bf_hdR.mono (by omega)) : DF _ (HL1.size + 1))
    have dj9 : Dj (g.fb.getD i 0 + 1) (HL1.size + 1) := Dj.new hvf.lt
    have dj10 : Dj kw (HL1.size + 1) := Dj.new hw.le
    have dj11 : Dj kq (HL1.size + 1) := Dj.new hb.le
    have nx12 : Nx 0 H0.size (HL1.size + 1) := Nx.new hm0.size
    have nx13 : Nx 0 H0.size (HL1.size + 1) := Nx.new hlm1.size
    replace hf := hf.nw hs6
    replace hp := hp.nw hs6
    replace hpk := hpk.nw hs6
    replace hdR := fun y hy => (hdR y hy).nw hs6
    replace hvf := hvf.nw hs6
    replace hw := hw.nw hs6
    replace hb := hb.nw hs6
    replace hm0 := hm0.trN hs6
    replace hlm1 := hlm1.tr hs6
    have hz2 := hs6.size
    refine LR.s (S.var v6 (_) (fW lw[i1]) rfl rfl rfl rfl (fW_one lw[i1]) Tryd.sizeOf67 (fW_len _) (by decide) ((splice_all2 (fW_len _).symm))) (Wd.u rfl) rfl (fun H3_3 r3_3 => ?_)
    obtain ⟨v6, hs3_3⟩ := r3_3
    replace hs3_3 := hs3_3.md1
    replace hf := hf.upL hs3_3 (DKL.cons dj5 DKL.nil)
    replace hp := hp.upL hs3_3 (DL.cons dj6 DL.nil)
    replace hpk := hpk.upL hs3_3 (DFL.cons df7 DFL.nil)
    replace hdR := fun y hy => (hdR y hy).upL hs3_3 (DFL.cons df8 DFL.nil)
    replace hvf := hvf.upL hs3_3 (DL.cons dj9 DL.nil)
    replace hw := hw.upL hs3_3 (DL.cons dj10 DL.nil)
    replace hb := hb.upL hs3_3 (DL.cons dj11 DL.nil)
    replace hm0 := hm0.trL hs3_3 (MIL.cons (MI.app MI.z (nx12) (Nat.le_refl _)) MIL.nil)
    replace hlm1 := (Mo.trL (ks := []) (hlm1.mdn []) hs3_3 (MIL.cons (MI.app MI.z (nx13) (Nat.le_refl _)) MIL.nil)).nil
    have hz3 := hs3_3.size
    refine LR.nil ?_
    refine hK10 _ _ ?_
    refine CW.region ?_
    refine LR.v (Y.move rfl rfl) (Wd.u rfl) rfl rfl ?_
    refine LR.v (Y.loadN v6.pt rfl Tryd.isAgg67 Tryd.sizeOf67 (fW_len _) rfl) (Wd.u rfl) rfl rfl ?_
    -- call (selvage/simfs.write).ways
    refine LR.call rfl Tryd.call67 rfl (Wd.u rfl) rfl rfl (ways_ct lw[i1] w0 _ (hdR lw[i1] (List.getElem_mem hil)).any (by omega)) (fun v22 H22 r22 => ?_)
    obtain ⟨rfl, hs22⟩ := r22
    replace hf := hf.nw hs22
    replace hp := hp.nw hs22
    replace hpk := hpk.nw hs22
    replace hdR := fun y hy => (hdR y hy).nw hs22
    replace hvf := hvf.nw hs22
    replace hw := hw.nw hs22
    replace hb := hb.nw hs22
    replace v6 := v6.nw hs22
    replace hm0 := hm0.trN hs22
    replace hlm1 := hlm1.tr hs22
    have hz4 := hs22.size
    refine LR.v (Y.cast (v2 := .int .i64 ((1 + ((lw.take (i1 + 1)).map (fun y => y.1.ways)).sum : Nat) : Int)) (Y.addi rfl rfl rfl (by omega)) (ivv (by omega))) (Wd.u rfl) rfl rfl ?_
    refine LR.v (Y.assign rfl rfl) (Wd.u rfl) rfl rfl ?_
    refine LR.nil ?_
    refine hK9 _ _ ?_
    refine hK8 _ _ ?_
    refine CW.region ?_
    refine LR.v (Y.addi rfl rfl rfl (by omega)) (Wd.u rfl) rfl rfl ?_
    refine LR.v (Y.move rfl rfl) (Wd.u rfl) rfl rfl ?_
    refine LR.nil ?_
    refine QN.sub (hN5 (i1 + 1) _ ?_ ?_) ⟨rfl, rfl, (iv (by omega)), rfl, (iv (by omega)), (iv (by omega)), trivial⟩
    · exact ⟨(by omega), hlm1⟩
    · first | omega | (simp only; omega) | (simp; omega)
  ·
    obtain rfl : i1 = lw.length := by omega
    refine CW.exit (hE7 (.exit 0) nofun _ _ (hE5 (.exit 0) nofun _ _ (hX4 _ _ ?_)))
    refine hK2 _ _ ?_
    refine CW.seq (fun K11 hK11 hE11 => ?_)
    refine CW.region ?_
    refine LR.v (Y.move rfl rfl) (Wd.u rfl) rfl rfl ?_
    refine LR.v (Y.cast (v2 := .int .i64 ((waysF (fget D.fs i).w : Nat) : Int)) (Y.move rfl rfl) (by rw [hwys, List.take_length])) (Wd.u rfl) rfl rfl ?_
    -- call (*selvage/simfs.picker).next
    refine LR.call rfl Tryd.call43 rfl (Wd.u rfl) rfl rfl (next_ct G pb n pv picks (waysF (fget D.fs i).w) w0 _ hp hpk (bf_hpk.mono (by omega)) dpk (by omega) (by omega) hpw) (fun v27 H27 r27 => ?_)
    obtain ⟨rfl, hp, hs27⟩ := r27
    replace hf := hf.upL hs27 (DKL.cons dhp DKL.nil)
    replace hpk := hpk.upL hs27 (DFL.cons dpk DFL.nil)
    replace hdR := fun y hy => (hdR y hy).upL hs27 (DFL.cons df4 DFL.nil)
    replace hvf := hvf.upL hs27 (DL.cons dj1.symm DL.nil)
    replace hw := hw.upL hs27 (DL.cons dj2.symm DL.nil)
    replace hb := hb.upL hs27 (DL.cons dj3.symm DL.nil)
    replace hm0 := hm0.trL hs27 (MIL.cons (MI.app (MI.root (by simp)) (nx_hm0_hp) (Nat.le_refl _)) MIL.nil)
    have hz5 := hs27.size
    obtain ⟨k0, hk0⟩ : ∃ k0, k0 = pickN picks n (waysF (fget D.fs i).w) := ⟨_, rfl⟩
    have hk0l := pickN_lt picks n (m := waysF (fget D.fs i).w) (by omega)
    rw [← hk0] at hk0l
    obtain ⟨T, hT⟩ : ∃ T, T = wayW (fget D.fs i).w (fget D.fs i).stays k0 := ⟨_, rfl⟩
    refine LR.v (Y.assign rfl rfl) (Wd.u rfl) rfl rfl ?_
    refine LR.nil ?_
    refine hK11 _ _ ?_
    refine CW.seq (fun K12 hK12 hE12 => ?_)
    refine CW.region ?_
    refine LR.v (Y.move rfl rfl) (Wd.u rfl) rfl rfl ?_
    refine LR.v (Y.nilCheck rfl rfl) (Wd.u rfl) rfl rfl ?_
    refine LR.v (Y.fieldAddr hvf.pt rfl Tryd.runUnderlying76 rfl rfl Tryd.sizeOf73 (by decide) rfl) (Wd.u rfl) rfl rfl ?_
    refine LR.v (Y.fieldAddr hvf.pt rfl Tryd.runUnderlying73 rfl rfl Tryd.sizeOf25 (by decide) rfl) (Wd.u rfl) rfl rfl ?_
    refine LR.v (Y.load1 (hvf.pt.drop 1) rfl Tryd.isAgg25 rfl) (Wd.u rfl) rfl rfl ?_
    refine LR.v (Y.assign rfl rfl) (Wd.u rfl) rfl rfl ?_
    refine LR.nil ?_
    refine hK12 _ _ ?_
    refine CW.cut (fun (s_ : (SV) × (Nat)) => match s_ with | (s9, k9) => [(0, fvl g.fb i), (8, s9.v)])
      (fun (s_ : (SV) × (Nat)) (H : Heap) => match s_ with | (s9, k9) => (Qr k9 H fB 1 s9.v T) ∧ (∀ c, c + 1 = k9 → g.ρ c = .frz ∨ H0.size ≤ c) ∧ (Nx kq H27.size k9) ∧ Nw H27 H) (fun K13 hK13 hE13 => ?_) ?_
    ·
      have hcm13 : Nw H27 H27 := Mo.refl _ _
      have nx_hcm13_hb := Nx.refl kq H27.size
      refine CW.seq (fun K14 hK14 hE14 => ?_)
      refine CW.region ?_
      refine LR.v (Y.move rfl rfl) (Wd.u rfl) rfl rfl ?_
      refine LR.v (Y.nilCheck rfl rfl) (Wd.u rfl) rfl rfl ?_
      refine LR.v (Y.fieldAddr hvf.pt rfl Tryd.runUnderlying76 rfl rfl Tryd.sizeOf74 (by decide) rfl) (Wd.u rfl) rfl rfl ?_
      refine LR.v (Y.load1 (hvf.pt.drop 2) rfl Tryd.isAgg74 rfl) (Wd.u rfl) rfl rfl ?_
      refine LR.v (Y.len hw.rd rfl Tryd.runUnderlying74 rfl) (Wd.u rfl) rfl rfl ?_
      refine LR.v (Y.move rfl rfl) (Wd.u rfl) rfl rfl ?_
      refine LR.nil ?_
      refine hK14 _ _ ?_
      refine CW.block (fun K15 hK15 hX15 hE15 => ?_)
      refine CW.loop (fun (s_ : (Nat) × (Nat) × (SV) × (Nat) × (List UInt8)) => match s_ with | (i2, k, s8, kb, bl) => [(0, fvl g.fb i), (7, .int .i64 (k : Int)), (8, s8.v), (36, wv.v), (37, .int .i64 lw.length), (38, .int .i64 (i2 : Int))])
        (fun (s_ : (Nat) × (Nat) × (SV) × (Nat) × (List UInt8)) (H : Heap) => match s_ with | (i2, k, s8, kb, bl) => (i2 ≤ lw.length) ∧ (Qr kb H fB 1 s8.v bl) ∧ (∀ c, c + 1 = kb → g.ρ c = .frz ∨ H0.size ≤ c) ∧ (bl = onAll ((fget D.fs i).w.take i2) (fget D.fs i).stays) ∧ (wayW ((fget D.fs i).w.drop i2) bl k = T) ∧ (k ≤ k0) ∧ (Nx kq H27.size kb) ∧ Nw H27 H)
        (fun (s_ : (Nat) × (Nat) × (SV) × (Nat) × (List UInt8)) => match s_ with | (i2, k, s8, kb, bl) => lw.length - i2) (0, k0, sv, kq, (fget D.fs i).stays) ⟨rfl, (by rw [hk0]; rfl), rfl, rfl, rfl, rfl, trivial⟩ ?_ ?_
      ·
        exact ⟨(by omega), hb, fun c e => .inl (hqF c e), rfl, hT.symm, Nat.le_refl _, Nx.refl _ _, Mo.refl _ _⟩
      rintro ⟨i2, k, s8, kb, bl⟩ HL2 hI2 K16 hN16 hE16
      obtain ⟨hi2, hb, hbF, hbl, hwk, hkl, nxl_hb, hlm2⟩ := hI2
      have dj14 : Dj (pb + 1) kb := Dj.app (dj3) hp.lt nxl_hb
      have nx15 : Nx kq H27.size kb := Nx.tr (nx_hcm13_hb) nxl_hb hcm13.size
      replace hf := hf.nw hlm2
      replace hp := hp.nw hlm2
      replace hpk := hpk.nw hlm2
      replace hdR := fun y hy => (hdR y hy).nw hlm2
      replace hvf := hvf.nw hlm2
      replace hw := hw.nw hlm2
      replace hm0 := hm0.trN hlm2
      replace hcm13 := hcm13.tr hlm2
      have hz6 := hlm2.size
      have hle_hb := hb.le
      have nx16 := nxl_hb
      have hble := hpf i2
      rw [← hbl] at hble
      refine CW.seq (fun K17 hK17 hE17 => ?_)
      refine CW.region ?_
      refine LR.v (Y.lss rfl rfl rfl) (Wd.u rfl) rfl rfl ?_
      refine LR.nil ?_
      refine hK17 _ _ ?_
      refine CW.seq (fun K18 hK18 hE18 => ?_)
      refine CW.condp rfl (fun c39 => ?_) (fun c39 => ?_)
      ·
        have hi2l : i2 < lw.length := by omega
        have hi2w : i2 < (fget D.fs i).w.length := by omega
        have hgw : (fget D.fs i).w[i2] = lw[i2].1 := by simp only [← hlw, List.getElem_map]
        have hdl2 := hwd lw[i2].1 (by rw [← hlw]; exact List.mem_map.2 ⟨_, List.getElem_mem hi2l, rfl⟩)
        have hdy := hdR lw[i2] (List.getElem_mem hi2l)
        refine CW.skip ?_
        refine hK18 _ _ ?_
        refine CW.seq (fun K19 hK19 hE19 => ?_)
        refine CW.block (fun K20 hK20 hX20 hE20 => ?_)
        refine CW.seq (fun K21 hK21 hE21 => ?_)
        refine CW.region ?_
        refine LR.v (Y.owAddr hw (i2) rfl Tryd.runUnderlying74 Tryd.sizeOf67 rfl rfl (by first | rfl | omega) (by first | omega | (simp; omega) | (simp; done))) (Wd.u rfl) rfl rfl ?_
        refine LR.v (Y.loadN (hw.pt (j := i2) (by first | omega | (simp; omega) | (simp; done))) rfl Tryd.isAgg67 Tryd.sizeOf67 (fW_len _) rfl) (Wd.u rfl) rfl rfl ?_
        refine LR.z (Z.allocv rfl Tryd.zeroValue67) (Wd.u rfl) rfl rfl (fun v10 H10 r10 => ?_)
        obtain ⟨rfl, v10, hs10, ob10, hH10⟩ := r10
        have hzs10 : H10.size = HL2.size + 1 := by rw [hH10]; simp
        have dj17 : DL (HL2.size + 1) K := DL.newK hf.bk
        have dj18 : Dj (pb + 1) (HL2.size + 1) := Dj.new hp.lt
        have df19 := (DF.new (bf_hpk.mono hm0.size) : DF _ (HL2.size + 1))
        have df20 := (DF.new (bf_hdR.mono (by omega)) : DF _ (HL2.size + 1))
        have dj21 : Dj (g.fb.getD i 0 + 1) (HL2.size + 1) := Dj.new hvf.lt
        have dj22 : Dj kw (HL2.size + 1) := Dj.new hw.le
        have dj23 : Dj kb (HL2.size + 1) := Dj.new hb.le
        have nx24 : Nx 0 H0.size (HL2.size + 1) := Nx.new hm0.size
        have nx25 : Nx 0 H27.size (HL2.size + 1) := Nx.new hcm13.size
        have nx26 : Nx 0 H27.size (HL2.size + 1) := Nx.new hlm2.size
        replace hf := hf.nw hs10
        replace hp := hp.nw hs10
        replace hpk := hpk.nw hs10
        replace hdR := fun y hy => (hdR y hy).nw hs10
        replace hvf := hvf.nw hs10
        replace hw := hw.nw hs10
        replace hb := hb.nw hs10
        replace hm0 := hm0.trN hs10
        replace hcm13 := hcm13.tr hs10
        replace hlm2 := hlm2.tr hs10
        have hz7 := hs10.size
        refine LR.s (S.var v10 (_) (fW lw[i2]) rfl rfl rfl rfl (fW_one lw[i2]) Tryd.sizeOf67 (fW_len _) (by decide) ((splice_all2 (fW_len _).symm))) (Wd.u rfl) rfl (fun H10_3 r10_3 => ?_)
        obtain ⟨v10, hs10_3⟩ := r10_3
        replace hs10_3 := hs10_3.md1
        replace hf := hf.upL hs10_3 (DKL.cons dj17 DKL.nil)
        replace hp := hp.upL hs10_3 (DL.cons dj18 DL.nil)
        replace hpk := hpk.upL hs10_3 (DFL.cons df19 DFL.nil)
        replace hdR := fun y hy => (hdR y hy).upL hs10_3 (DFL.cons df20 DFL.nil)
        replace hvf := hvf.upL hs10_3 (DL.cons dj21 DL.nil)
        replace hw := hw.upL hs10_3 (DL.cons dj22 DL.nil)
        replace hb := hb.upL hs10_3 (DL.cons dj23 DL.nil)
        replace hm0 := hm0.trL hs10_3 (MIL.cons (MI.app MI.z (nx24) (Nat.le_refl _)) MIL.nil)
        replace hcm13 := (Mo.trL (ks := []) (hcm13.mdn []) hs10_3 (MIL.cons (MI.app MI.z (nx25) (Nat.le_refl _)) MIL.nil)).nil
        replace hlm2 := (Mo.trL (ks := []) (hlm2.mdn []) hs10_3 (MIL.cons (MI.app MI.z (nx26) (Nat.le_refl _)) MIL.nil)).nil
        have hz8 := hs10_3.size
        refine LR.nil ?_
        refine hK21 _ _ ?_
        refine CW.seq (fun K22 hK22 hE22 => ?_)
        refine CW.seq (fun K23 hK23 hE23 => ?_)
        refine CW.region ?_
        refine LR.v (Y.move rfl rfl) (Wd.u rfl) rfl rfl ?_
        refine LR.v (Y.eql rfl rfl rfl) (Wd.u rfl) rfl rfl ?_
        refine LR.nil ?_
        refine hK23 _ _ ?_
        refine CW.condp rfl (fun c43 => ?_) (fun c43 => ?_)
        ·
          refine CW.exit (hE22 (.exit 2) nofun _ _ (hE20 (.exit 2) nofun (by simp) _ _ (hE19 (.exit 2) nofun _ _ (hE16 (.exit 2) nofun _ _ (hX15 _ _ ?_)))))
          have hTe : T = bl := by rw [← hwk, show k = 0 by omega, wayW_0]
          refine QN.sub (hK13 (s8, kb) _ ?_) ⟨rfl, rfl, trivial⟩
          exact ⟨by rw [hTe]; exact hb, hbF, nx15, hcm13⟩
        ·
          refine CW.skip ?_
          refine hK22 _ _ ?_
          refine CW.seq (fun K24 hK24 hE24 => ?_)
          refine CW.seq (fun K25 hK25 hE25 => ?_)
          refine CW.region ?_
          refine LR.v (Y.move rfl rfl) (Wd.u rfl) rfl rfl ?_
          refine LR.v (Y.loadN v10.pt rfl Tryd.isAgg67 Tryd.sizeOf67 (fW_len _) rfl) (Wd.u rfl) rfl rfl ?_
          -- call (selvage/simfs.write).ways
          refine LR.call rfl Tryd.call67 rfl (Wd.u rfl) rfl rfl (ways_ct lw[i2] w0 _ (hdR lw[i2] (List.getElem_mem hi2l)).any (by omega)) (fun v46 H46 r46 => ?_)
          obtain ⟨rfl, hs46⟩ := r46
          replace hf := hf.nw hs46
          replace hp := hp.nw hs46
          replace hpk := hpk.nw hs46
          replace hdR := fun y hy => (hdR y hy).nw hs46
          replace hvf := hvf.nw hs46
          replace hw := hw.nw hs46
          replace hb := hb.nw hs46
          replace v10 := v10.nw hs46
          replace hm0 := hm0.trN hs46
          replace hcm13 := hcm13.tr hs46
          replace hlm2 := hlm2.tr hs46
          have hz9 := hs46.size
          refine LR.v (Y.leq rfl rfl rfl) (Wd.u rfl) rfl rfl ?_
          refine LR.nil ?_
          refine hK25 _ _ ?_
          refine CW.condp rfl (fun c47 => ?_) (fun c47 => ?_)
          ·
            refine CW.seq (fun K26 hK26 hE26 => ?_)
            refine CW.region ?_
            refine LR.v (Y.loadN v10.pt rfl Tryd.isAgg67 Tryd.sizeOf67 (fW_len _) rfl) (Wd.u rfl) rfl rfl ?_
            refine LR.v (Y.move rfl rfl) (Wd.u rfl) rfl rfl ?_
            refine LR.v (Y.move rfl rfl) (Wd.u rfl) rfl rfl ?_
            refine LR.v (Y.cast (v2 := .int .i64 ((k - 1 : Nat) : Int)) (Y.subi rfl rfl rfl (by omega)) (ivv (by omega))) (Wd.u rfl) rfl rfl ?_
            -- call (selvage/simfs.write).part
            refine LR.call rfl Tryd.call68 rfl (Wd.u rfl) rfl rfl (part_ct lw[i2] s8 bl (k - 1) w0 _ (hdR lw[i2] (List.getElem_mem hi2l)).any hb.rd.any (by omega) (by omega)) (fun v52 H52 r52 => ?_)
            obtain ⟨s52, k52, rfl, ow52, hk52, hs52⟩ := r52
            have dj27 : DL k52 K := DL.app2 (DL.zK) hf.bk hk52
            have dj28 : Dj (pb + 1) k52 := Dj.app (Dj.z) hp.lt hk52
            have df29 := DF.app (DF.z) (bf_hpk.mono hm0.size) hk52
            have df30 := DF.app (DF.z) (bf_hdR.mono (by omega)) hk52
            have dj31 : Dj (g.fb.getD i 0 + 1) k52 := Dj.app (Dj.z) hvf.lt hk52
            have dj32 : Dj kw k52 := Dj.app (Dj.z) hw.le hk52
            have dj33 : Dj kb k52 := Dj.app (Dj.z) hb.le hk52
            have dj34 : Dj (HL2.size + 1) k52 := Dj.app (Dj.z) v10.lt hk52
            have nx35 : Nx 0 H0.size k52 := Nx.tr (Nx.refl 0 _) hk52 hm0.size
            have nx36 : Nx 0 H27.size k52 := Nx.tr (Nx.refl 0 _) hk52 hcm13.size
            have nx37 : Nx 0 H27.size k52 := Nx.tr (Nx.refl 0 _) hk52 hlm2.size
            replace hf := hf.nw hs52
            replace hp := hp.nw hs52
            replace hpk := hpk.nw hs52
            replace hdR := fun y hy => (hdR y hy).nw hs52
            replace hvf := hvf.nw hs52
            replace hw := hw.nw hs52
            replace hb := hb.nw hs52
            replace v10 := v10.nw hs52
            replace hm0 := hm0.trN hs52
            replace hcm13 := hcm13.tr hs52
            replace hlm2 := hlm2.tr hs52
            have hz10 := hs52.size
            have hle_ow52 := ow52.le
            refine LR.v (Y.assign rfl rfl) (Wd.u rfl) rfl rfl ?_
            refine LR.nil ?_
            refine hK26 _ _ ?_
            refine CW.exit (hE24 (.exit 2) nofun _ _ (hE20 (.exit 2) nofun (by simp) _ _ (hE19 (.exit 2) nofun _ _ (hE16 (.exit 2) nofun _ _ (hX15 _ _ ?_)))))
            have hTe : T = lw[i2].1.part bl (k - 1) := by rw [← hwk, wayW_drop hi2w, if_neg (by omega), if_pos (by simp only [hgw]; omega)]; simp only [hgw]
            rw [← hTe] at ow52
            refine QN.sub (hK13 (s52, k52) _ ?_) ⟨rfl, rfl, trivial⟩
            exact ⟨ow52.q, fun c e => .inr (by unfold Nx at hk52; omega), (Nx.z (nx36)), hcm13⟩
          ·
            refine CW.skip ?_
            refine hK24 _ _ ?_
            refine CW.seq (fun K27 hK27 hE27 => ?_)
            refine CW.region ?_
            refine LR.v (Y.move rfl rfl) (Wd.u rfl) rfl rfl ?_
            refine LR.v (Y.loadN v10.pt rfl Tryd.isAgg67 Tryd.sizeOf67 (fW_len _) rfl) (Wd.u rfl) rfl rfl ?_
            -- call (selvage/simfs.write).ways
            refine LR.call rfl Tryd.call67 rfl (Wd.u rfl) rfl rfl (ways_ct lw[i2] w0 _ (hdR lw[i2] (List.getElem_mem hi2l)).any (by omega)) (fun v55 H55 r55 => ?_)
            obtain ⟨rfl, hs55⟩ := r55
            replace hf := hf.nw hs55
            replace hp := hp.nw hs55
            replace hpk := hpk.nw hs55
            replace hdR := fun y hy => (hdR y hy).nw hs55
            replace hvf := hvf.nw hs55
            replace hw := hw.nw hs55
            replace hb := hb.nw hs55
            replace v10 := v10.nw hs55
            replace hm0 := hm0.trN hs55
            replace hcm13 := hcm13.tr hs55
            replace hlm2 := hlm2.tr hs55
            have hz11 := hs55.size
            refine LR.v (Y.cast (v2 := .int .i64 ((k - lw[i2].1.ways : Nat) : Int)) (Y.subi rfl rfl rfl (by omega)) (ivv (by omega))) (Wd.u rfl) rfl rfl ?_
            refine LR.v (Y.assign rfl rfl) (Wd.u rfl) rfl rfl ?_
            refine LR.nil ?_
            refine hK27 _ _ ?_
            refine CW.region ?_
            refine LR.v (Y.loadN v10.pt rfl Tryd.isAgg67 Tryd.sizeOf67 (fW_len _) rfl) (Wd.u rfl) rfl rfl ?_
            refine LR.v (Y.move rfl rfl) (Wd.u rfl) rfl rfl ?_
            refine LR.v (Y.fieldAddr v10.pt rfl Tryd.runUnderlying67 rfl rfl Tryd.sizeOf25 (by decide) rfl) (Wd.u rfl) rfl rfl ?_
            refine LR.v (Y.load1 (v10.pt.drop 1) rfl Tryd.isAgg25 rfl) (Wd.u rfl) rfl rfl ?_
            refine LR.v (Y.len (hdR lw[i2] (List.getElem_mem hi2l)) rfl Tryd.runUnderlying25 rfl) (Wd.u rfl) rfl rfl ?_
            -- call (selvage/simfs.write).on
            refine LR.call rfl Tryd.call60 rfl (Wd.u rfl) rfl rfl (on_ct lw[i2] s8 bl lw[i2].1.d.length w0 _ (hdR lw[i2] (List.getElem_mem hi2l)).any hb.rd.any (Nat.le_refl _) (by omega)) (fun v62 H62 r62 => ?_)
            obtain ⟨s62, k62, rfl, ow62, hk62, hs62⟩ := r62
            have dj38 : DL k62 K := DL.app2 (DL.zK) hf.bk hk62
            have dj39 : Dj (pb + 1) k62 := Dj.app (Dj.z) hp.lt hk62
            have df40 := DF.app (DF.z) (bf_hpk.mono hm0.size) hk62
            have df41 := DF.app (DF.z) (bf_hdR.mono (by omega)) hk62
            have dj42 : Dj (g.fb.getD i 0 + 1) k62 := Dj.app (Dj.z) hvf.lt hk62
            have dj43 : Dj kw k62 := Dj.app (Dj.z) hw.le hk62
            have dj44 : Dj kb k62 := Dj.app (Dj.z) hb.le hk62
            have dj45 : Dj (HL2.size + 1) k62 := Dj.app (Dj.z) v10.lt hk62
            have nx46 : Nx 0 H0.size k62 := Nx.tr (Nx.refl 0 _) hk62 hm0.size
            have nx47 : Nx 0 H27.size k62 := Nx.tr (Nx.refl 0 _) hk62 hcm13.size
            have nx48 : Nx 0 H27.size k62 := Nx.tr (Nx.refl 0 _) hk62 hlm2.size
            replace hf := hf.nw hs62
            replace hp := hp.nw hs62
            replace hpk := hpk.nw hs62
            replace hdR := fun y hy => (hdR y hy).nw hs62
            replace hvf := hvf.nw hs62
            replace hw := hw.nw hs62
            replace hb := hb.nw hs62
            replace v10 := v10.nw hs62
            replace hm0 := hm0.trN hs62
            replace hcm13 := hcm13.tr hs62
            replace hlm2 := hlm2.tr hs62
            have hz12 := hs62.size
            have hle_ow62 := ow62.le
            refine LR.v (Y.assign rfl rfl) (Wd.u rfl) rfl rfl ?_
            refine LR.nil ?_
            refine hK20 _ _ ?_
            refine hK19 _ _ ?_
            refine CW.region ?_
            refine LR.v (Y.addi rfl rfl rfl (by omega)) (Wd.u rfl) rfl rfl ?_
            refine LR.v (Y.move rfl rfl) (Wd.u rfl) rfl rfl ?_
            refine LR.nil ?_
            refine QN.sub (hN16 (i2 + 1, k - lw[i2].1.ways, s62, k62, lw[i2].1.on bl lw[i2].1.d.length) _ ?_ ?_) ⟨rfl, (iv (by omega)), rfl, rfl, (iv (by omega)), (iv (by omega)), trivial⟩
            · exact ⟨(by omega), ow62.q, fun c e => .inr (by unfold Nx at hk62; omega), by rw [onAll_take hi2w, ← hbl]; simp only [hgw], by rw [← hwk, wayW_drop hi2w, if_neg (by omega), if_neg (by simp only [hgw]; omega)]; simp only [hgw], (by omega), (Nx.z (nx48)), hlm2⟩
            · first | omega | (simp only; omega) | (simp; omega)
      ·
        refine CW.exit (hE18 (.exit 2) nofun _ _ (hE16 (.exit 2) nofun _ _ (hX15 _ _ ?_)))
        have hTe : T = bl := by rw [← hwk, List.drop_of_length_le (by omega)]; rfl
        refine QN.sub (hK13 (s8, kb) _ ?_) ⟨rfl, rfl, trivial⟩
        exact ⟨by rw [hTe]; exact hb, hbF, nx15, hcm13⟩
    ·
      rintro ⟨s9, k9⟩ Hcut2 hIcut2
      obtain ⟨hb, hbF, nxl_hb, hlmcut2⟩ := hIcut2
      have dj49 : Dj (pb + 1) k9 := Dj.app (dj3) hp.lt nxl_hb
      replace hf := hf.nw hlmcut2
      replace hp := hp.nw hlmcut2
      replace hpk := hpk.nw hlmcut2
      replace hdR := fun y hy => (hdR y hy).nw hlmcut2
      replace hvf := hvf.nw hlmcut2
      replace hw := hw.nw hlmcut2
      replace hm0 := hm0.trN hlmcut2
      have hz13 := hlmcut2.size
      have hle_hb := hb.le
      have nx50 := nxl_hb
      obtain ⟨nvB, svB, wvB, kwB, lwB, hfiB⟩ := hf.fil i hi
      have hop : Mo (Ms [(g.fb.getD i 0 + 1)]) Hcut2 Hcut2 := Mo.refl _ _
      have km51 : KM K (g.fb.getD i 0 + 1) := (hf.km1 hfiB.rf (by simp))
      have vf2 := hfiB.vf
      have hlt_vf2 := vf2.lt
      have dj52 : Dj (pb + 1) (g.fb.getD i 0 + 1) := DL.at (dhp) km51
      have df53 := DFL.at (dpkK) km51
      have nx54 : MI (K ++ [(pb + 1)]) H0.size (g.fb.getD i 0 + 1) := MIL.at (MIL.ofK (nx_hm0_hf) (by intro k hk; simp [hk])) km51
      have nx55 := Nx.refl (g.fb.getD i 0 + 1) Hcut2.size
      have dj56 : Dj k9 (g.fb.getD i 0 + 1) := fun c h1 h2 => by
        rcases hbF c h1 with q | q
        · rw [show c = g.fb.getD i 0 by omega, hfiB.rf] at q; cases q
        · have := hlt0 _ (show g.ρ (g.fb.getD i 0) ≠ .out by rw [hfiB.rf]; simp); omega
      refine CW.region ?_
      refine LR.v (Y.move rfl rfl) (Wd.u rfl) rfl rfl ?_
      refine LR.v (Y.move rfl rfl) (Wd.u rfl) rfl rfl ?_
      refine LR.v (Y.move rfl rfl) (Wd.u rfl) rfl rfl ?_
      refine LR.v (Y.move rfl rfl) (Wd.u rfl) rfl rfl ?_
      refine LR.v (Y.move rfl rfl) (Wd.u rfl) rfl rfl ?_
      refine LR.v (Y.nilCheck rfl rfl) (Wd.u rfl) rfl rfl ?_
      refine LR.v (Y.fieldAddr vf2.pt rfl Tryd.runUnderlying76 rfl rfl Tryd.sizeOf73 (by decide) rfl) (Wd.u rfl) rfl rfl ?_
      refine LR.v (Y.fieldAddr vf2.pt rfl Tryd.runUnderlying73 rfl rfl Tryd.sizeOf25 (by decide) rfl) (Wd.u rfl) rfl rfl ?_
      refine LR.s (S.var1 vf2 0 (_) rfl rfl rfl (rfl) Tryd.sizeOf25 (by simp) (rfl)) (Wd.u rfl) rfl (fun H17_8 r17_8 => ?_)
      obtain ⟨vf2, hs17_8⟩ := r17_8
      replace hs17_8 := hs17_8.md1
      replace hp := hp.upL hs17_8 (DL.cons dj52 DL.nil)
      replace hpk := hpk.upL hs17_8 (DFL.cons df53 DFL.nil)
      -- LOST hdR
      -- LOST hvf
      -- LOST hw
      replace hb := hb.upL hs17_8 (DL.cons dj56 DL.nil)
      replace hm0 := hm0.trL hs17_8 (MIL.cons (nx54) MIL.nil)
      replace hop := hop.trL hs17_8 (MIL.cons (MI.app (MI.root (by simp)) (nx55) (Nat.le_refl _)) MIL.nil)
      have hz14 := hs17_8.size
      refine LR.v (Y.nilCheck rfl rfl) (Wd.u rfl) rfl rfl ?_
      refine LR.v (Y.fieldAddr vf2.pt rfl Tryd.runUnderlying76 rfl rfl Tryd.sizeOf73 (by decide) rfl) (Wd.u rfl) rfl rfl ?_
      refine LR.v (Y.fieldAddr vf2.pt rfl Tryd.runUnderlying73 rfl rfl Tryd.sizeOf25 (by decide) rfl) (Wd.u rfl) rfl rfl ?_
      refine LR.s (S.var1 vf2 1 (_) rfl rfl rfl (rfl) Tryd.sizeOf25 (by simp) (rfl)) (Wd.u rfl) rfl (fun H17_12 r17_12 => ?_)
      obtain ⟨vf2, hs17_12⟩ := r17_12
      replace hs17_12 := hs17_12.md1
      replace hp := hp.upL hs17_12 (DL.cons dj52 DL.nil)
      replace hpk := hpk.upL hs17_12 (DFL.cons df53 DFL.nil)
      replace hb := hb.upL hs17_12 (DL.cons dj56 DL.nil)
      replace hm0 := hm0.trL hs17_12 (MIL.cons (nx54) MIL.nil)
      replace hop := hop.trL hs17_12 (MIL.cons (MI.app (MI.root (by simp)) (nx55) (Nat.le_refl _)) MIL.nil)
      have hz15 := hs17_12.size
      refine LR.v (Y.nilCheck rfl rfl) (Wd.u rfl) rfl rfl ?_
      refine LR.v (Y.fieldAddr vf2.pt rfl Tryd.runUnderlying76 rfl rfl Tryd.sizeOf74 (by decide) rfl) (Wd.u rfl) rfl rfl ?_
      refine LR.s (S.var1 vf2 2 (_) rfl rfl rfl (rfl) Tryd.sizeOf74 (by simp) (rfl)) (Wd.u rfl) rfl (fun H17_15 r17_15 => ?_)
      obtain ⟨vf2, hs17_15⟩ := r17_15
      replace hs17_15 := hs17_15.md1
      replace hp := hp.upL hs17_15 (DL.cons dj52 DL.nil)
      replace hpk := hpk.upL hs17_15 (DFL.cons df53 DFL.nil)
      replace hb := hb.upL hs17_15 (DL.cons dj56 DL.nil)
      replace hm0 := hm0.trL hs17_15 (MIL.cons (nx54) MIL.nil)
      replace hop := hop.trL hs17_15 (MIL.cons (MI.app (MI.root (by simp)) (nx55) (Nat.le_refl _)) MIL.nil)
      have hz16 := hs17_15.size
      refine LR.nil ?_
      have dj57 : DL (pb + 1) (k9 :: K) := (DL.cons (dj49) (dhp))
      have nx58 : NxK K H0.size (k9 :: K) := (NxK.consE (nx_hm0_hf) (kfrz hf hbF))
      replace hf := hf.flose hi hfiB rfl hop vf2 hb (fun c e => (hbF c e).imp id (fun h => Classical.byContradiction (fun q => by have := hlt0 c q; omega)))
      have hbk_hf := hf.bk
      refine hret .normal (.inl rfl) _ _ _ (res0 rfl) ?_
      exact ⟨_, { g with ρ := uprk g.ρ k9 .frz }, rfl, by rw [← hk0, ← hT]; exact hf, nx58, hp, ⟨rfl, rfl, rfl⟩, hm0⟩

end Go.Proofs.YtfbfjhppppoilaaDoor.SimM
