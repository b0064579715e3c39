/-
  Sequences: a step that is done, stopping, skipping: by the program and by the document.
-/
import Derived.Test.YtabopjdbgkhacaaDoorSeqI
namespace Go.Proofs.YtabopjdbgkhacaaDoor.SeqJ
open Go.Proofs.YtabopjdbgkhacaaDoor.E Go.RowKit Go.Proofs.YtabopjdbgkhacaaDoor.NamA Go.Proofs.YtabopjdbgkhacaaDoor.NamB Go.Proofs.YtabopjdbgkhacaaDoor.NamC Go.Proofs.YtabopjdbgkhacaaDoor.NamD Go.Proofs.YtabopjdbgkhacaaDoor.SeqA Go.Proofs.YtabopjdbgkhacaaDoor.SeqB Go.Proofs.YtabopjdbgkhacaaDoor.SeqC Go.Proofs.YtabopjdbgkhacaaDoor.SeqD Go.Proofs.YtabopjdbgkhacaaDoor.SeqE Go.Proofs.YtabopjdbgkhacaaDoor.SeqF Go.Proofs.YtabopjdbgkhacaaDoor.SeqG Go.Proofs.YtabopjdbgkhacaaDoor.SeqH Go.Proofs.YtabopjdbgkhacaaDoor.SeqI Go.Proofs.YtabopjdbgkhacaaDoor.Num
set_option maxRecDepth 20000
set_option linter.unusedVariables false
set_option linter.unusedSimpArgs false
set_option linter.unusedSectionVars false
theorem did_ct (x : Sq) (c : List UInt8) (m : Bool) (mx_ : Int) (w0 : World) (H0 : Heap)
    (mx : MX mx_ H0) (bf_mx : BF (fun b => b = 0) H0.size) (hl : RdT H0 fT 33 x.tv.v x.td) (hw : SqW x) (hc : c.length = 32) :
    Ct Tryd.prog w0 12 #[qv x, idV c, .bool m] H0 (fun r H2 => ∃ s : SV, ∃ k : Nat, r = qv (didF x c m s) ∧ (Ow k 29 H2 fT 33 (didF x c m s).tv.v (didF x c m s).td) ∧ (Nx 0 H0.size k) ∧ Nw H0 H2) := by
  refine Ct.enter (args := [qv x, idV c, .bool m]) Tryd.func12 rfl rfl rfl ?_
  intro Q0 hret
  have hm0 : Nw H0 H0 := Mo.refl _ _
  replace hl := hl.bnd
  have bf_hl := Rd.bf hl
  have hll := hl.len
  refine CW.seq (fun K1 hK1 hE1 => ?_)
  refine CW.region ?_
  refine LR.z (Z.boxv rfl rfl) (Wd.u rfl) rfl rfl (fun v3 H3 r3 => ?_)
  obtain ⟨rfl, va, hs3, ob3, hH3⟩ := r3
  have hzs3 : H3.size = H0.size + 1 := by rw [hH3]; simp
  have df1 := (DF.new (bf_mx.mono hm0.size) : DF _ (H0.size + 1))
  have df2 := (DF.new (bf_hl.mono hm0.size) : DF _ (H0.size + 1))
  have nx3 : Nx 0 H0.size (H0.size + 1) := Nx.new hm0.size
  replace mx := mx.nw hs3
  replace hl := hl.nw hs3
  replace hm0 := hm0.tr hs3
  have hz1 := hs3.size
  replace va : Var 26 H3 H0.size (fQ x) := va
  refine LR.z (Z.boxv rfl rfl) (Wd.u rfl) rfl rfl (fun v4 H4 r4 => ?_)
  obtain ⟨rfl, vi, hs4, ob4, hH4⟩ := r4
  have hzs4 : H4.size = H3.size + 1 := by rw [hH4]; simp
  have df4 := (DF.new (bf_mx.mono hm0.size) : DF _ (H3.size + 1))
  have df5 := (DF.new (bf_hl.mono hm0.size) : DF _ (H3.size + 1))
  have dj6 : Dj (H0.size + 1) (H3.size + 1) := Dj.new va.lt
  have nx7 : Nx 0 H0.size (H3.size + 1) := Nx.new hm0.size
  replace mx := mx.nw hs4
  replace hl := hl.nw hs4
  replace va := va.nw hs4
  replace hm0 := hm0.tr hs4
  have hz2 := hs4.size
  replace vi : Var 23 H4 H3.size (c.map V8) := vi
  refine LR.z (Z.allocv rfl Tryd.zeroValue26) (Wd.u rfl) rfl rfl (fun v6 H6 r6 => ?_)
  obtain ⟨rfl, vr, hs6, ob6, hH6⟩ := r6
  have hzs6 : H6.size = H4.size + 1 := by rw [hH6]; simp
  have df8 := (DF.new (bf_mx.mono hm0.size) : DF _ (H4.size + 1))
  have df9 := (DF.new (bf_hl.mono hm0.size) : DF _ (H4.size + 1))
  have dj10 : Dj (H0.size + 1) (H4.size + 1) := Dj.new va.lt
  have dj11 : Dj (H3.size + 1) (H4.size + 1) := Dj.new vi.lt
  have nx12 : Nx 0 H0.size (H4.size + 1) := Nx.new hm0.size
  replace mx := mx.nw hs6
  replace hl := hl.nw hs6
  replace va := va.nw hs6
  replace vi := vi.nw hs6
  replace hm0 := hm0.tr hs6
  have hz3 := hs6.size
  refine LR.nil ?_
  refine hK1 _ _ ?_
  refine CW.seq (fun K2 hK2 hE2 => ?_)
  refine CW.region ?_
  refine LR.v (Y.loadN va.pt rfl Tryd.isAgg26 Tryd.sizeOf26 (fQ_len _) rfl) (Wd.u rfl) rfl rfl ?_
  -- call selvage/seq.own
  refine LR.call rfl Tryd.call23 rfl (Wd.u rfl) rfl rfl (own_ct x mx_ w0 _ mx (bf_mx.mono hm0.size) hl.any hw) (fun v9 H9 r9 => ?_)
  obtain ⟨s9, k9, rfl, ow, hk9, hs9⟩ := r9
  have df13 := DF.app (DF.z) (bf_mx.mono hm0.size) hk9
  have df14 := DF.app (DF.z) (bf_hl.mono hm0.size) hk9
  have dj15 : Dj (H0.size + 1) k9 := Dj.app (Dj.z) va.lt hk9
  have dj16 : Dj (H3.size + 1) k9 := Dj.app (Dj.z) vi.lt hk9
  have dj17 : Dj (H4.size + 1) k9 := Dj.app (Dj.z) vr.lt hk9
  have nx18 : Nx 0 H0.size k9 := Nx.tr (Nx.refl 0 _) hk9 hm0.size
  replace mx := mx.nw hs9
  replace hl := hl.nw hs9
  replace va := va.nw hs9
  replace vi := vi.nw hs9
  replace vr := vr.nw hs9
  replace hm0 := hm0.tr hs9
  have hz4 := hs9.size
  have hle_ow := ow.le
  obtain ⟨y, hy⟩ : ∃ y : Sq, y = ownF x s9 := ⟨_, rfl⟩
  rw [← hy] at ow ⊢
  refine LR.z (Z.allocv rfl Tryd.zeroValue26) (Wd.u rfl) rfl rfl (fun v7 H7 r7 => ?_)
  obtain ⟨rfl, vo, hs7, ob7, hH7⟩ := r7
  have hzs7 : H7.size = H9.size + 1 := by rw [hH7]; simp
  have df19 := (DF.new (bf_mx.mono hm0.size) : DF _ (H9.size + 1))
  have df20 := (DF.new (bf_hl.mono hm0.size) : DF _ (H9.size + 1))
  have dj21 : Dj (H0.size + 1) (H9.size + 1) := Dj.new va.lt
  have dj22 : Dj (H3.size + 1) (H9.size + 1) := Dj.new vi.lt
  have dj23 : Dj (H4.size + 1) (H9.size + 1) := Dj.new vr.lt
  have dj24 : Dj k9 (H9.size + 1) := Dj.new ow.le
  have nx25 : Nx 0 H0.size (H9.size + 1) := Nx.new hm0.size
  replace mx := mx.nw hs7
  replace hl := hl.nw hs7
  replace va := va.nw hs7
  replace vi := vi.nw hs7
  replace vr := vr.nw hs7
  replace ow := ow.nw hs7
  replace hm0 := hm0.tr hs7
  have hz5 := hs7.size
  refine LR.s (S.var vo (_) (fQ y) rfl rfl rfl rfl (fQ_one y) Tryd.sizeOf26 (fQ_len _) (by first | decide | simp [fQ_len]) ((splice_all2 (by first | exact (fQ_len _).symm | exact (fQ_len _).trans (fQ_len _).symm)))) (Wd.u rfl) rfl (fun H1_3 r1_3 => ?_)
  obtain ⟨vo, hs1_3⟩ := r1_3
  replace hs1_3 := hs1_3.md1
  replace mx := mx.upL hs1_3 (DFL.cons df19 DFL.nil)
  replace hl := hl.upL hs1_3 (DFL.cons df20 DFL.nil)
  replace va := va.upL hs1_3 (DL.cons dj21 DL.nil)
  replace vi := vi.upL hs1_3 (DL.cons dj22 DL.nil)
  replace vr := vr.upL hs1_3 (DL.cons dj23 DL.nil)
  replace ow := ow.upL hs1_3 (DL.cons dj24 DL.nil)
  replace hm0 := (Mo.trL (ks := []) (hm0.mdn []) hs1_3 (MIL.cons (MI.app MI.z (nx25) (Nat.le_refl _)) MIL.nil)).nil
  have hz6 := hs1_3.size
  refine LR.nil ?_
  refine hK2 _ _ ?_
  refine CW.seq (fun K3 hK3 hE3 => ?_)
  refine CW.seq (fun K4 hK4 hE4 => ?_)
  refine CW.region ?_
  refine LR.v (Y.fieldAddr vo.pt rfl Tryd.runUnderlying26 rfl rfl Tryd.sizeOf3 (by decide) rfl) (Wd.u rfl) rfl rfl ?_
  refine LR.v (Y.load1 vo.pt rfl Tryd.isAgg3 rfl) (Wd.u rfl) rfl rfl ?_
  refine LR.v (Y.eql rfl rfl rfl) (Wd.u rfl) rfl rfl ?_
  refine LR.v (Y.move rfl rfl) (Wd.u rfl) rfl rfl ?_
  refine LR.splitp (d := 13) rfl (fun g13 => ?_) (fun g13 => ?_)
  ·
    refine LR.gs rfl rfl rfl rfl rfl rfl ?_
    refine LR.gs rfl rfl rfl rfl rfl rfl ?_
    refine LR.gs rfl rfl rfl rfl rfl rfl ?_
    refine LR.gs rfl rfl rfl rfl rfl rfl ?_
    refine LR.gs rfl rfl rfl rfl rfl rfl ?_
    refine LR.gs rfl rfl rfl rfl rfl rfl ?_
    refine LR.gs rfl rfl rfl rfl rfl rfl ?_
    refine LR.v (Y.pick_t rfl rfl rfl) (Wd.u rfl) rfl rfl ?_
    refine LR.nil ?_
    refine hK4 _ _ ?_
    refine CW.cond_t rfl ?_
    refine CW.seq (fun K5 hK5 hE5 => ?_)
    refine CW.region ?_
    refine LR.v (Y.build (v := qv zQ) rfl rfl (by intro w; kernel_rfl)) (Wd.u rfl) rfl rfl ?_
    refine LR.s (S.var vr (_) (fQ zQ) rfl rfl rfl rfl (fQ_one zQ) Tryd.sizeOf26 (fQ_len _) (by first | decide | simp [fQ_len]) ((splice_all2 (by first | exact (fQ_len _).symm | exact (fQ_len _).trans (fQ_len _).symm)))) (Wd.u rfl) rfl (fun H3_1 r3_1 => ?_)
    obtain ⟨vr, hs3_1⟩ := r3_1
    replace hs3_1 := hs3_1.md1
    replace mx := mx.upL hs3_1 (DFL.cons df8 DFL.nil)
    replace hl := hl.upL hs3_1 (DFL.cons df9 DFL.nil)
    replace vi := vi.upL hs3_1 (DL.cons dj11 DL.nil)
    replace ow := ow.upL hs3_1 (DL.cons dj17.symm DL.nil)
    replace vo := vo.upL hs3_1 (DL.cons dj23.symm DL.nil)
    replace hm0 := (Mo.trL (ks := []) (hm0.mdn []) hs3_1 (MIL.cons (MI.app MI.z (nx12) (Nat.le_refl _)) MIL.nil)).nil
    have hz7 := hs3_1.size
    refine LR.nil ?_
    refine hK5 _ _ ?_
    refine CW.ret (hE3 .ret nofun _ _ (hret .ret (.inr rfl) _ _ _ (resC rfl rfl vr.pt Tryd.isAgg26 Tryd.sizeOf26 (fQ_len _)) ?_))
    exact ⟨⟨none, 0, 0⟩, 0, by first | (rw [did_no (.inl (own_k0 hy (by assumption)))]) | (rw [did_no (.inr (by rw [← eyd, ← eyt]; assumption))]), by first | (rw [did_no (.inl (own_k0 hy (by assumption)))]; exact zOw _) | (rw [did_no (.inr (by rw [← eyd, ← eyt]; assumption))]; exact zOw _), Nx.refl _ _, hm0⟩
  ·
    obtain ⟨h0, e⟩ := own_k1 hy g13
    obtain ⟨hk0, hs0, hd0, hd1, hm0_, hm1, hl100⟩ := chk0 h0
    have eyd : y.dn = x.dn := by rw [e]
    have eyt : y.td = x.td := by rw [e]
    have eym : y.md = x.md := by rw [e]
    refine LR.v (Y.fieldAddr vo.pt rfl Tryd.runUnderlying26 rfl rfl Tryd.sizeOf3 (by decide) rfl) (Wd.g rfl rfl rfl) rfl rfl ?_
    refine LR.v (Y.load1 vo.pt.q67 rfl Tryd.isAgg3 rfl) (Wd.g rfl rfl rfl) rfl rfl ?_
    refine LR.v (Y.addi rfl rfl rfl (by omega)) (Wd.g rfl rfl rfl) rfl rfl ?_
    refine LR.v (Y.fieldAddr vo.pt rfl Tryd.runUnderlying26 rfl rfl Tryd.sizeOf24 (by decide) rfl) (Wd.g rfl rfl rfl) rfl rfl ?_
    refine LR.v (Y.load1 vo.pt.q66 rfl Tryd.isAgg24 rfl) (Wd.g rfl rfl rfl) rfl rfl ?_
    refine LR.v (Y.len ow.rd rfl Tryd.runUnderlying24 rfl) (Wd.g rfl rfl rfl) rfl rfl ?_
    refine LR.v (Y.eql rfl rfl rfl) (Wd.g rfl rfl rfl) rfl rfl ?_
    refine LR.v (Y.pick_f rfl rfl rfl) (Wd.u rfl) rfl rfl ?_
    refine LR.nil ?_
    refine hK4 _ _ ?_
    refine CW.condp rfl (fun c21 => ?_) (fun c21 => ?_)
    ·
      refine CW.seq (fun K6 hK6 hE6 => ?_)
      refine CW.region ?_
      refine LR.v (Y.build (v := qv zQ) rfl rfl (by intro w; kernel_rfl)) (Wd.u rfl) rfl rfl ?_
      refine LR.s (S.var vr (_) (fQ zQ) rfl rfl rfl rfl (fQ_one zQ) Tryd.sizeOf26 (fQ_len _) (by first | decide | simp [fQ_len]) ((splice_all2 (by first | exact (fQ_len _).symm | exact (fQ_len _).trans (fQ_len _).symm)))) (Wd.u rfl) rfl (fun H3_1 r3_1 => ?_)
      obtain ⟨vr, hs3_1⟩ := r3_1
      replace hs3_1 := hs3_1.md1
      replace mx := mx.upL hs3_1 (DFL.cons df8 DFL.nil)
      replace hl := hl.upL hs3_1 (DFL.cons df9 DFL.nil)
      replace vi := vi.upL hs3_1 (DL.cons dj11 DL.nil)
      replace ow := ow.upL hs3_1 (DL.cons dj17.symm DL.nil)
      replace vo := vo.upL hs3_1 (DL.cons dj23.symm DL.nil)
      replace hm0 := (Mo.trL (ks := []) (hm0.mdn []) hs3_1 (MIL.cons (MI.app MI.z (nx12) (Nat.le_refl _)) MIL.nil)).nil
      have hz8 := hs3_1.size
      refine LR.nil ?_
      refine hK6 _ _ ?_
      refine CW.ret (hE3 .ret nofun _ _ (hret .ret (.inr rfl) _ _ _ (resC rfl rfl vr.pt Tryd.isAgg26 Tryd.sizeOf26 (fQ_len _)) ?_))
      exact ⟨⟨none, 0, 0⟩, 0, by first | (rw [did_no (.inl (own_k0 hy (by assumption)))]) | (rw [did_no (.inr (by rw [← eyd, ← eyt]; assumption))]), by first | (rw [did_no (.inl (own_k0 hy (by assumption)))]; exact zOw _) | (rw [did_no (.inr (by rw [← eyd, ← eyt]; assumption))]; exact zOw _), Nx.refl _ _, hm0⟩
    ·
      have hne : ¬ x.dn + 1 = x.td.length := by rw [← eyd, ← eyt]; exact c21
      refine CW.skip ?_
      refine hK3 _ _ ?_
      refine CW.seq (fun K7 hK7 hE7 => ?_)
      refine CW.region ?_
      refine LR.v (Y.fieldAddr vo.pt rfl Tryd.runUnderlying26 rfl rfl Tryd.sizeOf3 (by decide) rfl) (Wd.u rfl) rfl rfl ?_
      refine LR.v (Y.load1 vo.pt.q67 rfl Tryd.isAgg3 rfl) (Wd.u rfl) rfl rfl ?_
      refine LR.v (Y.addi rfl rfl rfl (by omega)) (Wd.u rfl) rfl rfl ?_
      refine LR.v (Y.fieldAddr vo.pt rfl Tryd.runUnderlying26 rfl rfl Tryd.sizeOf3 (by decide) rfl) (Wd.u rfl) rfl rfl ?_
      refine LR.s (S.var1 vo 67 (fQ { y with dn := y.dn + 1 }) rfl rfl rfl (rfl) Tryd.sizeOf3 (by simp [fQ_len]) (q_dn _ _)) (Wd.u rfl) rfl (fun H4_4 r4_4 => ?_)
      obtain ⟨vo, hs4_4⟩ := r4_4
      replace hs4_4 := hs4_4.md1
      replace mx := mx.upL hs4_4 (DFL.cons df19 DFL.nil)
      replace hl := hl.upL hs4_4 (DFL.cons df20 DFL.nil)
      replace vi := vi.upL hs4_4 (DL.cons dj22 DL.nil)
      replace vr := vr.upL hs4_4 (DL.cons dj23 DL.nil)
      replace ow := ow.upL hs4_4 (DL.cons dj24 DL.nil)
      replace hm0 := (Mo.trL (ks := []) (hm0.mdn []) hs4_4 (MIL.cons (MI.app MI.z (nx25) (Nat.le_refl _)) MIL.nil)).nil
      have hz9 := hs4_4.size
      refine LR.nil ?_
      refine hK7 _ _ ?_
      refine CW.seq (fun K8 hK8 hE8 => ?_)
      refine CW.region ?_
      refine LR.v (Y.cast (v2 := idV c) (Y.loadN vi.pt rfl Tryd.isAgg23 Tryd.sizeOf23 (by simp [hc]) rfl) (rfl)) (Wd.u rfl) rfl rfl ?_
      refine LR.v (Y.fieldAddr vo.pt rfl Tryd.runUnderlying26 rfl rfl Tryd.sizeOf23 (by decide) rfl) (Wd.u rfl) rfl rfl ?_
      refine LR.s (S.var vo (c.map V8) (fQ { y with dn := y.dn + 1, cu := c }) rfl rfl rfl rfl (by rw [← kc_eq hc]; exact kc_one c) Tryd.sizeOf23 (by simp [hc]) (by simp [fQ_len]) (by rw [← kc_eq hc]; exact q_cu _ c)) (Wd.u rfl) rfl (fun H5_2 r5_2 => ?_)
      obtain ⟨vo, hs5_2⟩ := r5_2
      replace hs5_2 := hs5_2.md1
      replace mx := mx.upL hs5_2 (DFL.cons df19 DFL.nil)
      replace hl := hl.upL hs5_2 (DFL.cons df20 DFL.nil)
      replace vi := vi.upL hs5_2 (DL.cons dj22 DL.nil)
      replace vr := vr.upL hs5_2 (DL.cons dj23 DL.nil)
      replace ow := ow.upL hs5_2 (DL.cons dj24 DL.nil)
      replace hm0 := (Mo.trL (ks := []) (hm0.mdn []) hs5_2 (MIL.cons (MI.app MI.z (nx25) (Nat.le_refl _)) MIL.nil)).nil
      have hz10 := hs5_2.size
      refine LR.nil ?_
      refine hK8 _ _ ?_
      refine CW.seq (fun K9 hK9 hE9 => ?_)
      refine CW.region ?_
      refine LR.v (Y.fieldAddr vo.pt rfl Tryd.runUnderlying26 rfl rfl Tryd.sizeOf4 (by decide) rfl) (Wd.u rfl) rfl rfl ?_
      refine LR.s (S.var1 vo 69 (fQ { y with dn := y.dn + 1, cu := c, st := false }) rfl rfl rfl (rfl) Tryd.sizeOf4 (by simp [fQ_len]) (q_st _ _)) (Wd.u rfl) rfl (fun H6_1 r6_1 => ?_)
      obtain ⟨vo, hs6_1⟩ := r6_1
      replace hs6_1 := hs6_1.md1
      replace mx := mx.upL hs6_1 (DFL.cons df19 DFL.nil)
      replace hl := hl.upL hs6_1 (DFL.cons df20 DFL.nil)
      replace vr := vr.upL hs6_1 (DL.cons dj23 DL.nil)
      replace ow := ow.upL hs6_1 (DL.cons dj24 DL.nil)
      replace hm0 := (Mo.trL (ks := []) (hm0.mdn []) hs6_1 (MIL.cons (MI.app MI.z (nx25) (Nat.le_refl _)) MIL.nil)).nil
      have hz11 := hs6_1.size
      refine LR.nil ?_
      refine hK9 _ _ ?_
      refine CW.seq (fun K10 hK10 hE10 => ?_)
      refine CW.seq (fun K11 hK11 hE11 => ?_)
      refine CW.region ?_
      refine LR.v (Y.move rfl rfl) (Wd.u rfl) rfl rfl ?_
      refine LR.nil ?_
      refine hK11 _ _ ?_
      refine CW.cond rfl (fun c30 => ?_) (fun c30 => ?_)
      ·
        refine CW.region ?_
        refine LR.v (Y.fieldAddr vo.pt rfl Tryd.runUnderlying26 rfl rfl Tryd.sizeOf3 (by decide) rfl) (Wd.u rfl) rfl rfl ?_
        refine LR.v (Y.cast (v2 := .int .i64 y.md) (Y.load1 (vo.pt.q67.drop 1) rfl Tryd.isAgg3 rfl) (rfl)) (Wd.u rfl) rfl rfl ?_
        refine LR.v (Y.addi rfl rfl rfl (by omega)) (Wd.u rfl) rfl rfl ?_
        refine LR.v (Y.fieldAddr vo.pt rfl Tryd.runUnderlying26 rfl rfl Tryd.sizeOf3 (by decide) rfl) (Wd.u rfl) rfl rfl ?_
        refine LR.s (S.var1 vo 68 (fQ { y with dn := y.dn + 1, cu := c, st := false, md := y.md + 1 }) rfl rfl rfl (rfl) Tryd.sizeOf3 (by simp [fQ_len]) (q_md _ _)) (Wd.u rfl) rfl (fun H8_4 r8_4 => ?_)
        obtain ⟨vo, hs8_4⟩ := r8_4
        replace hs8_4 := hs8_4.md1
        replace mx := mx.upL hs8_4 (DFL.cons df19 DFL.nil)
        replace hl := hl.upL hs8_4 (DFL.cons df20 DFL.nil)
        replace vr := vr.upL hs8_4 (DL.cons dj23 DL.nil)
        replace ow := ow.upL hs8_4 (DL.cons dj24 DL.nil)
        replace hm0 := (Mo.trL (ks := []) (hm0.mdn []) hs8_4 (MIL.cons (MI.app MI.z (nx25) (Nat.le_refl _)) MIL.nil)).nil
        have hz12 := hs8_4.size
        refine LR.nil ?_
        refine hK10 _ _ ?_
        refine CW.seq (fun K12 hK12 hE12 => ?_)
        refine CW.region ?_
        obtain ⟨y1, hy1, vo⟩ : ∃ y1 : Sq, y1 = didF x c m s9 ∧ Var 26 _ _ (fQ y1) := ⟨_, by first | (exact did_t h0 hne e (by assumption)) | (exact did_f h0 hne e (by simpa using c_m)), vo⟩
        refine LR.v (Y.loadN vo.pt rfl Tryd.isAgg26 Tryd.sizeOf26 (fQ_len _) rfl) (Wd.u rfl) rfl rfl ?_
        refine LR.s (S.var vr (_) (fQ y1) rfl rfl rfl rfl (fQ_one y1) Tryd.sizeOf26 (fQ_len _) (by first | decide | simp [fQ_len]) ((splice_all2 (by first | exact (fQ_len _).symm | exact (fQ_len _).trans (fQ_len _).symm)))) (Wd.u rfl) rfl (fun H9_1 r9_1 => ?_)
        obtain ⟨vr, hs9_1⟩ := r9_1
        replace hs9_1 := hs9_1.md1
        replace mx := mx.upL hs9_1 (DFL.cons df8 DFL.nil)
        replace hl := hl.upL hs9_1 (DFL.cons df9 DFL.nil)
        replace ow := ow.upL hs9_1 (DL.cons dj17.symm DL.nil)
        replace vo := vo.upL hs9_1 (DL.cons dj23.symm DL.nil)
        replace hm0 := (Mo.trL (ks := []) (hm0.mdn []) hs9_1 (MIL.cons (MI.app MI.z (nx12) (Nat.le_refl _)) MIL.nil)).nil
        have hz13 := hs9_1.size
        refine LR.nil ?_
        refine hK12 _ _ ?_
        refine CW.ret (hret .ret (.inr rfl) _ _ _ (resC rfl rfl vr.pt Tryd.isAgg26 Tryd.sizeOf26 (fQ_len _)) ?_)
        exact ⟨s9, k9, by rw [hy1], did_ow c m h0 hne e ow, nx18, hm0⟩
      ·
        have c_m : m = false := by simpa using c30
        refine CW.skip ?_
        refine hK10 _ _ ?_
        refine CW.seq (fun K13 hK13 hE13 => ?_)
        refine CW.region ?_
        obtain ⟨y1, hy1, vo⟩ : ∃ y1 : Sq, y1 = didF x c m s9 ∧ Var 26 _ _ (fQ y1) := ⟨_, by first | (exact did_t h0 hne e (by assumption)) | (exact did_f h0 hne e (by simpa using c_m)), vo⟩
        refine LR.v (Y.loadN vo.pt rfl Tryd.isAgg26 Tryd.sizeOf26 (fQ_len _) rfl) (Wd.u rfl) rfl rfl ?_
        refine LR.s (S.var vr (_) (fQ y1) rfl rfl rfl rfl (fQ_one y1) Tryd.sizeOf26 (fQ_len _) (by first | decide | simp [fQ_len]) ((splice_all2 (by first | exact (fQ_len _).symm | exact (fQ_len _).trans (fQ_len _).symm)))) (Wd.u rfl) rfl (fun H9_1 r9_1 => ?_)
        obtain ⟨vr, hs9_1⟩ := r9_1
        replace hs9_1 := hs9_1.md1
        replace mx := mx.upL hs9_1 (DFL.cons df8 DFL.nil)
        replace hl := hl.upL hs9_1 (DFL.cons df9 DFL.nil)
        replace ow := ow.upL hs9_1 (DL.cons dj17.symm DL.nil)
        replace vo := vo.upL hs9_1 (DL.cons dj23.symm DL.nil)
        replace hm0 := (Mo.trL (ks := []) (hm0.mdn []) hs9_1 (MIL.cons (MI.app MI.z (nx12) (Nat.le_refl _)) MIL.nil)).nil
        have hz14 := hs9_1.size
        refine LR.nil ?_
        refine hK13 _ _ ?_
        refine CW.ret (hret .ret (.inr rfl) _ _ _ (resC rfl rfl vr.pt Tryd.isAgg26 Tryd.sizeOf26 (fQ_len _)) ?_)
        exact ⟨s9, k9, by rw [hy1], did_ow c m h0 hne e ow, nx18, hm0⟩

theorem stop_ct (x : Sq) (mx_ : Int) (w0 : World) (H0 : Heap)
    (mx : MX mx_ H0) (bf_mx : BF (fun b => b = 0) H0.size) (hl : RdT H0 fT 33 x.tv.v x.td) (hw : SqW x) :
    Ct Tryd.prog w0 14 #[qv x] H0 (fun r H2 => ∃ s : SV, ∃ k : Nat, r = qv (stopF x s) ∧ (Ow k 29 H2 fT 33 (stopF x s).tv.v (stopF x s).td) ∧ (Nx 0 H0.size k) ∧ Nw H0 H2) := by
  refine Ct.enter (args := [qv x]) Tryd.func14 rfl rfl rfl ?_
  intro Q0 hret
  have hm0 : Nw H0 H0 := Mo.refl _ _
  replace hl := hl.bnd
  have bf_hl := Rd.bf hl
  have hll := hl.len
  refine CW.seq (fun K1 hK1 hE1 => ?_)
  refine CW.region ?_
  refine LR.z (Z.boxv rfl rfl) (Wd.u rfl) rfl rfl (fun v1 H1 r1 => ?_)
  obtain ⟨rfl, va, hs1, ob1, hH1⟩ := r1
  have hzs1 : H1.size = H0.size + 1 := by rw [hH1]; simp
  have df1 := (DF.new (bf_mx.mono hm0.size) : DF _ (H0.size + 1))
  have df2 := (DF.new (bf_hl.mono hm0.size) : DF _ (H0.size + 1))
  have nx3 : Nx 0 H0.size (H0.size + 1) := Nx.new hm0.size
  replace mx := mx.nw hs1
  replace hl := hl.nw hs1
  replace hm0 := hm0.tr hs1
  have hz1 := hs1.size
  replace va : Var 26 H1 H0.size (fQ x) := va
  refine LR.z (Z.allocv rfl Tryd.zeroValue26) (Wd.u rfl) rfl rfl (fun v2 H2 r2 => ?_)
  obtain ⟨rfl, vr, hs2, ob2, hH2⟩ := r2
  have hzs2 : H2.size = H1.size + 1 := by rw [hH2]; simp
  have df4 := (DF.new (bf_mx.mono hm0.size) : DF _ (H1.size + 1))
  have df5 := (DF.new (bf_hl.mono hm0.size) : DF _ (H1.size + 1))
  have dj6 : Dj (H0.size + 1) (H1.size + 1) := Dj.new va.lt
  have nx7 : Nx 0 H0.size (H1.size + 1) := Nx.new hm0.size
  replace mx := mx.nw hs2
  replace hl := hl.nw hs2
  replace va := va.nw hs2
  replace hm0 := hm0.tr hs2
  have hz2 := hs2.size
  refine LR.nil ?_
  refine hK1 _ _ ?_
  refine CW.seq (fun K2 hK2 hE2 => ?_)
  refine CW.region ?_
  refine LR.v (Y.loadN va.pt rfl Tryd.isAgg26 Tryd.sizeOf26 (fQ_len _) rfl) (Wd.u rfl) rfl rfl ?_
  -- call selvage/seq.own
  refine LR.call rfl Tryd.call23 rfl (Wd.u rfl) rfl rfl (own_ct x mx_ w0 _ mx (bf_mx.mono hm0.size) hl.any hw) (fun v5 H5 r5 => ?_)
  obtain ⟨s5, k5, rfl, ow, hk5, hs5⟩ := r5
  have df8 := DF.app (DF.z) (bf_mx.mono hm0.size) hk5
  have df9 := DF.app (DF.z) (bf_hl.mono hm0.size) hk5
  have dj10 : Dj (H0.size + 1) k5 := Dj.app (Dj.z) va.lt hk5
  have dj11 : Dj (H1.size + 1) k5 := Dj.app (Dj.z) vr.lt hk5
  have nx12 : Nx 0 H0.size k5 := Nx.tr (Nx.refl 0 _) hk5 hm0.size
  replace mx := mx.nw hs5
  replace hl := hl.nw hs5
  replace va := va.nw hs5
  replace vr := vr.nw hs5
  replace hm0 := hm0.tr hs5
  have hz3 := hs5.size
  have hle_ow := ow.le
  obtain ⟨y, hy⟩ : ∃ y : Sq, y = ownF x s5 := ⟨_, rfl⟩
  rw [← hy] at ow ⊢
  refine LR.z (Z.allocv rfl Tryd.zeroValue26) (Wd.u rfl) rfl rfl (fun v3 H3 r3 => ?_)
  obtain ⟨rfl, vo, hs3, ob3, hH3⟩ := r3
  have hzs3 : H3.size = H5.size + 1 := by rw [hH3]; simp
  have df13 := (DF.new (bf_mx.mono hm0.size) : DF _ (H5.size + 1))
  have df14 := (DF.new (bf_hl.mono hm0.size) : DF _ (H5.size + 1))
  have dj15 : Dj (H0.size + 1) (H5.size + 1) := Dj.new va.lt
  have dj16 : Dj (H1.size + 1) (H5.size + 1) := Dj.new vr.lt
  have dj17 : Dj k5 (H5.size + 1) := Dj.new ow.le
  have nx18 : Nx 0 H0.size (H5.size + 1) := Nx.new hm0.size
  replace mx := mx.nw hs3
  replace hl := hl.nw hs3
  replace va := va.nw hs3
  replace vr := vr.nw hs3
  replace ow := ow.nw hs3
  replace hm0 := hm0.tr hs3
  have hz4 := hs3.size
  refine LR.s (S.var vo (_) (fQ y) rfl rfl rfl rfl (fQ_one y) Tryd.sizeOf26 (fQ_len _) (by first | decide | simp [fQ_len]) ((splice_all2 (by first | exact (fQ_len _).symm | exact (fQ_len _).trans (fQ_len _).symm)))) (Wd.u rfl) rfl (fun H1_3 r1_3 => ?_)
  obtain ⟨vo, hs1_3⟩ := r1_3
  replace hs1_3 := hs1_3.md1
  replace mx := mx.upL hs1_3 (DFL.cons df13 DFL.nil)
  replace hl := hl.upL hs1_3 (DFL.cons df14 DFL.nil)
  replace va := va.upL hs1_3 (DL.cons dj15 DL.nil)
  replace vr := vr.upL hs1_3 (DL.cons dj16 DL.nil)
  replace ow := ow.upL hs1_3 (DL.cons dj17 DL.nil)
  replace hm0 := (Mo.trL (ks := []) (hm0.mdn []) hs1_3 (MIL.cons (MI.app MI.z (nx18) (Nat.le_refl _)) MIL.nil)).nil
  have hz5 := hs1_3.size
  refine LR.nil ?_
  refine hK2 _ _ ?_
  refine CW.seq (fun K3 hK3 hE3 => ?_)
  refine CW.region ?_
  refine LR.v (Y.fieldAddr vo.pt rfl Tryd.runUnderlying26 rfl rfl Tryd.sizeOf3 (by decide) rfl) (Wd.u rfl) rfl rfl ?_
  refine LR.v (Y.load1 vo.pt rfl Tryd.isAgg3 rfl) (Wd.u rfl) rfl rfl ?_
  refine LR.v (Y.neq rfl rfl rfl) (Wd.u rfl) rfl rfl ?_
  refine LR.v (Y.fieldAddr vo.pt rfl Tryd.runUnderlying26 rfl rfl Tryd.sizeOf4 (by decide) rfl) (Wd.u rfl) rfl rfl ?_
  refine LR.s (S.var1 vo 69 (fQ { y with st := decide (y.k ≠ 0) }) rfl rfl rfl (rfl) Tryd.sizeOf4 (by simp [fQ_len]) (q_st _ _)) (Wd.u rfl) rfl (fun H2_4 r2_4 => ?_)
  obtain ⟨vo, hs2_4⟩ := r2_4
  replace hs2_4 := hs2_4.md1
  replace mx := mx.upL hs2_4 (DFL.cons df13 DFL.nil)
  replace hl := hl.upL hs2_4 (DFL.cons df14 DFL.nil)
  replace vr := vr.upL hs2_4 (DL.cons dj16 DL.nil)
  replace ow := ow.upL hs2_4 (DL.cons dj17 DL.nil)
  replace hm0 := (Mo.trL (ks := []) (hm0.mdn []) hs2_4 (MIL.cons (MI.app MI.z (nx18) (Nat.le_refl _)) MIL.nil)).nil
  have hz6 := hs2_4.size
  refine LR.nil ?_
  refine hK3 _ _ ?_
  refine CW.seq (fun K4 hK4 hE4 => ?_)
  refine CW.region ?_
  refine LR.v (Y.loadN vo.pt rfl Tryd.isAgg26 Tryd.sizeOf26 (fQ_len _) rfl) (Wd.u rfl) rfl rfl ?_
  refine LR.s (S.var vr (_) (fQ { y with st := decide (y.k ≠ 0) }) rfl rfl rfl rfl (fQ_one { y with st := decide (y.k ≠ 0) }) Tryd.sizeOf26 (fQ_len _) (by first | decide | simp [fQ_len]) ((splice_all2 (by first | exact (fQ_len _).symm | exact (fQ_len _).trans (fQ_len _).symm)))) (Wd.u rfl) rfl (fun H3_1 r3_1 => ?_)
  obtain ⟨vr, hs3_1⟩ := r3_1
  replace hs3_1 := hs3_1.md1
  replace mx := mx.upL hs3_1 (DFL.cons df4 DFL.nil)
  replace hl := hl.upL hs3_1 (DFL.cons df5 DFL.nil)
  replace ow := ow.upL hs3_1 (DL.cons dj11.symm DL.nil)
  replace vo := vo.upL hs3_1 (DL.cons dj16.symm DL.nil)
  replace hm0 := (Mo.trL (ks := []) (hm0.mdn []) hs3_1 (MIL.cons (MI.app MI.z (nx7) (Nat.le_refl _)) MIL.nil)).nil
  have hz7 := hs3_1.size
  refine LR.nil ?_
  refine hK4 _ _ ?_
  refine CW.ret (hret .ret (.inr rfl) _ _ _ (resC rfl rfl vr.pt Tryd.isAgg26 Tryd.sizeOf26 (fQ_len _)) ?_)
  exact ⟨s5, k5, by rw [own_st hy], stop_ow hy ow, nx12, hm0⟩

theorem skip_ct (x : Sq) (mx_ : Int) (w0 : World) (H0 : Heap)
    (mx : MX mx_ H0) (bf_mx : BF (fun b => b = 0) H0.size) (hl : RdT H0 fT 33 x.tv.v x.td) (hw : SqW x) :
    Ct Tryd.prog w0 16 #[qv x] H0 (fun r H2 => ∃ s : SV, ∃ k : Nat, r = qv (didF x x.cu false s) ∧ (Ow k 29 H2 fT 33 (didF x x.cu false s).tv.v (didF x x.cu false s).td) ∧ (Nx 0 H0.size k) ∧ Nw H0 H2) := by
  refine Ct.enter (args := [qv x]) Tryd.func16 rfl rfl rfl ?_
  intro Q0 hret
  have hm0 : Nw H0 H0 := Mo.refl _ _
  replace hl := hl.bnd
  have bf_hl := Rd.bf hl
  have hll := hl.len
  refine CW.seq (fun K1 hK1 hE1 => ?_)
  refine CW.region ?_
  refine LR.z (Z.boxv rfl rfl) (Wd.u rfl) rfl rfl (fun v1 H1 r1 => ?_)
  obtain ⟨rfl, va, hs1, ob1, hH1⟩ := r1
  have hzs1 : H1.size = H0.size + 1 := by rw [hH1]; simp
  have df1 := (DF.new (bf_mx.mono hm0.size) : DF _ (H0.size + 1))
  have df2 := (DF.new (bf_hl.mono hm0.size) : DF _ (H0.size + 1))
  have nx3 : Nx 0 H0.size (H0.size + 1) := Nx.new hm0.size
  replace mx := mx.nw hs1
  replace hl := hl.nw hs1
  replace hm0 := hm0.tr hs1
  have hz1 := hs1.size
  replace va : Var 26 H1 H0.size (fQ x) := va
  refine LR.z (Z.allocv rfl Tryd.zeroValue26) (Wd.u rfl) rfl rfl (fun v2 H2 r2 => ?_)
  obtain ⟨rfl, vr, hs2, ob2, hH2⟩ := r2
  have hzs2 : H2.size = H1.size + 1 := by rw [hH2]; simp
  have df4 := (DF.new (bf_mx.mono hm0.size) : DF _ (H1.size + 1))
  have df5 := (DF.new (bf_hl.mono hm0.size) : DF _ (H1.size + 1))
  have dj6 : Dj (H0.size + 1) (H1.size + 1) := Dj.new va.lt
  have nx7 : Nx 0 H0.size (H1.size + 1) := Nx.new hm0.size
  replace mx := mx.nw hs2
  replace hl := hl.nw hs2
  replace va := va.nw hs2
  replace hm0 := hm0.tr hs2
  have hz2 := hs2.size
  refine LR.nil ?_
  refine hK1 _ _ ?_
  refine CW.seq (fun K2 hK2 hE2 => ?_)
  refine CW.region ?_
  refine LR.v (Y.loadN va.pt rfl Tryd.isAgg26 Tryd.sizeOf26 (fQ_len _) rfl) (Wd.u rfl) rfl rfl ?_
  refine LR.v (Y.fieldAddr va.pt rfl Tryd.runUnderlying26 rfl rfl Tryd.sizeOf23 (by decide) rfl) (Wd.u rfl) rfl rfl ?_
  refine LR.v (Y.cast (v2 := idV x.cu) (Y.loadN ((va.pt.drop 34).take 32) rfl Tryd.isAgg23 Tryd.sizeOf23 (by simp [fQ_len]) rfl) (congrArg (fun z : List Value => Value.agg z.toArray) ((fQ_cu _).trans (kc_eq hw.hc)))) (Wd.u rfl) rfl rfl ?_
  -- call selvage/seq.Did
  refine LR.call rfl Tryd.call12 rfl (Wd.u rfl) rfl rfl (did_ct x x.cu false mx_ w0 _ mx (bf_mx.mono hm0.size) hl.any hw hw.hc) (fun v6 H6 r6 => ?_)
  obtain ⟨s6, k6, rfl, ow, hk6, hs6⟩ := r6
  have df8 := DF.app (DF.z) (bf_mx.mono hm0.size) hk6
  have df9 := DF.app (DF.z) (bf_hl.mono hm0.size) hk6
  have dj10 : Dj (H0.size + 1) k6 := Dj.app (Dj.z) va.lt hk6
  have dj11 : Dj (H1.size + 1) k6 := Dj.app (Dj.z) vr.lt hk6
  have nx12 : Nx 0 H0.size k6 := Nx.tr (Nx.refl 0 _) hk6 hm0.size
  replace mx := mx.nw hs6
  replace hl := hl.nw hs6
  replace va := va.nw hs6
  replace vr := vr.nw hs6
  replace hm0 := hm0.tr hs6
  have hz3 := hs6.size
  have hle_ow := ow.le
  refine LR.s (S.var vr (_) (fQ (didF x x.cu false s6)) rfl rfl rfl rfl (fQ_one (didF x x.cu false s6)) Tryd.sizeOf26 (fQ_len _) (by first | decide | simp [fQ_len]) ((splice_all2 (by first | exact (fQ_len _).symm | exact (fQ_len _).trans (fQ_len _).symm)))) (Wd.u rfl) rfl (fun H1_4 r1_4 => ?_)
  obtain ⟨vr, hs1_4⟩ := r1_4
  replace hs1_4 := hs1_4.md1
  replace mx := mx.upL hs1_4 (DFL.cons df4 DFL.nil)
  replace hl := hl.upL hs1_4 (DFL.cons df5 DFL.nil)
  replace va := va.upL hs1_4 (DL.cons dj6 DL.nil)
  replace ow := ow.upL hs1_4 (DL.cons dj11.symm DL.nil)
  replace hm0 := (Mo.trL (ks := []) (hm0.mdn []) hs1_4 (MIL.cons (MI.app MI.z (nx7) (Nat.le_refl _)) MIL.nil)).nil
  have hz4 := hs1_4.size
  refine LR.nil ?_
  refine hK2 _ _ ?_
  refine CW.ret (hret .ret (.inr rfl) _ _ _ (resC rfl rfl vr.pt Tryd.isAgg26 Tryd.sizeOf26 (fQ_len _)) ?_)
  exact ⟨s6, k6, rfl, ow, nx12, hm0⟩

end Go.Proofs.YtabopjdbgkhacaaDoor.SeqJ
