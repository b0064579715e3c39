/-
  Sequences: each call answers as the document says.
-/
import Derived.Test.YtabopjdbgkhacaaDoorSeqL
namespace Go.Proofs.YtabopjdbgkhacaaDoor.SeqM
open Go.Proofs.YtabopjdbgkhacaaDoor.E Go.RowKit Go.Proofs.YtabopjdbgkhacaaDoor.NamA Go.Proofs.YtabopjdbgkhacaaDoor.NamB Go.Proofs.YtabopjdbgkhacaaDoor.NamC Go.Proofs.YtabopjdbgkhacaaDoor.NamD Go.Proofs.YtabopjdbgkhacaaDoor.SeqA Go.Proofs.YtabopjdbgkhacaaDoor.SeqB Go.Proofs.YtabopjdbgkhacaaDoor.SeqC Go.Proofs.YtabopjdbgkhacaaDoor.SeqD Go.Proofs.YtabopjdbgkhacaaDoor.SeqE Go.Proofs.YtabopjdbgkhacaaDoor.SeqF Go.Proofs.YtabopjdbgkhacaaDoor.SeqG Go.Proofs.YtabopjdbgkhacaaDoor.SeqH Go.Proofs.YtabopjdbgkhacaaDoor.SeqI Go.Proofs.YtabopjdbgkhacaaDoor.SeqJ Go.Proofs.YtabopjdbgkhacaaDoor.SeqK Go.Proofs.YtabopjdbgkhacaaDoor.SeqL Go.Proofs.YtabopjdbgkhacaaDoor.Num
set_option maxRecDepth 20000
set_option linter.unusedVariables false
set_option linter.unusedSimpArgs false
set_option linter.unusedSectionVars false
set_option maxRecDepth 100000 in
theorem inf24 : Inf Tryd.prog 24 29 33 40 := ⟨Tryd.underlying24, _, _, rfl, rfl, rfl, rfl, rfl⟩

theorem chk_tv (x : Sq) (s : SV) : sqChk { x with tv := s } = sqChk x := rfl
theorem next_tv (x : Sq) (s : SV) : nextF { x with tv := s } = nextF x := rfl
theorem same_self (x : Sq) (s : SV) : sameB x { x with tv := s } = true := by simp [sameB, SqSame]
theorem did_same (x : Sq) (s0 s s' : SV) (c : List UInt8) (m : Bool) : sameB (didF { x with tv := s0 } c m s) (didF x c m s') = true := by
  by_cases h : sqChk x ≠ 0 ∨ x.dn + 1 = x.td.length
  · rw [did_no h, did_no (show sqChk { x with tv := s0 } ≠ 0 ∨ _ from h)]; simp [sameB, SqSame]
  · unfold didF; rw [if_neg h, if_neg (show ¬ (sqChk { x with tv := s0 } ≠ 0 ∨ _) from h)]; simp [sameB, SqSame]
theorem stop_same (x : Sq) (s0 s s' : SV) : sameB (stopF { x with tv := s0 } s) (stopF x s') = true := by
  by_cases h : sqChk x = 0
  · rw [stop_ok h, stop_ok (show sqChk { x with tv := s0 } = 0 from h)]; simp [sameB, SqSame]
  · rw [stop_no h, stop_no (show sqChk { x with tv := s0 } ≠ 0 from h)]; simp [sameB, SqSame]
theorem ow_tv {x z : Sq} {s : SV} {H : Heap} {k : Nat} (ez : z = { x with tv := s }) (h : Ow k 29 H fT 33 s.v ([] ++ x.td)) : Ow k 29 H fT 33 z.tv.v z.td := by
  subst ez; simpa using h
theorem next_w {x : Sq} (h : SqW x) : (nextF x).1.i.length = 32 := by
  by_cases h0 : sqChk x = 0
  · have hi : x.dn.toNat < x.td.length := by obtain ⟨_, _, h1, h2, _⟩ := chk0 h0; omega
    have := h.ht x.td[x.dn.toNat] (List.getElem_mem hi)
    rw [next_ok h0 hi]; simp only; split <;> exact this
  · rw [next_no h0]; simp [zT]

set_option maxHeartbeats 4000000 in
theorem steps_ct (x y : Sq) (c : List UInt8) (m : Bool) (mx_ : Int) (w0 : World) (H0 : Heap)
    (mx : MX mx_ H0) (bf_mx : BF (fun b => b = 0) H0.size) (hl : RdT H0 fT 33 x.tv.v x.td) (hw : SqW x) (hc : c.length = 32) (hl2 : RdT H0 fT 33 y.tv.v y.td) (hw2 : SqW y) :
    Ct Tryd.prog w0 3 #[qv x, idV c, .bool m, qv y] H0 (fun r H2 => r = .bool true ∧ Nw H0 H2) := by
  refine Ct.enter (args := [qv x, idV c, .bool m, qv y]) Tryd.func3 rfl rfl rfl ?_
  intro Q0 hret
  have hm0 : Nw H0 H0 := Mo.refl _ _
  replace hl := hl.bnd
  have bf_hl := Rd.bf hl
  replace hl2 := hl2.bnd
  have bf_hl2 := Rd.bf hl2
  have hll := hl.len
  have hll2 := hl2.len
  refine CW.seq (fun K1 hK1 hE1 => ?_)
  refine CW.region ?_
  refine LR.z (Z.boxv rfl rfl) (Wd.u rfl) rfl rfl (fun v4 H4 r4 => ?_)
  obtain ⟨rfl, vx, hs4, ob4, hH4⟩ := r4
  have hzs4 : H4.size = H0.size + 1 := by rw [hH4]; simp
  have df1 := (DF.new (bf_mx.mono hm0.size) : DF _ (H0.size + 1))
  have df2 := (DF.new (bf_hl.mono hm0.size) : DF _ (H0.size + 1))
  have df3 := (DF.new (bf_hl2.mono hm0.size) : DF _ (H0.size + 1))
  have nx4 : Nx 0 H0.size (H0.size + 1) := Nx.new hm0.size
  replace mx := mx.nw hs4
  replace hl := hl.nw hs4
  replace hl2 := hl2.nw hs4
  replace hm0 := hm0.tr hs4
  have hz1 := hs4.size
  replace vx : Var 26 H4 H0.size (fQ x) := vx
  refine LR.z (Z.boxv rfl rfl) (Wd.u rfl) rfl rfl (fun v5 H5 r5 => ?_)
  obtain ⟨rfl, vi, hs5, ob5, hH5⟩ := r5
  have hzs5 : H5.size = H4.size + 1 := by rw [hH5]; simp
  have df5 := (DF.new (bf_mx.mono hm0.size) : DF _ (H4.size + 1))
  have df6 := (DF.new (bf_hl.mono hm0.size) : DF _ (H4.size + 1))
  have df7 := (DF.new (bf_hl2.mono hm0.size) : DF _ (H4.size + 1))
  have dj8 : Dj (H0.size + 1) (H4.size + 1) := Dj.new vx.lt
  have nx9 : Nx 0 H0.size (H4.size + 1) := Nx.new hm0.size
  replace mx := mx.nw hs5
  replace hl := hl.nw hs5
  replace hl2 := hl2.nw hs5
  replace vx := vx.nw hs5
  replace hm0 := hm0.tr hs5
  have hz2 := hs5.size
  replace vi : Var 23 H5 H4.size (c.map V8) := vi
  refine LR.z (Z.boxv rfl rfl) (Wd.u rfl) rfl rfl (fun v7 H7 r7 => ?_)
  obtain ⟨rfl, vy, hs7, ob7, hH7⟩ := r7
  have hzs7 : H7.size = H5.size + 1 := by rw [hH7]; simp
  have df10 := (DF.new (bf_mx.mono hm0.size) : DF _ (H5.size + 1))
  have df11 := (DF.new (bf_hl.mono hm0.size) : DF _ (H5.size + 1))
  have df12 := (DF.new (bf_hl2.mono hm0.size) : DF _ (H5.size + 1))
  have dj13 : Dj (H0.size + 1) (H5.size + 1) := Dj.new vx.lt
  have dj14 : Dj (H4.size + 1) (H5.size + 1) := Dj.new vi.lt
  have nx15 : Nx 0 H0.size (H5.size + 1) := Nx.new hm0.size
  replace mx := mx.nw hs7
  replace hl := hl.nw hs7
  replace hl2 := hl2.nw hs7
  replace vx := vx.nw hs7
  replace vi := vi.nw hs7
  replace hm0 := hm0.tr hs7
  have hz3 := hs7.size
  replace vy : Var 26 H7 H5.size (fQ y) := vy
  refine LR.v (Y.assign rfl rfl) (Wd.u rfl) rfl rfl ?_
  refine LR.nil ?_
  refine hK1 _ _ ?_
  refine CW.seq (fun K2 hK2 hE2 => ?_)
  refine CW.seq (fun K3 hK3 hE3 => ?_)
  refine CW.region ?_
  -- call selvage/selvagelaw20.known
  refine LR.call rfl Tryd.call5 rfl (Wd.u rfl) rfl rfl (known_ct mx_ w0 _ mx (bf_mx.mono hm0.size)) (fun v14 H14 r14 => ?_)
  obtain ⟨rfl, hs14⟩ := r14
  replace mx := mx.nw hs14
  replace hl := hl.nw hs14
  replace hl2 := hl2.nw hs14
  replace vx := vx.nw hs14
  replace vi := vi.nw hs14
  replace vy := vy.nw hs14
  replace hm0 := hm0.tr hs14
  have hz4 := hs14.size
  refine LR.v (Y.not rfl rfl) (Wd.u rfl) rfl rfl ?_
  refine LR.nil ?_
  refine hK3 _ _ ?_
  refine CW.cond_f rfl ?_
  refine CW.skip ?_
  refine hK2 _ _ ?_
  refine CW.seq (fun K4 hK4 hE4 => ?_)
  refine CW.seq (fun K5 hK5 hE5 => ?_)
  refine CW.region ?_
  refine LR.v (Y.fieldAddr vx.pt rfl Tryd.runUnderlying26 rfl rfl Tryd.sizeOf24 (by decide) rfl) (Wd.u rfl) rfl rfl ?_
  refine LR.v (Y.load1 vx.pt.q66 rfl Tryd.isAgg24 rfl) (Wd.u rfl) rfl rfl ?_
  refine LR.v (Y.len hl rfl Tryd.runUnderlying24 rfl) (Wd.u rfl) rfl rfl ?_
  refine LR.v (Y.gtr rfl rfl rfl) (Wd.u rfl) rfl rfl ?_
  refine LR.v (Y.move rfl rfl) (Wd.u rfl) rfl rfl ?_
  refine LR.splitp (d := 20) rfl (fun g20 => ?_) (fun g20 => ?_)
  ·
    refine LR.gs rfl rfl rfl rfl rfl rfl ?_
    refine LR.gs rfl rfl rfl rfl rfl rfl ?_
    refine LR.gs rfl rfl rfl rfl rfl rfl ?_
    refine LR.gs rfl rfl rfl rfl rfl rfl ?_
    refine LR.v (Y.pick_t rfl rfl rfl) (Wd.u rfl) rfl rfl ?_
    refine LR.nil ?_
    refine hK5 _ _ ?_
    refine CW.cond_t rfl ?_
    refine CW.seq (fun K6 hK6 hE6 => ?_)
    refine CW.region ?_
    refine LR.v (Y.assign rfl rfl) (Wd.u rfl) rfl rfl ?_
    refine LR.nil ?_
    refine hK6 _ _ ?_
    refine CW.ret (hE4 .ret nofun _ _ (hret .ret (.inr rfl) _ _ _ (res1 rfl rfl) ?_))
    exact ⟨rfl, hm0⟩
  ·
    refine LR.v (Y.fieldAddr vy.pt rfl Tryd.runUnderlying26 rfl rfl Tryd.sizeOf24 (by decide) rfl) (Wd.g rfl rfl rfl) rfl rfl ?_
    refine LR.v (Y.load1 vy.pt.q66 rfl Tryd.isAgg24 rfl) (Wd.g rfl rfl rfl) rfl rfl ?_
    refine LR.v (Y.len hl2 rfl Tryd.runUnderlying24 rfl) (Wd.g rfl rfl rfl) rfl rfl ?_
    refine LR.v (Y.gtr rfl rfl rfl) (Wd.g rfl rfl rfl) rfl rfl ?_
    refine LR.v (Y.pick_f rfl rfl rfl) (Wd.u rfl) rfl rfl ?_
    refine LR.nil ?_
    refine hK5 _ _ ?_
    refine CW.condp rfl (fun c25 => ?_) (fun c25 => ?_)
    ·
      refine CW.seq (fun K7 hK7 hE7 => ?_)
      refine CW.region ?_
      refine LR.v (Y.assign rfl rfl) (Wd.u rfl) rfl rfl ?_
      refine LR.nil ?_
      refine hK7 _ _ ?_
      refine CW.ret (hE4 .ret nofun _ _ (hret .ret (.inr rfl) _ _ _ (res1 rfl rfl) ?_))
      exact ⟨rfl, hm0⟩
    ·
      refine CW.skip ?_
      refine hK4 _ _ ?_
      refine CW.seq (fun K8 hK8 hE8 => ?_)
      refine CW.region ?_
      refine LR.v (Y.loadN vx.pt rfl Tryd.isAgg26 Tryd.sizeOf26 (fQ_len _) rfl) (Wd.u rfl) rfl rfl ?_
      refine LR.z (Z.allocv rfl Tryd.zeroValue26) (Wd.u rfl) rfl rfl (fun v9 H9 r9 => ?_)
      obtain ⟨rfl, vm, hs9, ob9, hH9⟩ := r9
      have hzs9 : H9.size = H14.size + 1 := by rw [hH9]; simp
      have df16 := (DF.new (bf_mx.mono hm0.size) : DF _ (H14.size + 1))
      have df17 := (DF.new (bf_hl.mono hm0.size) : DF _ (H14.size + 1))
      have df18 := (DF.new (bf_hl2.mono hm0.size) : DF _ (H14.size + 1))
      have dj19 : Dj (H0.size + 1) (H14.size + 1) := Dj.new vx.lt
      have dj20 : Dj (H4.size + 1) (H14.size + 1) := Dj.new vi.lt
      have dj21 : Dj (H5.size + 1) (H14.size + 1) := Dj.new vy.lt
      have nx22 : Nx 0 H0.size (H14.size + 1) := Nx.new hm0.size
      replace mx := mx.nw hs9
      replace hl := hl.nw hs9
      replace hl2 := hl2.nw hs9
      replace vx := vx.nw hs9
      replace vi := vi.nw hs9
      replace vy := vy.nw hs9
      replace hm0 := hm0.tr hs9
      have hz5 := hs9.size
      refine LR.s (S.var vm (_) (fQ x) rfl rfl rfl rfl (fQ_one x) Tryd.sizeOf26 (fQ_len _) (by first | decide | simp [fQ_len]) ((splice_all2 (by first | exact (fQ_len _).symm | exact (fQ_len _).trans (fQ_len _).symm)))) (Wd.u rfl) rfl (fun H5_2 r5_2 => ?_)
      obtain ⟨vm, hs5_2⟩ := r5_2
      replace hs5_2 := hs5_2.md1
      replace mx := mx.upL hs5_2 (DFL.cons df16 DFL.nil)
      replace hl := hl.upL hs5_2 (DFL.cons df17 DFL.nil)
      replace hl2 := hl2.upL hs5_2 (DFL.cons df18 DFL.nil)
      replace vx := vx.upL hs5_2 (DL.cons dj19 DL.nil)
      replace vi := vi.upL hs5_2 (DL.cons dj20 DL.nil)
      replace vy := vy.upL hs5_2 (DL.cons dj21 DL.nil)
      replace hm0 := (Mo.trL (ks := []) (hm0.mdn []) hs5_2 (MIL.cons (MI.app MI.z (nx22) (Nat.le_refl _)) MIL.nil)).nil
      have hz6 := hs5_2.size
      refine LR.nil ?_
      refine hK8 _ _ ?_
      refine CW.seq (fun K9 hK9 hE9 => ?_)
      refine CW.region ?_
      refine LR.z (Z.litw _ (([] : List Td)) rfl inf24 rfl rfl rfl (by decide) (by decide) fT_len fT_one (rfl)) (Wd.u rfl) rfl rfl (fun v27 H27 r27 => ?_)
      obtain ⟨ow27, hs27, ob27, hH27⟩ := r27
      have hzs27 : H27.size = H5_2.size + 1 := by rw [hH27]; simp
      have df23 := (DF.new (bf_mx.mono hm0.size) : DF _ (H5_2.size + 1))
      have df24 := (DF.new (bf_hl.mono hm0.size) : DF _ (H5_2.size + 1))
      have df25 := (DF.new (bf_hl2.mono hm0.size) : DF _ (H5_2.size + 1))
      have dj26 : Dj (H0.size + 1) (H5_2.size + 1) := Dj.new vx.lt
      have dj27 : Dj (H4.size + 1) (H5_2.size + 1) := Dj.new vi.lt
      have dj28 : Dj (H5.size + 1) (H5_2.size + 1) := Dj.new vy.lt
      have dj29 : Dj (H14.size + 1) (H5_2.size + 1) := Dj.new vm.lt
      have nx30 : Nx 0 H0.size (H5_2.size + 1) := Nx.new hm0.size
      replace mx := mx.nw hs27
      replace hl := hl.nw hs27
      replace hl2 := hl2.nw hs27
      replace vx := vx.nw hs27
      replace vi := vi.nw hs27
      replace vy := vy.nw hs27
      replace vm := vm.nw hs27
      replace hm0 := hm0.tr hs27
      have hz7 := hs27.size
      refine LR.v (Y.fieldAddr vx.pt rfl Tryd.runUnderlying26 rfl rfl Tryd.sizeOf24 (by decide) rfl) (Wd.u rfl) rfl rfl ?_
      refine LR.v (Y.load1 vx.pt.q66 rfl Tryd.isAgg24 rfl) (Wd.u rfl) rfl rfl ?_
      refine LR.z (Z.apnd ow27 hl rfl inf24 rfl rfl (by first | omega | (simp; omega)) (by first | omega | (simp; omega))) (Wd.u rfl) rfl rfl (fun v30 H30 r30 => ?_)
      obtain ⟨k30, ow, hk30, hs30⟩ := r30
      replace hk30 : Nx (H5_2.size + 1) H27.size k30 := hk30
      replace hs30 := hs30.md
      have df31 := DF.app (df23) (bf_mx.mono hm0.size) hk30
      have df32 := DF.app (df24) (bf_hl.mono hm0.size) hk30
      have df33 := DF.app (df25) (bf_hl2.mono hm0.size) hk30
      have dj34 : Dj (H0.size + 1) k30 := Dj.app (dj26) vx.lt hk30
      have dj35 : Dj (H4.size + 1) k30 := Dj.app (dj27) vi.lt hk30
      have dj36 : Dj (H5.size + 1) k30 := Dj.app (dj28) vy.lt hk30
      have dj37 : Dj (H14.size + 1) k30 := Dj.app (dj29) vm.lt hk30
      have nx38 : Nx 0 H0.size k30 := Nx.tr (nx30) hk30 hm0.size
      replace mx := mx.upL hs30 (DFL.cons df23 DFL.nil)
      replace hl := hl.upL hs30 (DFL.cons df24 DFL.nil)
      replace hl2 := hl2.upL hs30 (DFL.cons df25 DFL.nil)
      replace vx := vx.upL hs30 (DL.cons dj26 DL.nil)
      replace vi := vi.upL hs30 (DL.cons dj27 DL.nil)
      replace vy := vy.upL hs30 (DL.cons dj28 DL.nil)
      replace vm := vm.upL hs30 (DL.cons dj29 DL.nil)
      replace hm0 := (Mo.trL (ks := []) (hm0.mdn []) hs30 (MIL.cons (MI.app MI.z (nx30) (Nat.le_refl _)) MIL.nil)).nil
      have hz8 := hs30.size
      have hle_ow := ow.le
      obtain ⟨s30, rfl⟩ : ∃ s : SV, v30 = s.v := ⟨toSV v30, ow.sv.symm⟩
      refine LR.v (Y.fieldAddr vm.pt rfl Tryd.runUnderlying26 rfl rfl Tryd.sizeOf24 (by decide) rfl) (Wd.u rfl) rfl rfl ?_
      refine LR.s (S.var1 vm 66 (fQ { x with tv := s30 }) rfl rfl rfl (rfl) Tryd.sizeOf24 (by simp [fQ_len]) (q_tv x s30 x.td)) (Wd.u rfl) rfl (fun H6_5 r6_5 => ?_)
      obtain ⟨vm, hs6_5⟩ := r6_5
      replace hs6_5 := hs6_5.md1
      replace mx := mx.upL hs6_5 (DFL.cons df16 DFL.nil)
      replace hl := hl.upL hs6_5 (DFL.cons df17 DFL.nil)
      replace hl2 := hl2.upL hs6_5 (DFL.cons df18 DFL.nil)
      replace vx := vx.upL hs6_5 (DL.cons dj19 DL.nil)
      replace vi := vi.upL hs6_5 (DL.cons dj20 DL.nil)
      replace vy := vy.upL hs6_5 (DL.cons dj21 DL.nil)
      replace ow := ow.upL hs6_5 (DL.cons dj37.symm DL.nil)
      replace hm0 := (Mo.trL (ks := []) (hm0.mdn []) hs6_5 (MIL.cons (MI.app MI.z (nx22) (Nat.le_refl _)) MIL.nil)).nil
      have hz9 := hs6_5.size
      refine LR.nil ?_
      refine hK9 _ _ ?_
      refine CW.seq (fun K10 hK10 hE10 => ?_)
      refine CW.region ?_
      obtain ⟨z, ez, vm⟩ : ∃ z : Sq, z = { x with tv := s30 } ∧ Var 26 _ _ (fQ z) := ⟨_, rfl, vm⟩
      replace ow := ow_tv ez ow
      have zw : SqW z := by rw [ez]; exact ⟨hw.ho, hw.hc, hw.ht, hw.hb⟩
      refine LR.v (Y.loadN vm.pt rfl Tryd.isAgg26 Tryd.sizeOf26 (fQ_len _) rfl) (Wd.u rfl) rfl rfl ?_
      -- call selvage/seq.Next
      refine LR.call rfl Tryd.call6 rfl (Wd.u rfl) rfl rfl (next_ct z mx_ w0 _ mx (bf_mx.mono hm0.size) ow.rd.any zw) (fun v34 H34 r34 => ?_)
      obtain ⟨rfl, hs34⟩ := r34
      replace mx := mx.nw hs34
      replace hl := hl.nw hs34
      replace hl2 := hl2.nw hs34
      replace vx := vx.nw hs34
      replace vi := vi.nw hs34
      replace vy := vy.nw hs34
      replace vm := vm.nw hs34
      replace ow := ow.nw hs34
      replace hm0 := hm0.tr hs34
      have hz10 := hs34.size
      refine LR.v (Y.move rfl rfl) (Wd.u rfl) rfl rfl ?_
      refine LR.v (Y.extract rfl rfl rfl) (Wd.u rfl) rfl rfl ?_
      refine LR.v (Y.extract rfl rfl rfl) (Wd.u rfl) rfl rfl ?_
      refine LR.z (Z.allocv rfl Tryd.zeroValue29) (Wd.u rfl) rfl rfl (fun v10 H10 r10 => ?_)
      obtain ⟨rfl, va, hs10, ob10, hH10⟩ := r10
      have hzs10 : H10.size = H34.size + 1 := by rw [hH10]; simp
      have df39 := (DF.new (bf_mx.mono hm0.size) : DF _ (H34.size + 1))
      have df40 := (DF.new (bf_hl.mono hm0.size) : DF _ (H34.size + 1))
      have df41 := (DF.new (bf_hl2.mono hm0.size) : DF _ (H34.size + 1))
      have dj42 : Dj (H0.size + 1) (H34.size + 1) := Dj.new vx.lt
      have dj43 : Dj (H4.size + 1) (H34.size + 1) := Dj.new vi.lt
      have dj44 : Dj (H5.size + 1) (H34.size + 1) := Dj.new vy.lt
      have dj45 : Dj (H14.size + 1) (H34.size + 1) := Dj.new vm.lt
      have dj46 : Dj k30 (H34.size + 1) := Dj.new ow.le
      have nx47 : Nx 0 H0.size (H34.size + 1) := Nx.new hm0.size
      replace mx := mx.nw hs10
      replace hl := hl.nw hs10
      replace hl2 := hl2.nw hs10
      replace vx := vx.nw hs10
      replace vi := vi.nw hs10
      replace vy := vy.nw hs10
      replace vm := vm.nw hs10
      replace ow := ow.nw hs10
      replace hm0 := hm0.tr hs10
      have hz11 := hs10.size
      refine LR.s (S.var va (_) (fT (nextF z).1) rfl rfl rfl rfl (fT_one (nextF z).1) Tryd.sizeOf29 (fT_len _) (by first | decide | simp [fT_len]) ((splice_all2 (by first | exact (fT_len _).symm | exact (fT_len _).trans (fT_len _).symm)))) (Wd.u rfl) rfl (fun H7_6 r7_6 => ?_)
      obtain ⟨va, hs7_6⟩ := r7_6
      replace hs7_6 := hs7_6.md1
      replace mx := mx.upL hs7_6 (DFL.cons df39 DFL.nil)
      replace hl := hl.upL hs7_6 (DFL.cons df40 DFL.nil)
      replace hl2 := hl2.upL hs7_6 (DFL.cons df41 DFL.nil)
      replace vx := vx.upL hs7_6 (DL.cons dj42 DL.nil)
      replace vi := vi.upL hs7_6 (DL.cons dj43 DL.nil)
      replace vy := vy.upL hs7_6 (DL.cons dj44 DL.nil)
      replace vm := vm.upL hs7_6 (DL.cons dj45 DL.nil)
      replace ow := ow.upL hs7_6 (DL.cons dj46 DL.nil)
      replace hm0 := (Mo.trL (ks := []) (hm0.mdn []) hs7_6 (MIL.cons (MI.app MI.z (nx47) (Nat.le_refl _)) MIL.nil)).nil
      have hz12 := hs7_6.size
      refine LR.v (Y.assign rfl rfl) (Wd.u rfl) rfl rfl ?_
      refine LR.nil ?_
      refine hK10 _ _ ?_
      refine CW.seq (fun K11 hK11 hE11 => ?_)
      refine CW.region ?_
      refine LR.v (Y.loadN vx.pt rfl Tryd.isAgg26 Tryd.sizeOf26 (fQ_len _) rfl) (Wd.u rfl) rfl rfl ?_
      -- call selvage/selvageref20.Next
      refine LR.call rfl Tryd.call7 rfl (Wd.u rfl) rfl rfl (rnext_ct x w0 _ hl.any hw) (fun v39 H39 r39 => ?_)
      obtain ⟨rfl, hs39⟩ := r39
      replace mx := mx.nw hs39
      replace hl := hl.nw hs39
      replace hl2 := hl2.nw hs39
      replace vx := vx.nw hs39
      replace vi := vi.nw hs39
      replace vy := vy.nw hs39
      replace vm := vm.nw hs39
      replace ow := ow.nw hs39
      replace va := va.nw hs39
      replace hm0 := hm0.tr hs39
      have hz13 := hs39.size
      refine LR.v (Y.move rfl rfl) (Wd.u rfl) rfl rfl ?_
      refine LR.v (Y.extract rfl rfl rfl) (Wd.u rfl) rfl rfl ?_
      refine LR.v (Y.extract rfl rfl rfl) (Wd.u rfl) rfl rfl ?_
      refine LR.z (Z.allocv rfl Tryd.zeroValue29) (Wd.u rfl) rfl rfl (fun v12 H12 r12 => ?_)
      obtain ⟨rfl, vb, hs12, ob12, hH12⟩ := r12
      have hzs12 : H12.size = H39.size + 1 := by rw [hH12]; simp
      have df48 := (DF.new (bf_mx.mono hm0.size) : DF _ (H39.size + 1))
      have df49 := (DF.new (bf_hl.mono hm0.size) : DF _ (H39.size + 1))
      have df50 := (DF.new (bf_hl2.mono hm0.size) : DF _ (H39.size + 1))
      have dj51 : Dj (H0.size + 1) (H39.size + 1) := Dj.new vx.lt
      have dj52 : Dj (H4.size + 1) (H39.size + 1) := Dj.new vi.lt
      have dj53 : Dj (H5.size + 1) (H39.size + 1) := Dj.new vy.lt
      have dj54 : Dj (H14.size + 1) (H39.size + 1) := Dj.new vm.lt
      have dj55 : Dj k30 (H39.size + 1) := Dj.new ow.le
      have dj56 : Dj (H34.size + 1) (H39.size + 1) := Dj.new va.lt
      have nx57 : Nx 0 H0.size (H39.size + 1) := Nx.new hm0.size
      replace mx := mx.nw hs12
      replace hl := hl.nw hs12
      replace hl2 := hl2.nw hs12
      replace vx := vx.nw hs12
      replace vi := vi.nw hs12
      replace vy := vy.nw hs12
      replace vm := vm.nw hs12
      replace ow := ow.nw hs12
      replace va := va.nw hs12
      replace hm0 := hm0.tr hs12
      have hz14 := hs12.size
      refine LR.s (S.var vb (_) (fT (nextF x).1) rfl rfl rfl rfl (fT_one (nextF x).1) Tryd.sizeOf29 (fT_len _) (by first | decide | simp [fT_len]) ((splice_all2 (by first | exact (fT_len _).symm | exact (fT_len _).trans (fT_len _).symm)))) (Wd.u rfl) rfl (fun H8_6 r8_6 => ?_)
      obtain ⟨vb, hs8_6⟩ := r8_6
      replace hs8_6 := hs8_6.md1
      replace mx := mx.upL hs8_6 (DFL.cons df48 DFL.nil)
      replace hl := hl.upL hs8_6 (DFL.cons df49 DFL.nil)
      replace hl2 := hl2.upL hs8_6 (DFL.cons df50 DFL.nil)
      replace vx := vx.upL hs8_6 (DL.cons dj51 DL.nil)
      replace vi := vi.upL hs8_6 (DL.cons dj52 DL.nil)
      replace vy := vy.upL hs8_6 (DL.cons dj53 DL.nil)
      replace vm := vm.upL hs8_6 (DL.cons dj54 DL.nil)
      replace ow := ow.upL hs8_6 (DL.cons dj55 DL.nil)
      replace va := va.upL hs8_6 (DL.cons dj56 DL.nil)
      replace hm0 := (Mo.trL (ks := []) (hm0.mdn []) hs8_6 (MIL.cons (MI.app MI.z (nx57) (Nat.le_refl _)) MIL.nil)).nil
      have hz15 := hs8_6.size
      refine LR.v (Y.assign rfl rfl) (Wd.u rfl) rfl rfl ?_
      refine LR.nil ?_
      refine hK11 _ _ ?_
      refine CW.seq (fun K12 hK12 hE12 => ?_)
      refine CW.seq (fun K13 hK13 hE13 => ?_)
      refine CW.region_any (fun Hq => Nw H8_6 Hq) [] rfl ?_
      have hqs := Nw.refl H8_6
      refine LH.take 0 (by kernel_rfl) rfl (by kernel_rfl) (by kernel_rfl) (by kernel_rfl) (fun Hq hq => Y.loadN (vm.pt.nw hq) rfl Tryd.isAgg26 Tryd.sizeOf26 (fQ_len _) rfl) (Wd.u rfl) rfl rfl hqs ?_
      refine LH.take 2 (by kernel_rfl) rfl (by kernel_rfl) (by kernel_rfl) (by kernel_rfl) (fun Hq hq => Y.loadN (vx.pt.nw hq) rfl Tryd.isAgg26 Tryd.sizeOf26 (fQ_len _) rfl) (Wd.u rfl) rfl rfl hqs ?_
      refine LH.one (i := 1) (by kernel_rfl) ?_
      -- call selvage/seq.Check
      refine LO.call rfl rfl Tryd.call8 rfl (Wd.u rfl) rfl rfl (sqchk_ct z mx_ w0 _ mx (bf_mx.mono hm0.size) ow.rd.any zw) (fun v43 H43 r43 => ?_)
      obtain ⟨rfl, hs43⟩ := r43
      replace mx := mx.nw hs43
      replace hl := hl.nw hs43
      replace hl2 := hl2.nw hs43
      replace vx := vx.nw hs43
      replace vi := vi.nw hs43
      replace vy := vy.nw hs43
      replace vm := vm.nw hs43
      replace ow := ow.nw hs43
      replace va := va.nw hs43
      replace vb := vb.nw hs43
      replace hm0 := hm0.tr hs43
      have hz16 := hs43.size
      have hq43 := hqs.tr hs43
      refine ⟨.inr hq43, LH.narrow (SH2 := fun Hq => Nw H43 Hq) (fun Hq hq => hq43.tr hq) ?_⟩
      have hqn43 := Nw.refl H43
      refine LH.one (i := 3) (by kernel_rfl) ?_
      -- call selvage/selvageref20.Check
      refine LO.call rfl rfl Tryd.call9 rfl (Wd.u rfl) rfl rfl (rsqchk_ct x w0 _ hl.any hw) (fun v45 H45 r45 => ?_)
      obtain ⟨rfl, hs45⟩ := r45
      replace mx := mx.nw hs45
      replace hl := hl.nw hs45
      replace hl2 := hl2.nw hs45
      replace vx := vx.nw hs45
      replace vi := vi.nw hs45
      replace vy := vy.nw hs45
      replace vm := vm.nw hs45
      replace ow := ow.nw hs45
      replace va := va.nw hs45
      replace vb := vb.nw hs45
      replace hm0 := hm0.tr hs45
      have hz17 := hs45.size
      have hq45 := hqn43.tr hs45
      refine ⟨.inr hq45, LH.narrow (SH2 := fun Hq => Nw H45 Hq) (fun Hq hq => hq45.tr hq) ?_⟩
      have hqn45 := Nw.refl H45
      refine LH.take 4 (by kernel_rfl) rfl (by kernel_rfl) (by kernel_rfl) (by kernel_rfl) (fun Hq hq => (Y.neq rfl rfl rfl).isF ((fun h => h (by rw [ez, chk_tv])))) (Wd.u rfl) rfl rfl hqn45 ?_
      refine LH.take 5 (by kernel_rfl) rfl (by kernel_rfl) (by kernel_rfl) (by kernel_rfl) (fun Hq hq => Y.move rfl rfl) (Wd.u rfl) rfl rfl hqn45 ?_
      refine LH.take 6 (by kernel_rfl) rfl (by kernel_rfl) (by kernel_rfl) (by kernel_rfl) (fun Hq hq => Y.loadN (va.pt.nw hq) rfl Tryd.isAgg29 Tryd.sizeOf29 (fT_len _) rfl) (Wd.g rfl rfl rfl) rfl rfl hqn45 ?_
      refine LH.take 7 (by kernel_rfl) rfl (by kernel_rfl) (by kernel_rfl) (by kernel_rfl) (fun Hq hq => Y.loadN (vb.pt.nw hq) rfl Tryd.isAgg29 Tryd.sizeOf29 (fT_len _) rfl) (Wd.g rfl rfl rfl) rfl rfl hqn45 ?_
      refine LH.take 8 (by kernel_rfl) rfl (by kernel_rfl) (by kernel_rfl) (by kernel_rfl) (fun Hq hq => (Y.aneq rfl Tryd.eqGuardType29 (fun w => eqTd' (next_w zw) (next_w hw) w) rfl rfl).isF ((fun h => h (by rw [ez, next_tv])))) (Wd.g rfl rfl rfl) rfl rfl hqn45 ?_
      refine LH.take 9 (by kernel_rfl) rfl (by kernel_rfl) (by kernel_rfl) (by kernel_rfl) (fun Hq hq => Y.pick_f rfl rfl rfl) (Wd.u rfl) rfl rfl hqn45 ?_
      refine LH.take 10 (by kernel_rfl) rfl (by kernel_rfl) (by kernel_rfl) (by kernel_rfl) (fun Hq hq => Y.move rfl rfl) (Wd.u rfl) rfl rfl hqn45 ?_
      refine LH.take 11 (by kernel_rfl) rfl (by kernel_rfl) (by kernel_rfl) (by kernel_rfl) (fun Hq hq => Y.move rfl rfl) (Wd.g rfl rfl rfl) rfl rfl hqn45 ?_
      refine LH.take 12 (by kernel_rfl) rfl (by kernel_rfl) (by kernel_rfl) (by kernel_rfl) (fun Hq hq => Y.move rfl rfl) (Wd.g rfl rfl rfl) rfl rfl hqn45 ?_
      refine LH.take 13 (by kernel_rfl) rfl (by kernel_rfl) (by kernel_rfl) (by kernel_rfl) (fun Hq hq => (Y.bneq rfl Tryd.underlying4 rfl rfl).isF ((fun h => h (by rw [ez, next_tv])))) (Wd.g rfl rfl rfl) rfl rfl hqn45 ?_
      refine LH.take 14 (by kernel_rfl) rfl (by kernel_rfl) (by kernel_rfl) (by kernel_rfl) (fun Hq hq => Y.pick_f rfl rfl rfl) (Wd.u rfl) rfl rfl hqn45 ?_
      refine LH.take 15 (by kernel_rfl) rfl (by kernel_rfl) (by kernel_rfl) (by kernel_rfl) (fun Hq hq => Y.move rfl rfl) (Wd.u rfl) rfl rfl hqn45 ?_
      refine LH.take 16 (by kernel_rfl) rfl (by kernel_rfl) (by kernel_rfl) (by kernel_rfl) (fun Hq hq => Y.loadN (vx.pt.nw hq) rfl Tryd.isAgg26 Tryd.sizeOf26 (fQ_len _) rfl) (Wd.g rfl rfl rfl) rfl rfl hqn45 ?_
      refine LH.take 17 (by kernel_rfl) rfl (by kernel_rfl) (by kernel_rfl) (by kernel_rfl) (fun Hq hq => Y.loadN (vy.pt.nw hq) rfl Tryd.isAgg26 Tryd.sizeOf26 (fQ_len _) rfl) (Wd.g rfl rfl rfl) rfl rfl hqn45 ?_
      refine LH.take 19 (by kernel_rfl) rfl (by kernel_rfl) (by kernel_rfl) (by kernel_rfl) (fun Hq hq => Y.loadN (vx.pt.nw hq) rfl Tryd.isAgg26 Tryd.sizeOf26 (fQ_len _) rfl) (Wd.g rfl rfl rfl) rfl rfl hqn45 ?_
      refine LH.take 20 (by kernel_rfl) rfl (by kernel_rfl) (by kernel_rfl) (by kernel_rfl) (fun Hq hq => Y.loadN (vy.pt.nw hq) rfl Tryd.isAgg26 Tryd.sizeOf26 (fQ_len _) rfl) (Wd.g rfl rfl rfl) rfl rfl hqn45 ?_
      refine LH.one (i := 18) (by kernel_rfl) ?_
      -- call selvage/seq.Same
      refine LO.call rfl rfl Tryd.call10 rfl (Wd.g rfl rfl rfl) rfl rfl (same_ct x y w0 _ hl.any hl2.any hw hw2) (fun v60 H60 r60 => ?_)
      obtain ⟨rfl, hs60⟩ := r60
      replace mx := mx.nw hs60
      replace hl := hl.nw hs60
      replace hl2 := hl2.nw hs60
      replace vx := vx.nw hs60
      replace vi := vi.nw hs60
      replace vy := vy.nw hs60
      replace vm := vm.nw hs60
      replace ow := ow.nw hs60
      replace va := va.nw hs60
      replace vb := vb.nw hs60
      replace hm0 := hm0.tr hs60
      have hz18 := hs60.size
      have hq60 := hqn45.tr hs60
      refine ⟨.inr hq60, LH.narrow (SH2 := fun Hq => Nw H60 Hq) (fun Hq hq => hq60.tr hq) ?_⟩
      have hqn60 := Nw.refl H60
      refine LH.one (i := 21) (by kernel_rfl) ?_
      -- call selvage/selvageref10.SameSeq
      refine LO.call rfl rfl Tryd.call11 rfl (Wd.g rfl rfl rfl) rfl rfl (rsames_ct x y w0 _ hl.any hl2.any hw hw2) (fun v63 H63 r63 => ?_)
      obtain ⟨rfl, hs63⟩ := r63
      replace mx := mx.nw hs63
      replace hl := hl.nw hs63
      replace hl2 := hl2.nw hs63
      replace vx := vx.nw hs63
      replace vi := vi.nw hs63
      replace vy := vy.nw hs63
      replace vm := vm.nw hs63
      replace ow := ow.nw hs63
      replace va := va.nw hs63
      replace vb := vb.nw hs63
      replace hm0 := hm0.tr hs63
      have hz19 := hs63.size
      have hq63 := hqn60.tr hs63
      refine ⟨.inr hq63, LH.narrow (SH2 := fun Hq => Nw H63 Hq) (fun Hq hq => hq63.tr hq) ?_⟩
      have hqn63 := Nw.refl H63
      refine LH.take 22 (by kernel_rfl) rfl (by kernel_rfl) (by kernel_rfl) (by kernel_rfl) (fun Hq hq => (Y.bneq rfl Tryd.underlying4 rfl rfl).isF ((fun h => h rfl))) (Wd.g rfl rfl rfl) rfl rfl hqn63 ?_
      refine LH.take 23 (by kernel_rfl) rfl (by kernel_rfl) (by kernel_rfl) (by kernel_rfl) (fun Hq hq => Y.pick_f rfl rfl rfl) (Wd.u rfl) rfl rfl hqn63 ?_
      refine LH.take 24 (by kernel_rfl) rfl (by kernel_rfl) (by kernel_rfl) (by kernel_rfl) (fun Hq hq => Y.move rfl rfl) (Wd.u rfl) rfl rfl hqn63 ?_
      refine LH.take 25 (by kernel_rfl) rfl (by kernel_rfl) (by kernel_rfl) (by kernel_rfl) (fun Hq hq => Y.loadN (vx.pt.nw hq) rfl Tryd.isAgg26 Tryd.sizeOf26 (fQ_len _) rfl) (Wd.g rfl rfl rfl) rfl rfl hqn63 ?_
      refine LH.take 26 (by kernel_rfl) rfl (by kernel_rfl) (by kernel_rfl) (by kernel_rfl) (fun Hq hq => Y.loadN (vm.pt.nw hq) rfl Tryd.isAgg26 Tryd.sizeOf26 (fQ_len _) rfl) (Wd.g rfl rfl rfl) rfl rfl hqn63 ?_
      refine LH.one (i := 27) (by kernel_rfl) ?_
      -- call selvage/seq.Same
      refine LO.call rfl rfl Tryd.call10 rfl (Wd.g rfl rfl rfl) rfl rfl (same_ct x z w0 _ hl.any ow.rd.any hw zw) (fun v69 H69 r69 => ?_)
      obtain ⟨rfl, hs69⟩ := r69
      replace mx := mx.nw hs69
      replace hl := hl.nw hs69
      replace hl2 := hl2.nw hs69
      replace vx := vx.nw hs69
      replace vi := vi.nw hs69
      replace vy := vy.nw hs69
      replace vm := vm.nw hs69
      replace ow := ow.nw hs69
      replace va := va.nw hs69
      replace vb := vb.nw hs69
      replace hm0 := hm0.tr hs69
      have hz20 := hs69.size
      rw [show sameB x z = true from by rw [ez]; exact same_self x s30]
      have hq69 := hqn63.tr hs69
      refine ⟨.inr hq69, LH.narrow (SH2 := fun Hq => Nw H69 Hq) (fun Hq hq => hq69.tr hq) ?_⟩
      have hqn69 := Nw.refl H69
      refine LH.take 28 (by kernel_rfl) rfl (by kernel_rfl) (by kernel_rfl) (by kernel_rfl) (fun Hq hq => Y.not rfl rfl) (Wd.g rfl rfl rfl) rfl rfl hqn69 ?_
      refine LH.take 29 (by kernel_rfl) rfl (by kernel_rfl) (by kernel_rfl) (by kernel_rfl) (fun Hq hq => Y.pick_f rfl rfl rfl) (Wd.u rfl) rfl rfl hqn69 ?_
      refine LH.done (by kernel_rfl) ?_
      have hqe := hqn69
      refine hK13 _ _ ?_
      refine CW.cond_f rfl ?_
      refine CW.skip ?_
      refine hK12 _ _ ?_
      refine CW.seq (fun K14 hK14 hE14 => ?_)
      refine CW.region_any (fun Hq => Nw H69 Hq) [] rfl ?_
      have hqs := Nw.refl H69
      refine LH.take 0 (by kernel_rfl) rfl (by kernel_rfl) (by kernel_rfl) (by kernel_rfl) (fun Hq hq => Y.loadN (vm.pt.nw hq) rfl Tryd.isAgg26 Tryd.sizeOf26 (fQ_len _) rfl) (Wd.u rfl) rfl rfl hqs ?_
      refine LH.take 1 (by kernel_rfl) rfl (by kernel_rfl) (by kernel_rfl) (by kernel_rfl) (fun Hq hq => Y.cast (v2 := idV c) (Y.loadN (vi.pt.nw hq) rfl Tryd.isAgg23 Tryd.sizeOf23 (by simp [hc]) rfl) (rfl)) (Wd.u rfl) rfl rfl hqs ?_
      refine LH.take 2 (by kernel_rfl) rfl (by kernel_rfl) (by kernel_rfl) (by kernel_rfl) (fun Hq hq => Y.move rfl rfl) (Wd.u rfl) rfl rfl hqs ?_
      refine LH.take 4 (by kernel_rfl) rfl (by kernel_rfl) (by kernel_rfl) (by kernel_rfl) (fun Hq hq => Y.loadN (vx.pt.nw hq) rfl Tryd.isAgg26 Tryd.sizeOf26 (fQ_len _) rfl) (Wd.u rfl) rfl rfl hqs ?_
      refine LH.take 5 (by kernel_rfl) rfl (by kernel_rfl) (by kernel_rfl) (by kernel_rfl) (fun Hq hq => Y.cast (v2 := idV c) (Y.loadN (vi.pt.nw hq) rfl Tryd.isAgg23 Tryd.sizeOf23 (by simp [hc]) rfl) (rfl)) (Wd.u rfl) rfl rfl hqs ?_
      refine LH.take 6 (by kernel_rfl) rfl (by kernel_rfl) (by kernel_rfl) (by kernel_rfl) (fun Hq hq => Y.move rfl rfl) (Wd.u rfl) rfl rfl hqs ?_
      refine LH.one (i := 3) (by kernel_rfl) ?_
      -- call selvage/seq.Did
      refine LO.call rfl rfl Tryd.call12 rfl (Wd.u rfl) rfl rfl (did_ct z c m mx_ w0 _ mx (bf_mx.mono hm0.size) ow.rd.any zw hc) (fun v75 H75 r75 => ?_)
      obtain ⟨s75, k75, rfl, ow75, hk75, hs75⟩ := r75
      have df58 := DF.app (DF.z) (bf_mx.mono hm0.size) hk75
      have df59 := DF.app (DF.z) (bf_hl.mono hm0.size) hk75
      have df60 := DF.app (DF.z) (bf_hl2.mono hm0.size) hk75
      have dj61 : Dj (H0.size + 1) k75 := Dj.app (Dj.z) vx.lt hk75
      have dj62 : Dj (H4.size + 1) k75 := Dj.app (Dj.z) vi.lt hk75
      have dj63 : Dj (H14.size + 1) k75 := Dj.app (Dj.z) vm.lt hk75
      have dj64 : Dj k30 k75 := Dj.app (Dj.z) ow.le hk75
      have nx65 : Nx 0 H0.size k75 := Nx.tr (Nx.refl 0 _) hk75 hm0.size
      replace mx := mx.nw hs75
      replace hl := hl.nw hs75
      replace hl2 := hl2.nw hs75
      replace vx := vx.nw hs75
      replace vi := vi.nw hs75
      replace vm := vm.nw hs75
      replace ow := ow.nw hs75
      replace hm0 := hm0.tr hs75
      have hz21 := hs75.size
      have hle_ow75 := ow75.le
      have hq75 := hqs.tr hs75
      refine ⟨.inr hq75, LH.narrow (SH2 := fun Hq => Nw H75 Hq) (fun Hq hq => hq75.tr hq) ?_⟩
      have hqn75 := Nw.refl H75
      refine LH.one (i := 7) (by kernel_rfl) ?_
      -- call selvage/selvageref20.Did
      refine LO.call rfl rfl Tryd.call13 rfl (Wd.u rfl) rfl rfl (rdid_ct x c m w0 _ hl.any hw hc) (fun v79 H79 r79 => ?_)
      obtain ⟨s79, k79, rfl, ow79, hk79, hs79⟩ := r79
      have df66 := DF.app (DF.z) (bf_mx.mono hm0.size) hk79
      have df67 := DF.app (DF.z) (bf_hl.mono hm0.size) hk79
      have df68 := DF.app (DF.z) (bf_hl2.mono hm0.size) hk79
      have dj69 : Dj (H0.size + 1) k79 := Dj.app (Dj.z) vx.lt hk79
      have dj70 : Dj (H4.size + 1) k79 := Dj.app (Dj.z) vi.lt hk79
      have dj71 : Dj (H14.size + 1) k79 := Dj.app (Dj.z) vm.lt hk79
      have dj72 : Dj k30 k79 := Dj.app (Dj.z) ow.le hk79
      have dj73 : Dj k75 k79 := Dj.app (Dj.z) ow75.le hk79
      have nx74 : Nx 0 H0.size k79 := Nx.tr (Nx.refl 0 _) hk79 hm0.size
      replace mx := mx.nw hs79
      replace hl := hl.nw hs79
      replace hl2 := hl2.nw hs79
      replace vx := vx.nw hs79
      replace vi := vi.nw hs79
      replace vm := vm.nw hs79
      replace ow := ow.nw hs79
      replace ow75 := ow75.nw hs79
      replace hm0 := hm0.tr hs79
      have hz22 := hs79.size
      have hle_ow79 := ow79.le
      have hq79 := hqn75.tr hs79
      refine ⟨.inr hq79, LH.narrow (SH2 := fun Hq => Nw H79 Hq) (fun Hq hq => hq79.tr hq) ?_⟩
      have hqn79 := Nw.refl H79
      refine LH.one (i := 8) (by kernel_rfl) ?_
      -- call selvage/selvageref10.SameSeq
      refine LO.call rfl rfl Tryd.call11 rfl (Wd.u rfl) rfl rfl (rsames_ct (didF z c m s75) (didF x c m s79) w0 _ ow75.rd.any ow79.rd.any (did_w zw hc m _) (did_w hw hc m _)) (fun v80 H80 r80 => ?_)
      obtain ⟨rfl, hs80⟩ := r80
      replace mx := mx.nw hs80
      replace hl := hl.nw hs80
      replace hl2 := hl2.nw hs80
      replace vx := vx.nw hs80
      replace vi := vi.nw hs80
      replace vm := vm.nw hs80
      replace ow := ow.nw hs80
      replace ow75 := ow75.nw hs80
      replace ow79 := ow79.nw hs80
      replace hm0 := hm0.tr hs80
      have hz23 := hs80.size
      rw [show sameB (didF z c m s75) (didF x c m s79) = true from by rw [ez]; exact did_same x s30 s75 s79 c m]
      have hq80 := hqn79.tr hs80
      refine ⟨.inr hq80, LH.narrow (SH2 := fun Hq => Nw H80 Hq) (fun Hq hq => hq80.tr hq) ?_⟩
      have hqn80 := Nw.refl H80
      refine LH.take 9 (by kernel_rfl) rfl (by kernel_rfl) (by kernel_rfl) (by kernel_rfl) (fun Hq hq => Y.move rfl rfl) (Wd.u rfl) rfl rfl hqn80 ?_
      refine LH.take 10 (by kernel_rfl) rfl (by kernel_rfl) (by kernel_rfl) (by kernel_rfl) (fun Hq hq => Y.loadN (vm.pt.nw hq) rfl Tryd.isAgg26 Tryd.sizeOf26 (fQ_len _) rfl) (Wd.g rfl rfl rfl) rfl rfl hqn80 ?_
      refine LH.take 12 (by kernel_rfl) rfl (by kernel_rfl) (by kernel_rfl) (by kernel_rfl) (fun Hq hq => Y.loadN (vx.pt.nw hq) rfl Tryd.isAgg26 Tryd.sizeOf26 (fQ_len _) rfl) (Wd.g rfl rfl rfl) rfl rfl hqn80 ?_
      refine LH.one (i := 11) (by kernel_rfl) ?_
      -- call selvage/seq.Stop
      refine LO.call rfl rfl Tryd.call14 rfl (Wd.g rfl rfl rfl) rfl rfl (stop_ct z mx_ w0 _ mx (bf_mx.mono hm0.size) ow.rd.any zw) (fun v83 H83 r83 => ?_)
      obtain ⟨s83, k83, rfl, ow83, hk83, hs83⟩ := r83
      have df75 := DF.app (DF.z) (bf_mx.mono hm0.size) hk83
      have df76 := DF.app (DF.z) (bf_hl.mono hm0.size) hk83
      have df77 := DF.app (DF.z) (bf_hl2.mono hm0.size) hk83
      have dj78 : Dj (H0.size + 1) k83 := Dj.app (Dj.z) vx.lt hk83
      have dj79 : Dj (H4.size + 1) k83 := Dj.app (Dj.z) vi.lt hk83
      have dj80 : Dj (H14.size + 1) k83 := Dj.app (Dj.z) vm.lt hk83
      have dj81 : Dj k30 k83 := Dj.app (Dj.z) ow.le hk83
      have dj82 : Dj k75 k83 := Dj.app (Dj.z) ow75.le hk83
      have dj83 : Dj k79 k83 := Dj.app (Dj.z) ow79.le hk83
      have nx84 : Nx 0 H0.size k83 := Nx.tr (Nx.refl 0 _) hk83 hm0.size
      replace mx := mx.nw hs83
      replace hl := hl.nw hs83
      replace hl2 := hl2.nw hs83
      replace vx := vx.nw hs83
      replace vi := vi.nw hs83
      replace vm := vm.nw hs83
      replace ow := ow.nw hs83
      replace ow75 := ow75.nw hs83
      replace ow79 := ow79.nw hs83
      replace hm0 := hm0.tr hs83
      have hz24 := hs83.size
      have hle_ow83 := ow83.le
      have hq83 := hqn80.tr hs83
      refine ⟨.inr hq83, LH.narrow (SH2 := fun Hq => Nw H83 Hq) (fun Hq hq => hq83.tr hq) ?_⟩
      have hqn83 := Nw.refl H83
      refine LH.one (i := 13) (by kernel_rfl) ?_
      -- call selvage/selvageref20.Stop
      refine LO.call rfl rfl Tryd.call15 rfl (Wd.g rfl rfl rfl) rfl rfl (rstop_ct x w0 _ hl.any hw) (fun v85 H85 r85 => ?_)
      obtain ⟨s85, k85, rfl, ow85, hk85, hs85⟩ := r85
      have df85 := DF.app (DF.z) (bf_mx.mono hm0.size) hk85
      have df86 := DF.app (DF.z) (bf_hl.mono hm0.size) hk85
      have df87 := DF.app (DF.z) (bf_hl2.mono hm0.size) hk85
      have dj88 : Dj (H0.size + 1) k85 := Dj.app (Dj.z) vx.lt hk85
      have dj89 : Dj (H4.size + 1) k85 := Dj.app (Dj.z) vi.lt hk85
      have dj90 : Dj (H14.size + 1) k85 := Dj.app (Dj.z) vm.lt hk85
      have dj91 : Dj k30 k85 := Dj.app (Dj.z) ow.le hk85
      have dj92 : Dj k75 k85 := Dj.app (Dj.z) ow75.le hk85
      have dj93 : Dj k79 k85 := Dj.app (Dj.z) ow79.le hk85
      have dj94 : Dj k83 k85 := Dj.app (Dj.z) ow83.le hk85
      have nx95 : Nx 0 H0.size k85 := Nx.tr (Nx.refl 0 _) hk85 hm0.size
      replace mx := mx.nw hs85
      replace hl := hl.nw hs85
      replace hl2 := hl2.nw hs85
      replace vx := vx.nw hs85
      replace vi := vi.nw hs85
      replace vm := vm.nw hs85
      replace ow := ow.nw hs85
      replace ow75 := ow75.nw hs85
      replace ow79 := ow79.nw hs85
      replace ow83 := ow83.nw hs85
      replace hm0 := hm0.tr hs85
      have hz25 := hs85.size
      have hle_ow85 := ow85.le
      have hq85 := hqn83.tr hs85
      refine ⟨.inr hq85, LH.narrow (SH2 := fun Hq => Nw H85 Hq) (fun Hq hq => hq85.tr hq) ?_⟩
      have hqn85 := Nw.refl H85
      refine LH.one (i := 14) (by kernel_rfl) ?_
      -- call selvage/selvageref10.SameSeq
      refine LO.call rfl rfl Tryd.call11 rfl (Wd.g rfl rfl rfl) rfl rfl (rsames_ct (stopF z s83) (stopF x s85) w0 _ ow83.rd.any ow85.rd.any (stop_w zw _) (stop_w hw _)) (fun v86 H86 r86 => ?_)
      obtain ⟨rfl, hs86⟩ := r86
      replace mx := mx.nw hs86
      replace hl := hl.nw hs86
      replace hl2 := hl2.nw hs86
      replace vx := vx.nw hs86
      replace vi := vi.nw hs86
      replace vm := vm.nw hs86
      replace ow := ow.nw hs86
      replace ow75 := ow75.nw hs86
      replace ow79 := ow79.nw hs86
      replace ow83 := ow83.nw hs86
      replace ow85 := ow85.nw hs86
      replace hm0 := hm0.tr hs86
      have hz26 := hs86.size
      rw [show sameB (stopF z s83) (stopF x s85) = true from by rw [ez]; exact stop_same x s30 s83 s85]
      have hq86 := hqn85.tr hs86
      refine ⟨.inr hq86, LH.narrow (SH2 := fun Hq => Nw H86 Hq) (fun Hq hq => hq86.tr hq) ?_⟩
      have hqn86 := Nw.refl H86
      refine LH.take 15 (by kernel_rfl) rfl (by kernel_rfl) (by kernel_rfl) (by kernel_rfl) (fun Hq hq => Y.pick_t rfl rfl rfl) (Wd.u rfl) rfl rfl hqn86 ?_
      refine LH.take 16 (by kernel_rfl) rfl (by kernel_rfl) (by kernel_rfl) (by kernel_rfl) (fun Hq hq => Y.move rfl rfl) (Wd.u rfl) rfl rfl hqn86 ?_
      refine LH.take 17 (by kernel_rfl) rfl (by kernel_rfl) (by kernel_rfl) (by kernel_rfl) (fun Hq hq => Y.loadN (vm.pt.nw hq) rfl Tryd.isAgg26 Tryd.sizeOf26 (fQ_len _) rfl) (Wd.g rfl rfl rfl) rfl rfl hqn86 ?_
      refine LH.take 19 (by kernel_rfl) rfl (by kernel_rfl) (by kernel_rfl) (by kernel_rfl) (fun Hq hq => Y.loadN (vx.pt.nw hq) rfl Tryd.isAgg26 Tryd.sizeOf26 (fQ_len _) rfl) (Wd.g rfl rfl rfl) rfl rfl hqn86 ?_
      refine LH.one (i := 18) (by kernel_rfl) ?_
      -- call selvage/seq.Skip
      refine LO.call rfl rfl Tryd.call16 rfl (Wd.g rfl rfl rfl) rfl rfl (skip_ct z mx_ w0 _ mx (bf_mx.mono hm0.size) ow.rd.any zw) (fun v90 H90 r90 => ?_)
      obtain ⟨s90, k90, rfl, ow90, hk90, hs90⟩ := r90
      have df96 := DF.app (DF.z) (bf_mx.mono hm0.size) hk90
      have df97 := DF.app (DF.z) (bf_hl.mono hm0.size) hk90
      have df98 := DF.app (DF.z) (bf_hl2.mono hm0.size) hk90
      have dj99 : Dj (H0.size + 1) k90 := Dj.app (Dj.z) vx.lt hk90
      have dj100 : Dj (H4.size + 1) k90 := Dj.app (Dj.z) vi.lt hk90
      have dj101 : Dj (H14.size + 1) k90 := Dj.app (Dj.z) vm.lt hk90
      have dj102 : Dj k30 k90 := Dj.app (Dj.z) ow.le hk90
      have dj103 : Dj k75 k90 := Dj.app (Dj.z) ow75.le hk90
      have dj104 : Dj k79 k90 := Dj.app (Dj.z) ow79.le hk90
      have dj105 : Dj k83 k90 := Dj.app (Dj.z) ow83.le hk90
      have dj106 : Dj k85 k90 := Dj.app (Dj.z) ow85.le hk90
      have nx107 : Nx 0 H0.size k90 := Nx.tr (Nx.refl 0 _) hk90 hm0.size
      replace mx := mx.nw hs90
      replace hl := hl.nw hs90
      replace hl2 := hl2.nw hs90
      replace vx := vx.nw hs90
      replace vi := vi.nw hs90
      replace vm := vm.nw hs90
      replace ow := ow.nw hs90
      replace ow75 := ow75.nw hs90
      replace ow79 := ow79.nw hs90
      replace ow83 := ow83.nw hs90
      replace ow85 := ow85.nw hs90
      replace hm0 := hm0.tr hs90
      have hz27 := hs90.size
      have hle_ow90 := ow90.le
      have hq90 := hqn86.tr hs90
      refine ⟨.inr hq90, LH.narrow (SH2 := fun Hq => Nw H90 Hq) (fun Hq hq => hq90.tr hq) ?_⟩
      have hqn90 := Nw.refl H90
      refine LH.one (i := 20) (by kernel_rfl) ?_
      -- call selvage/selvageref20.Skip
      refine LO.call rfl rfl Tryd.call17 rfl (Wd.g rfl rfl rfl) rfl rfl (rskip_ct x w0 _ hl.any hw) (fun v92 H92 r92 => ?_)
      obtain ⟨s92, k92, rfl, ow92, hk92, hs92⟩ := r92
      have df108 := DF.app (DF.z) (bf_mx.mono hm0.size) hk92
      have df109 := DF.app (DF.z) (bf_hl.mono hm0.size) hk92
      have df110 := DF.app (DF.z) (bf_hl2.mono hm0.size) hk92
      have dj111 : Dj (H0.size + 1) k92 := Dj.app (Dj.z) vx.lt hk92
      have dj112 : Dj (H4.size + 1) k92 := Dj.app (Dj.z) vi.lt hk92
      have dj113 : Dj (H14.size + 1) k92 := Dj.app (Dj.z) vm.lt hk92
      have dj114 : Dj k30 k92 := Dj.app (Dj.z) ow.le hk92
      have dj115 : Dj k75 k92 := Dj.app (Dj.z) ow75.le hk92
      have dj116 : Dj k79 k92 := Dj.app (Dj.z) ow79.le hk92
      have dj117 : Dj k83 k92 := Dj.app (Dj.z) ow83.le hk92
      have dj118 : Dj k85 k92 := Dj.app (Dj.z) ow85.le hk92
      have dj119 : Dj k90 k92 := Dj.app (Dj.z) ow90.le hk92
      have nx120 : Nx 0 H0.size k92 := Nx.tr (Nx.refl 0 _) hk92 hm0.size
      replace mx := mx.nw hs92
      replace hl := hl.nw hs92
      replace hl2 := hl2.nw hs92
      replace vx := vx.nw hs92
      replace vi := vi.nw hs92
      replace vm := vm.nw hs92
      replace ow := ow.nw hs92
      replace ow75 := ow75.nw hs92
      replace ow79 := ow79.nw hs92
      replace ow83 := ow83.nw hs92
      replace ow85 := ow85.nw hs92
      replace ow90 := ow90.nw hs92
      replace hm0 := hm0.tr hs92
      have hz28 := hs92.size
      have hle_ow92 := ow92.le
      have hq92 := hqn90.tr hs92
      refine ⟨.inr hq92, LH.narrow (SH2 := fun Hq => Nw H92 Hq) (fun Hq hq => hq92.tr hq) ?_⟩
      have hqn92 := Nw.refl H92
      refine LH.one (i := 21) (by kernel_rfl) ?_
      -- call selvage/selvageref10.SameSeq
      refine LO.call rfl rfl Tryd.call11 rfl (Wd.g rfl rfl rfl) rfl rfl (rsames_ct (didF z z.cu false s90) (didF x x.cu false s92) w0 _ ow90.rd.any ow92.rd.any (did_w zw zw.hc _ _) (did_w hw hw.hc _ _)) (fun v93 H93 r93 => ?_)
      obtain ⟨rfl, hs93⟩ := r93
      replace mx := mx.nw hs93
      replace hl := hl.nw hs93
      replace hl2 := hl2.nw hs93
      replace vx := vx.nw hs93
      replace vi := vi.nw hs93
      replace vm := vm.nw hs93
      replace ow := ow.nw hs93
      replace ow75 := ow75.nw hs93
      replace ow79 := ow79.nw hs93
      replace ow83 := ow83.nw hs93
      replace ow85 := ow85.nw hs93
      replace ow90 := ow90.nw hs93
      replace ow92 := ow92.nw hs93
      replace hm0 := hm0.tr hs93
      have hz29 := hs93.size
      rw [show sameB (didF z z.cu false s90) (didF x x.cu false s92) = true from by rw [ez]; exact did_same x s30 s90 s92 x.cu false]
      have hq93 := hqn92.tr hs93
      refine ⟨.inr hq93, LH.narrow (SH2 := fun Hq => Nw H93 Hq) (fun Hq hq => hq93.tr hq) ?_⟩
      have hqn93 := Nw.refl H93
      refine LH.take 22 (by kernel_rfl) rfl (by kernel_rfl) (by kernel_rfl) (by kernel_rfl) (fun Hq hq => Y.pick_t rfl rfl rfl) (Wd.u rfl) rfl rfl hqn93 ?_
      refine LH.take 23 (by kernel_rfl) rfl (by kernel_rfl) (by kernel_rfl) (by kernel_rfl) (fun Hq hq => Y.move rfl rfl) (Wd.u rfl) rfl rfl hqn93 ?_
      refine LH.take 24 (by kernel_rfl) rfl (by kernel_rfl) (by kernel_rfl) (by kernel_rfl) (fun Hq hq => Y.loadN (vx.pt.nw hq) rfl Tryd.isAgg26 Tryd.sizeOf26 (fQ_len _) rfl) (Wd.g rfl rfl rfl) rfl rfl hqn93 ?_
      refine LH.take 25 (by kernel_rfl) rfl (by kernel_rfl) (by kernel_rfl) (by kernel_rfl) (fun Hq hq => Y.loadN (vm.pt.nw hq) rfl Tryd.isAgg26 Tryd.sizeOf26 (fQ_len _) rfl) (Wd.g rfl rfl rfl) rfl rfl hqn93 ?_
      refine LH.one (i := 26) (by kernel_rfl) ?_
      -- call selvage/selvageref10.SameSeq
      refine LO.call rfl rfl Tryd.call11 rfl (Wd.g rfl rfl rfl) rfl rfl (rsames_ct x z w0 _ hl.any ow.rd.any hw zw) (fun v98 H98 r98 => ?_)
      obtain ⟨rfl, hs98⟩ := r98
      replace mx := mx.nw hs98
      replace hl := hl.nw hs98
      replace hl2 := hl2.nw hs98
      replace vx := vx.nw hs98
      replace vi := vi.nw hs98
      replace vm := vm.nw hs98
      replace ow := ow.nw hs98
      replace ow75 := ow75.nw hs98
      replace ow79 := ow79.nw hs98
      replace ow83 := ow83.nw hs98
      replace ow85 := ow85.nw hs98
      replace ow90 := ow90.nw hs98
      replace ow92 := ow92.nw hs98
      replace hm0 := hm0.tr hs98
      have hz30 := hs98.size
      rw [show sameB x z = true from by rw [ez]; exact same_self x s30]
      have hq98 := hqn93.tr hs98
      refine ⟨.inr hq98, LH.narrow (SH2 := fun Hq => Nw H98 Hq) (fun Hq hq => hq98.tr hq) ?_⟩
      have hqn98 := Nw.refl H98
      refine LH.take 27 (by kernel_rfl) rfl (by kernel_rfl) (by kernel_rfl) (by kernel_rfl) (fun Hq hq => Y.pick_t rfl rfl rfl) (Wd.u rfl) rfl rfl hqn98 ?_
      refine LH.take 28 (by kernel_rfl) rfl (by kernel_rfl) (by kernel_rfl) (by kernel_rfl) (fun Hq hq => Y.assign rfl rfl) (Wd.u rfl) rfl rfl hqn98 ?_
      refine LH.done (by kernel_rfl) ?_
      have hqe := hqn98
      refine hK14 _ _ ?_
      refine CW.ret (hret .ret (.inr rfl) _ _ _ (res1 rfl rfl) ?_)
      exact ⟨rfl, hm0⟩

end Go.Proofs.YtabopjdbgkhacaaDoor.SeqM
