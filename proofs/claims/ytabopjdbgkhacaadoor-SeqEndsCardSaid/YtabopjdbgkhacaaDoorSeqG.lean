/-
  Sequences: what is wrong with one, by the program.
-/
import Derived.Test.YtabopjdbgkhacaaDoorSeqF
namespace Go.Proofs.YtabopjdbgkhacaaDoor.SeqG
open Go.Proofs.YtabopjdbgkhacaaDoor.E Go.RowKit Go.Proofs.YtabopjdbgkhacaaDoor.NamA Go.Proofs.YtabopjdbgkhacaaDoor.NamB Go.Proofs.YtabopjdbgkhacaaDoor.NamC Go.Proofs.YtabopjdbgkhacaaDoor.NamD Go.Proofs.YtabopjdbgkhacaaDoor.SeqA Go.Proofs.YtabopjdbgkhacaaDoor.SeqB Go.Proofs.YtabopjdbgkhacaaDoor.SeqC Go.Proofs.YtabopjdbgkhacaaDoor.SeqD Go.Proofs.YtabopjdbgkhacaaDoor.SeqE Go.Proofs.YtabopjdbgkhacaaDoor.SeqF Go.Proofs.YtabopjdbgkhacaaDoor.Num
set_option maxRecDepth 20000
set_option linter.unusedVariables false
set_option linter.unusedSimpArgs false
set_option linter.unusedSectionVars false
set_option maxRecDepth 100000 in
theorem inf62 : Inf Tryd.prog 62 32 1 8 := ⟨Tryd.underlying62, _, _, rfl, rfl, rfl, rfl, rfl⟩

theorem first_l (e : Int) : firstL [0, e] = e := by by_cases h : e ≠ 0 <;> simp [firstL, h]; simp at h; exact h.symm
theorem first_r (e : Int) : firstL [e, 0] = e := by by_cases h : e ≠ 0 <;> simp [firstL, h]; simp at h; exact h.symm

theorem refsCheck_ct (x : Sq) (F : Nat → Prop) (mx_ : Int) (w0 : World) (H0 : Heap)
    (mx : MX mx_ H0) (bf_mx : BF (fun b => b = 0) H0.size) (hl : Rd F H0 fT 33 x.tv.v x.td) (bf_hl : BF F H0.size) (hw : SqW x) (hk0 : x.k ≠ 0) :
    Ct Tryd.prog w0 19 #[.agg fZ.toArray, .agg (fX x).toArray] H0 (fun r H2 => r = .int .i64 (seqE x) ∧ Nw H0 H2) := by
  refine Ct.enter (args := [.agg fZ.toArray, .agg (fX x).toArray]) Tryd.func19 rfl rfl rfl ?_
  intro Q0 hret
  have hm0 : Nw H0 H0 := Mo.refl _ _
  refine CW.seq (fun K1 hK1 hE1 => ?_)
  refine CW.region ?_
  refine LR.z (Z.boxv rfl rfl) (Wd.u rfl) rfl rfl (fun v2 H2 r2 => ?_)
  obtain ⟨rfl, vz, hs2, ob2, hH2⟩ := r2
  have hzs2 : H2.size = H0.size + 1 := by rw [hH2]; simp
  have df1 := (DF.new (bf_mx.mono hm0.size) : DF _ (H0.size + 1))
  have df2 := (DF.new (bf_hl.mono hm0.size) : DF _ (H0.size + 1))
  have nx3 : Nx 0 H0.size (H0.size + 1) := Nx.new hm0.size
  replace mx := mx.nw hs2
  replace hl := hl.nw hs2
  replace hm0 := hm0.tr hs2
  have hz1 := hs2.size
  replace vz : Var 46 H2 H0.size (fZ) := vz
  refine LR.z (Z.boxv rfl rfl) (Wd.u rfl) rfl rfl (fun v3 H3 r3 => ?_)
  obtain ⟨rfl, va, hs3, ob3, hH3⟩ := r3
  have hzs3 : H3.size = H2.size + 1 := by rw [hH3]; simp
  have df4 := (DF.new (bf_mx.mono hm0.size) : DF _ (H2.size + 1))
  have df5 := (DF.new (bf_hl.mono hm0.size) : DF _ (H2.size + 1))
  have dj6 : Dj (H0.size + 1) (H2.size + 1) := Dj.new vz.lt
  have nx7 : Nx 0 H0.size (H2.size + 1) := Nx.new hm0.size
  replace mx := mx.nw hs3
  replace hl := hl.nw hs3
  replace vz := vz.nw hs3
  replace hm0 := hm0.tr hs3
  have hz2 := hs3.size
  replace va : Var 49 H3 H2.size (fX x) := va
  refine LR.v (Y.assign rfl rfl) (Wd.u rfl) rfl rfl ?_
  refine LR.nil ?_
  refine hK1 _ _ ?_
  refine CW.seq (fun K2 hK2 hE2 => ?_)
  refine CW.region ?_
  refine LR.v (Y.fieldAddr va.pt rfl Tryd.runUnderlying49 rfl rfl Tryd.sizeOf4 (by decide) rfl) (Wd.u rfl) rfl rfl ?_
  refine LR.v (Y.load1 va.pt rfl Tryd.isAgg4 rfl) (Wd.u rfl) rfl rfl ?_
  refine LR.v (Y.move rfl rfl) (Wd.u rfl) rfl rfl ?_
  refine LR.v (Y.fieldAddr va.pt rfl Tryd.runUnderlying49 rfl rfl Tryd.sizeOf4 (by decide) rfl) (Wd.g rfl rfl rfl) rfl rfl ?_
  refine LR.v (Y.load1 (va.pt.drop 3) rfl Tryd.isAgg4 rfl) (Wd.g rfl rfl rfl) rfl rfl ?_
  refine LR.v (Y.pick_f rfl rfl rfl) (Wd.u rfl) rfl rfl ?_
  refine LR.v (Y.move rfl rfl) (Wd.u rfl) rfl rfl ?_
  refine LR.gs rfl rfl rfl rfl rfl rfl ?_
  refine LR.gs rfl rfl rfl rfl rfl rfl ?_
  refine LR.gs rfl rfl rfl rfl rfl rfl ?_
  refine LR.gs rfl rfl rfl rfl rfl rfl ?_
  refine LR.v (Y.pick_t rfl rfl rfl) (Wd.u rfl) rfl rfl ?_
  refine LR.v (Y.move rfl rfl) (Wd.u rfl) rfl rfl ?_
  refine LR.gs rfl rfl rfl rfl rfl rfl ?_
  refine LR.gs rfl rfl rfl rfl rfl rfl ?_
  refine LR.gs rfl rfl rfl rfl rfl rfl ?_
  refine LR.gs rfl rfl rfl rfl rfl rfl ?_
  refine LR.v (Y.pick_t rfl rfl rfl) (Wd.u rfl) rfl rfl ?_
  -- call selvage/refs.must
  refine LR.call rfl Tryd.call26 rfl (Wd.u rfl) rfl rfl (rmust_to true 1 rfl w0 _) (fun v25 H25 r25 => ?_)
  obtain ⟨rfl, hs25⟩ := r25
  replace mx := mx.nw hs25
  replace hl := hl.nw hs25
  replace vz := vz.nw hs25
  replace va := va.nw hs25
  replace hm0 := hm0.tr hs25
  have hz3 := hs25.size
  refine LR.v (Y.assign rfl rfl) (Wd.u rfl) rfl rfl ?_
  refine LR.nil ?_
  refine hK2 _ _ ?_
  refine CW.seq (fun K3 hK3 hE3 => ?_)
  refine CW.seq (fun K4 hK4 hE4 => ?_)
  refine CW.region ?_
  refine LR.v (Y.fieldAddr va.pt rfl Tryd.runUnderlying49 rfl rfl Tryd.sizeOf4 (by decide) rfl) (Wd.u rfl) rfl rfl ?_
  refine LR.v (Y.load1 va.pt rfl Tryd.isAgg4 rfl) (Wd.u rfl) rfl rfl ?_
  refine LR.v (Y.move rfl rfl) (Wd.u rfl) rfl rfl ?_
  refine LR.gs rfl rfl rfl rfl rfl rfl ?_
  refine LR.gs rfl rfl rfl rfl rfl rfl ?_
  refine LR.gs rfl rfl rfl rfl rfl rfl ?_
  refine LR.v (Y.pick_f rfl rfl rfl) (Wd.u rfl) rfl rfl ?_
  refine LR.nil ?_
  refine hK4 _ _ ?_
  refine CW.cond_f rfl ?_
  refine CW.skip ?_
  refine hK3 _ _ ?_
  refine CW.seq (fun K5 hK5 hE5 => ?_)
  refine CW.region ?_
  refine LR.v (Y.move rfl rfl) (Wd.u rfl) rfl rfl ?_
  refine LR.v (Y.loadN vz.pt rfl Tryd.isAgg46 Tryd.sizeOf46 (by simp [fZ, fQ_len]) rfl) (Wd.u rfl) rfl rfl ?_
  refine LR.v (Y.fieldAddr va.pt rfl Tryd.runUnderlying49 rfl rfl Tryd.sizeOf47 (by decide) rfl) (Wd.u rfl) rfl rfl ?_
  refine LR.v (Y.load1 (va.pt.drop 2) rfl Tryd.isAgg47 rfl) (Wd.u rfl) rfl rfl ?_
  -- call selvage/refs.moves
  refine LR.call rfl Tryd.call29 rfl (Wd.u rfl) rfl rfl (moves0_ct w0 _) (fun v43 H43 r43 => ?_)
  obtain ⟨rfl, hs43⟩ := r43
  replace mx := mx.nw hs43
  replace hl := hl.nw hs43
  replace vz := vz.nw hs43
  replace va := va.nw hs43
  replace hm0 := hm0.tr hs43
  have hz4 := hs43.size
  refine LR.z (Z.litw _ ([mustL true 1, 0]) rfl inf62 rfl rfl rfl (by decide) (by decide) fI_len fI_one (rfl)) (Wd.u rfl) rfl rfl (fun v44 H44 r44 => ?_)
  obtain ⟨ow45, hs44, ob44, hH44⟩ := r44
  have hzs44 : H44.size = H43.size + 1 := by rw [hH44]; simp
  have df8 := (DF.new (bf_mx.mono hm0.size) : DF _ (H43.size + 1))
  have df9 := (DF.new (bf_hl.mono hm0.size) : DF _ (H43.size + 1))
  have dj10 : Dj (H0.size + 1) (H43.size + 1) := Dj.new vz.lt
  have dj11 : Dj (H2.size + 1) (H43.size + 1) := Dj.new va.lt
  have nx12 : Nx 0 H0.size (H43.size + 1) := Nx.new hm0.size
  replace mx := mx.nw hs44
  replace hl := hl.nw hs44
  replace vz := vz.nw hs44
  replace va := va.nw hs44
  replace hm0 := hm0.tr hs44
  have hz5 := hs44.size
  -- call selvage/refs.first
  refine LR.call rfl Tryd.call27 rfl (Wd.u rfl) rfl rfl (rfirst_ct _ [mustL true 1, 0] w0 _ ow45.rd.any) (fun v45 H45 r45 => ?_)
  obtain ⟨rfl, hs45⟩ := r45
  replace mx := mx.nw hs45
  replace hl := hl.nw hs45
  replace vz := vz.nw hs45
  replace va := va.nw hs45
  replace ow45 := ow45.nw hs45
  replace hm0 := hm0.tr hs45
  have hz6 := hs45.size
  rw [show firstL [mustL true 1, 0] = 0 from by decide]
  refine LR.v (Y.assign rfl rfl) (Wd.u rfl) rfl rfl ?_
  refine LR.nil ?_
  refine hK5 _ _ ?_
  refine CW.seq (fun K6 hK6 hE6 => ?_)
  refine CW.seq (fun K7 hK7 hE7 => ?_)
  refine CW.region ?_
  refine LR.v (Y.fieldAddr va.pt rfl Tryd.runUnderlying49 rfl rfl Tryd.sizeOf4 (by decide) rfl) (Wd.u rfl) rfl rfl ?_
  refine LR.v (Y.load1 (va.pt.drop 3) rfl Tryd.isAgg4 rfl) (Wd.u rfl) rfl rfl ?_
  refine LR.nil ?_
  refine hK7 _ _ ?_
  refine CW.cond_t rfl ?_
  refine CW.region ?_
  refine LR.v (Y.move rfl rfl) (Wd.u rfl) rfl rfl ?_
  refine LR.v (Y.fieldAddr va.pt rfl Tryd.runUnderlying49 rfl rfl Tryd.sizeOf26 (by decide) rfl) (Wd.u rfl) rfl rfl ?_
  refine LR.v (Y.cast (v2 := qv x) (Y.loadN ((va.pt.drop 4).take 70) rfl Tryd.isAgg26 Tryd.sizeOf26 (by simp [fX_len]) rfl) (congrArg (fun z : List Value => Value.agg z.toArray) (fX_q x))) (Wd.u rfl) rfl rfl ?_
  -- call selvage/refs.sequence
  refine LR.call rfl Tryd.call30 rfl (Wd.u rfl) rfl rfl (seq_ct x mx_ w0 _ mx (bf_mx.mono hm0.size) hl.any hw hk0) (fun v51 H51 r51 => ?_)
  obtain ⟨rfl, hs51⟩ := r51
  replace mx := mx.nw hs51
  replace hl := hl.nw hs51
  replace vz := vz.nw hs51
  replace va := va.nw hs51
  replace hm0 := hm0.tr hs51
  have hz7 := hs51.size
  refine LR.z (Z.litw _ ([0, seqE x]) rfl inf62 rfl rfl rfl (by decide) (by decide) fI_len fI_one (rfl)) (Wd.u rfl) rfl rfl (fun v52 H52 r52 => ?_)
  obtain ⟨ow53, hs52, ob52, hH52⟩ := r52
  have hzs52 : H52.size = H51.size + 1 := by rw [hH52]; simp
  have df13 := (DF.new (bf_mx.mono hm0.size) : DF _ (H51.size + 1))
  have df14 := (DF.new (bf_hl.mono hm0.size) : DF _ (H51.size + 1))
  have dj15 : Dj (H0.size + 1) (H51.size + 1) := Dj.new vz.lt
  have dj16 : Dj (H2.size + 1) (H51.size + 1) := Dj.new va.lt
  have nx17 : Nx 0 H0.size (H51.size + 1) := Nx.new hm0.size
  replace mx := mx.nw hs52
  replace hl := hl.nw hs52
  replace vz := vz.nw hs52
  replace va := va.nw hs52
  replace hm0 := hm0.tr hs52
  have hz8 := hs52.size
  -- call selvage/refs.first
  refine LR.call rfl Tryd.call27 rfl (Wd.u rfl) rfl rfl (rfirst_ct _ [0, seqE x] w0 _ ow53.rd.any) (fun v53 H53 r53 => ?_)
  obtain ⟨rfl, hs53⟩ := r53
  replace mx := mx.nw hs53
  replace hl := hl.nw hs53
  replace vz := vz.nw hs53
  replace va := va.nw hs53
  replace ow53 := ow53.nw hs53
  replace hm0 := hm0.tr hs53
  have hz9 := hs53.size
  rw [first_l]
  refine LR.v (Y.assign rfl rfl) (Wd.u rfl) rfl rfl ?_
  refine LR.nil ?_
  refine hK6 _ _ ?_
  refine CW.seq (fun K8 hK8 hE8 => ?_)
  refine CW.seq (fun K9 hK9 hE9 => ?_)
  refine CW.region ?_
  refine LR.v (Y.move rfl rfl) (Wd.u rfl) rfl rfl ?_
  refine LR.v (Y.loadN vz.pt rfl Tryd.isAgg46 Tryd.sizeOf46 (by simp [fZ, fQ_len]) rfl) (Wd.u rfl) rfl rfl ?_
  refine LR.v (Y.fieldAddr va.pt rfl Tryd.runUnderlying49 rfl rfl Tryd.sizeOf44 (by decide) rfl) (Wd.u rfl) rfl rfl ?_
  refine LR.v (Y.load1 va.pt.x74 rfl Tryd.isAgg44 rfl) (Wd.u rfl) rfl rfl ?_
  -- call selvage/refs.memory
  refine LR.call rfl Tryd.call31 rfl (Wd.u rfl) rfl rfl (memory0_ct w0 _) (fun v58 H58 r58 => ?_)
  obtain ⟨rfl, hs58⟩ := r58
  replace mx := mx.nw hs58
  replace hl := hl.nw hs58
  replace vz := vz.nw hs58
  replace va := va.nw hs58
  replace hm0 := hm0.tr hs58
  have hz10 := hs58.size
  refine LR.z (Z.litw _ ([seqE x, 0]) rfl inf62 rfl rfl rfl (by decide) (by decide) fI_len fI_one (rfl)) (Wd.u rfl) rfl rfl (fun v59 H59 r59 => ?_)
  obtain ⟨ow60, hs59, ob59, hH59⟩ := r59
  have hzs59 : H59.size = H58.size + 1 := by rw [hH59]; simp
  have df18 := (DF.new (bf_mx.mono hm0.size) : DF _ (H58.size + 1))
  have df19 := (DF.new (bf_hl.mono hm0.size) : DF _ (H58.size + 1))
  have dj20 : Dj (H0.size + 1) (H58.size + 1) := Dj.new vz.lt
  have dj21 : Dj (H2.size + 1) (H58.size + 1) := Dj.new va.lt
  have nx22 : Nx 0 H0.size (H58.size + 1) := Nx.new hm0.size
  replace mx := mx.nw hs59
  replace hl := hl.nw hs59
  replace vz := vz.nw hs59
  replace va := va.nw hs59
  replace hm0 := hm0.tr hs59
  have hz11 := hs59.size
  -- call selvage/refs.first
  refine LR.call rfl Tryd.call27 rfl (Wd.u rfl) rfl rfl (rfirst_ct _ [seqE x, 0] w0 _ ow60.rd.any) (fun v60 H60 r60 => ?_)
  obtain ⟨rfl, hs60⟩ := r60
  replace mx := mx.nw hs60
  replace hl := hl.nw hs60
  replace vz := vz.nw hs60
  replace va := va.nw hs60
  replace ow60 := ow60.nw hs60
  replace hm0 := hm0.tr hs60
  have hz12 := hs60.size
  rw [first_r]
  refine LR.v (Y.assign rfl rfl) (Wd.u rfl) rfl rfl ?_
  refine LR.nil ?_
  refine hK9 _ _ ?_
  refine CW.seq (fun K10 hK10 hE10 => ?_)
  refine CW.region ?_
  refine LR.v (Y.move rfl rfl) (Wd.u rfl) rfl rfl ?_
  refine LR.v (Y.neq rfl rfl rfl) (Wd.u rfl) rfl rfl ?_
  refine LR.nil ?_
  refine hK10 _ _ ?_
  refine CW.condp rfl (fun c62 => ?_) (fun c62 => ?_)
  ·
    refine CW.seq (fun K11 hK11 hE11 => ?_)
    refine CW.region ?_
    refine LR.v (Y.move rfl rfl) (Wd.u rfl) rfl rfl ?_
    refine LR.v (Y.assign rfl rfl) (Wd.u rfl) rfl rfl ?_
    refine LR.nil ?_
    refine hK11 _ _ ?_
    refine CW.ret (hE8 .ret nofun _ _ (hret .ret (.inr rfl) _ _ _ (res1 rfl rfl) ?_))
    exact ⟨rfl, hm0⟩
  ·
    have hz0 : seqE x = 0 := by simpa using c62
    refine CW.skip ?_
    refine hK8 _ _ ?_
    refine CW.seq (fun K12 hK12 hE12 => ?_)
    refine CW.region ?_
    refine LR.v (Y.loadN va.pt rfl Tryd.isAgg49 Tryd.sizeOf49 (fX_len _) rfl) (Wd.u rfl) rfl rfl ?_
    -- call selvage/codec.EncodeTx
    refine LR.call rfl Tryd.call32 rfl (Wd.u rfl) rfl rfl (enc_ct x F w0 _ hl (bf_hl.mono hm0.size) hw (enc_of hz0) hk0) (fun v66 H66 r66 => ?_)
    obtain ⟨s2, k2, ys, rfl, ow, hk2, hyl, hs66⟩ := r66
    have df23 := DF.app (DF.z) (bf_mx.mono hm0.size) hk2
    have df24 := DF.app (DF.z) (bf_hl.mono hm0.size) hk2
    have dj25 : Dj (H2.size + 1) k2 := Dj.app (Dj.z) va.lt hk2
    have nx26 : Nx 0 H0.size k2 := Nx.tr (Nx.refl 0 _) hk2 hm0.size
    replace mx := mx.nw hs66
    replace hl := hl.nw hs66
    replace va := va.nw hs66
    replace hm0 := hm0.tr hs66
    have hz13 := hs66.size
    have hle_ow := ow.le
    refine LR.v (Y.move rfl rfl) (Wd.u rfl) rfl rfl ?_
    refine LR.v (Y.extract rfl rfl rfl) (Wd.u rfl) rfl rfl ?_
    refine LR.v (Y.extract rfl rfl rfl) (Wd.u rfl) rfl rfl ?_
    refine LR.v (Y.assign rfl rfl) (Wd.u rfl) rfl rfl ?_
    refine LR.v (Y.assign rfl rfl) (Wd.u rfl) rfl rfl ?_
    refine LR.nil ?_
    refine hK12 _ _ ?_
    refine CW.seq (fun K13 hK13 hE13 => ?_)
    refine CW.region ?_
    refine LR.v (Y.move rfl rfl) (Wd.u rfl) rfl rfl ?_
    refine LR.v ((Y.eql rfl rfl rfl).isT (rfl)) (Wd.u rfl) rfl rfl ?_
    refine LR.v (Y.move rfl rfl) (Wd.u rfl) rfl rfl ?_
    refine LR.v (Y.move rfl rfl) (Wd.g rfl rfl rfl) rfl rfl ?_
    refine LR.v (Y.len ow.rd rfl Tryd.runUnderlying57 rfl) (Wd.g rfl rfl rfl) rfl rfl ?_
    refine LR.v ((Y.leq rfl rfl rfl).isT (by omega)) (Wd.g rfl rfl rfl) rfl rfl ?_
    refine LR.v (Y.pick_t rfl rfl rfl) (Wd.u rfl) rfl rfl ?_
    -- call selvage/refs.must
    refine LR.call rfl Tryd.call26 rfl (Wd.u rfl) rfl rfl (rmust_to true 5 rfl w0 _) (fun v76 H76 r76 => ?_)
    obtain ⟨rfl, hs76⟩ := r76
    replace mx := mx.nw hs76
    replace hl := hl.nw hs76
    replace ow := ow.nw hs76
    replace hm0 := hm0.tr hs76
    have hz14 := hs76.size
    refine LR.v (Y.assign rfl rfl) (Wd.u rfl) rfl rfl ?_
    refine LR.nil ?_
    refine hK13 _ _ ?_
    refine CW.ret (hret .ret (.inr rfl) _ _ _ (res1 rfl rfl) ?_)
    exact ⟨by rw [hz0]; rfl, hm0⟩

theorem sqchk_ct (x : Sq) (mx_ : Int) (w0 : World) (H0 : Heap)
    (mx : MX mx_ H0) (bf_mx : BF (fun b => b = 0) H0.size) (hl : RdT H0 fT 33 x.tv.v x.td) (hw : SqW x) :
    Ct Tryd.prog w0 8 #[qv x] H0 (fun r H2 => r = .int .i64 (sqChk x) ∧ Nw H0 H2) := by
  refine Ct.enter (args := [qv x]) Tryd.func8 rfl rfl rfl ?_
  intro Q0 hret
  have hm0 : Nw H0 H0 := Mo.refl _ _
  replace hl := hl.bnd
  have bf_hl := Rd.bf hl
  have hll := hl.len
  refine CW.seq (fun K1 hK1 hE1 => ?_)
  refine CW.region ?_
  refine LR.z (Z.boxv rfl rfl) (Wd.u rfl) rfl rfl (fun v1 H1 r1 => ?_)
  obtain ⟨rfl, va, hs1, ob1, hH1⟩ := r1
  have hzs1 : H1.size = H0.size + 1 := by rw [hH1]; simp
  have df1 := (DF.new (bf_mx.mono hm0.size) : DF _ (H0.size + 1))
  have df2 := (DF.new (bf_hl.mono hm0.size) : DF _ (H0.size + 1))
  have nx3 : Nx 0 H0.size (H0.size + 1) := Nx.new hm0.size
  replace mx := mx.nw hs1
  replace hl := hl.nw hs1
  replace hm0 := hm0.tr hs1
  have hz1 := hs1.size
  replace va : Var 26 H1 H0.size (fQ x) := va
  refine LR.v (Y.assign rfl rfl) (Wd.u rfl) rfl rfl ?_
  refine LR.nil ?_
  refine hK1 _ _ ?_
  refine CW.seq (fun K2 hK2 hE2 => ?_)
  refine CW.seq (fun K3 hK3 hE3 => ?_)
  refine CW.region ?_
  refine LR.v (Y.fieldAddr va.pt rfl Tryd.runUnderlying26 rfl rfl Tryd.sizeOf3 (by decide) rfl) (Wd.u rfl) rfl rfl ?_
  refine LR.v (Y.load1 va.pt rfl Tryd.isAgg3 rfl) (Wd.u rfl) rfl rfl ?_
  refine LR.v (Y.eql rfl rfl rfl) (Wd.u rfl) rfl rfl ?_
  refine LR.nil ?_
  refine hK3 _ _ ?_
  refine CW.condp rfl (fun c6 => ?_) (fun c6 => ?_)
  ·
    refine CW.seq (fun K4 hK4 hE4 => ?_)
    refine CW.region ?_
    refine LR.v (Y.assign rfl rfl) (Wd.u rfl) rfl rfl ?_
    refine LR.nil ?_
    refine hK4 _ _ ?_
    refine CW.ret (hE2 .ret nofun _ _ (hret .ret (.inr rfl) _ _ _ (res1 rfl rfl) ?_))
    exact ⟨by unfold sqChk; first | (rw [if_pos (by assumption)]) | (rw [if_neg (by assumption), if_pos (by assumption)]) | (rw [if_neg (by assumption), if_neg (by assumption), if_pos (by assumption)]) | (rw [if_neg (by assumption), if_neg (by assumption), if_neg (by assumption)]), hm0⟩
  ·
    refine CW.skip ?_
    refine hK2 _ _ ?_
    refine CW.seq (fun K5 hK5 hE5 => ?_)
    refine CW.seq (fun K6 hK6 hE6 => ?_)
    refine CW.region ?_
    refine LR.v (Y.build (v := .agg fZ.toArray) rfl rfl (by intro w; kernel_rfl)) (Wd.u rfl) rfl rfl ?_
    refine LR.v (Y.loadN va.pt rfl Tryd.isAgg26 Tryd.sizeOf26 (fQ_len _) rfl) (Wd.u rfl) rfl rfl ?_
    refine LR.v (Y.build (v := .agg (fX x).toArray) rfl rfl (by intro w; exact build_tx hw.ho hw.hc w)) (Wd.u rfl) rfl rfl ?_
    -- call selvage/refs.Check
    refine LR.call rfl Tryd.call19 rfl (Wd.u rfl) rfl rfl (refsCheck_ct x _ mx_ w0 _ mx (bf_mx.mono hm0.size) hl (bf_hl.mono hm0.size) hw c6) (fun v10 H10 r10 => ?_)
    obtain ⟨rfl, hs10⟩ := r10
    replace mx := mx.nw hs10
    replace hl := hl.nw hs10
    replace va := va.nw hs10
    replace hm0 := hm0.tr hs10
    have hz2 := hs10.size
    refine LR.v (Y.assign rfl rfl) (Wd.u rfl) rfl rfl ?_
    refine LR.nil ?_
    refine hK6 _ _ ?_
    refine CW.seq (fun K7 hK7 hE7 => ?_)
    refine CW.region ?_
    refine LR.v (Y.move rfl rfl) (Wd.u rfl) rfl rfl ?_
    refine LR.v (Y.neq rfl rfl rfl) (Wd.u rfl) rfl rfl ?_
    refine LR.nil ?_
    refine hK7 _ _ ?_
    refine CW.condp rfl (fun c12 => ?_) (fun c12 => ?_)
    ·
      refine CW.seq (fun K8 hK8 hE8 => ?_)
      refine CW.region ?_
      refine LR.v (Y.move rfl rfl) (Wd.u rfl) rfl rfl ?_
      refine LR.v (Y.assign rfl rfl) (Wd.u rfl) rfl rfl ?_
      refine LR.nil ?_
      refine hK8 _ _ ?_
      refine CW.ret (hE5 .ret nofun _ _ (hret .ret (.inr rfl) _ _ _ (res1 rfl rfl) ?_))
      exact ⟨by unfold sqChk; first | (rw [if_pos (by assumption)]) | (rw [if_neg (by assumption), if_pos (by assumption)]) | (rw [if_neg (by assumption), if_neg (by assumption), if_pos (by assumption)]) | (rw [if_neg (by assumption), if_neg (by assumption), if_neg (by assumption)]), hm0⟩
    ·
      refine CW.skip ?_
      refine hK5 _ _ ?_
      refine CW.seq (fun K9 hK9 hE9 => ?_)
      refine CW.seq (fun K10 hK10 hE10 => ?_)
      refine CW.region ?_
      refine LR.v (Y.fieldAddr va.pt rfl Tryd.runUnderlying26 rfl rfl Tryd.sizeOf3 (by decide) rfl) (Wd.u rfl) rfl rfl ?_
      refine LR.v (Y.load1 va.pt.q67 rfl Tryd.isAgg3 rfl) (Wd.u rfl) rfl rfl ?_
      refine LR.v (Y.fieldAddr va.pt rfl Tryd.runUnderlying26 rfl rfl Tryd.sizeOf24 (by decide) rfl) (Wd.u rfl) rfl rfl ?_
      refine LR.v (Y.load1 va.pt.q66 rfl Tryd.isAgg24 rfl) (Wd.u rfl) rfl rfl ?_
      refine LR.v (Y.len hl rfl Tryd.runUnderlying24 rfl) (Wd.u rfl) rfl rfl ?_
      refine LR.v (Y.eql rfl rfl rfl) (Wd.u rfl) rfl rfl ?_
      refine LR.nil ?_
      refine hK10 _ _ ?_
      refine CW.condp rfl (fun c19 => ?_) (fun c19 => ?_)
      ·
        refine CW.seq (fun K11 hK11 hE11 => ?_)
        refine CW.region ?_
        refine LR.v (Y.assign rfl rfl) (Wd.u rfl) rfl rfl ?_
        refine LR.nil ?_
        refine hK11 _ _ ?_
        refine CW.ret (hE9 .ret nofun _ _ (hret .ret (.inr rfl) _ _ _ (res1 rfl rfl) ?_))
        exact ⟨by unfold sqChk; first | (rw [if_pos (by assumption)]) | (rw [if_neg (by assumption), if_pos (by assumption)]) | (rw [if_neg (by assumption), if_neg (by assumption), if_pos (by assumption)]) | (rw [if_neg (by assumption), if_neg (by assumption), if_neg (by assumption)]), hm0⟩
      ·
        refine CW.skip ?_
        refine hK9 _ _ ?_
        refine CW.seq (fun K12 hK12 hE12 => ?_)
        refine CW.region ?_
        refine LR.v (Y.assign rfl rfl) (Wd.u rfl) rfl rfl ?_
        refine LR.nil ?_
        refine hK12 _ _ ?_
        refine CW.ret (hret .ret (.inr rfl) _ _ _ (res1 rfl rfl) ?_)
        exact ⟨by unfold sqChk; first | (rw [if_pos (by assumption)]) | (rw [if_neg (by assumption), if_pos (by assumption)]) | (rw [if_neg (by assumption), if_neg (by assumption), if_pos (by assumption)]) | (rw [if_neg (by assumption), if_neg (by assumption), if_neg (by assumption)]), hm0⟩

end Go.Proofs.YtabopjdbgkhacaaDoor.SeqG
