/-
  Sequences: a transaction that bears one alone is looked at, and written.
-/
import Derived.Test.YtabopjdbgkhacaaDoorSeqE
namespace Go.Proofs.YtabopjdbgkhacaaDoor.SeqF
open Go.Proofs.YtabopjdbgkhacaaDoor.E Go.RowKit Go.Proofs.YtabopjdbgkhacaaDoor.NamA Go.Proofs.YtabopjdbgkhacaaDoor.NamB Go.Proofs.YtabopjdbgkhacaaDoor.NamC Go.Proofs.YtabopjdbgkhacaaDoor.NamD Go.Proofs.YtabopjdbgkhacaaDoor.SeqA Go.Proofs.YtabopjdbgkhacaaDoor.SeqB Go.Proofs.YtabopjdbgkhacaaDoor.SeqC Go.Proofs.YtabopjdbgkhacaaDoor.SeqD Go.Proofs.YtabopjdbgkhacaaDoor.SeqE Go.Proofs.YtabopjdbgkhacaaDoor.Num
set_option maxRecDepth 20000
set_option linter.unusedVariables false
set_option linter.unusedSimpArgs false
set_option linter.unusedSectionVars false
set_option maxRecDepth 100000 in
theorem inf113 : Inf Tryd.prog 113 3 1 8 := ⟨Tryd.underlying113, _, _, rfl, rfl, rfl, rfl, rfl⟩
set_option maxHeartbeats 4000000 in
theorem wrong_ct (x : Sq) (w0 : World) (H0 : Heap)
    (hl : RdT H0 fT 33 x.tv.v x.td) (hw : SqW x) (he : EncW x) (hk0 : x.k ≠ 0) :
    Ct Tryd.prog w0 50 #[.agg (fX x).toArray] H0 (fun r H2 => r = .int .i64 0 ∧ Nw H0 H2) := by
  refine Ct.enter (args := [.agg (fX x).toArray]) Tryd.func50 rfl rfl rfl ?_
  intro Q0 hret
  have hm0 : Nw H0 H0 := Mo.refl _ _
  replace hl := hl.bnd
  have bf_hl := Rd.bf hl
  have hll := hl.len
  have e1 := he.k
  have e2 := he.br
  have e3 := he.td
  have e4 := he.dn
  have e5 := he.md
  refine CW.seq (fun K1 hK1 hE1 => ?_)
  refine CW.region ?_
  refine LR.z (Z.boxv rfl rfl) (Wd.u rfl) rfl rfl (fun v1 H1 r1 => ?_)
  obtain ⟨rfl, va, hs1, ob1, hH1⟩ := r1
  have hzs1 : H1.size = H0.size + 1 := by rw [hH1]; simp
  have df1 := (DF.new (bf_hl.mono hm0.size) : DF _ (H0.size + 1))
  have nx2 : Nx 0 H0.size (H0.size + 1) := Nx.new hm0.size
  replace hl := hl.nw hs1
  replace hm0 := hm0.tr hs1
  have hz1 := hs1.size
  replace va : Var 49 H1 H0.size (fX x) := va
  refine LR.v (Y.assign rfl rfl) (Wd.u rfl) rfl rfl ?_
  refine LR.nil ?_
  refine hK1 _ _ ?_
  refine CW.seq (fun K2 hK2 hE2 => ?_)
  refine CW.region ?_
  refine LR.v (Y.build (v := .agg #[NIL, .int .i64 0, .int .i64 0]) rfl rfl (by intro w; kernel_rfl)) (Wd.u rfl) rfl rfl ?_
  refine LR.z (Z.boxv rfl rfl) (Wd.u rfl) rfl rfl (fun v15 H15 r15 => ?_)
  obtain ⟨rfl, vsr, hs15, ob15, hH15⟩ := r15
  have hzs15 : H15.size = H1.size + 1 := by rw [hH15]; simp
  have df3 := (DF.new (bf_hl.mono hm0.size) : DF _ (H1.size + 1))
  have dj4 : Dj (H0.size + 1) (H1.size + 1) := Dj.new va.lt
  have nx5 : Nx 0 H0.size (H1.size + 1) := Nx.new hm0.size
  replace hl := hl.nw hs15
  replace va := va.nw hs15
  replace hm0 := hm0.tr hs15
  have hz2 := hs15.size
  replace vsr : Var 88 H15 H1.size ([NIL, .int .i64 0, .int .i64 0]) := vsr
  refine LR.v (Y.assign rfl rfl) (Wd.u rfl) rfl rfl ?_
  refine LR.nil ?_
  refine hK2 _ _ ?_
  refine CW.seq (fun K3 hK3 hE3 => ?_)
  refine CW.region ?_
  refine LR.v (Y.loadN va.pt rfl Tryd.isAgg49 Tryd.sizeOf49 (fX_len _) rfl) (Wd.u rfl) rfl rfl ?_
  -- call selvage/codec.asked
  refine LR.call rfl Tryd.call68 rfl (Wd.u rfl) rfl rfl (asked_ct x w0 _ hk0) (fun v18 H18 r18 => ?_)
  obtain ⟨rfl, hs18⟩ := r18
  replace hl := hl.nw hs18
  replace va := va.nw hs18
  replace vsr := vsr.nw hs18
  replace hm0 := hm0.tr hs18
  have hz3 := hs18.size
  refine LR.v (Y.move rfl rfl) (Wd.u rfl) rfl rfl ?_
  refine LR.v (Y.extract rfl rfl rfl) (Wd.u rfl) rfl rfl ?_
  refine LR.v (Y.extract rfl rfl rfl) (Wd.u rfl) rfl rfl ?_
  refine LR.z (Z.allocv rfl Tryd.zeroValue26) (Wd.u rfl) rfl rfl (fun v4 H4 r4 => ?_)
  obtain ⟨rfl, vs, hs4, ob4, hH4⟩ := r4
  have hzs4 : H4.size = H18.size + 1 := by rw [hH4]; simp
  have df6 := (DF.new (bf_hl.mono hm0.size) : DF _ (H18.size + 1))
  have dj7 : Dj (H0.size + 1) (H18.size + 1) := Dj.new va.lt
  have dj8 : Dj (H1.size + 1) (H18.size + 1) := Dj.new vsr.lt
  have nx9 : Nx 0 H0.size (H18.size + 1) := Nx.new hm0.size
  replace hl := hl.nw hs4
  replace va := va.nw hs4
  replace vsr := vsr.nw hs4
  replace hm0 := hm0.tr hs4
  have hz4 := hs4.size
  refine LR.s (S.var vs (_) (fQ x) rfl rfl rfl rfl (fQ_one x) Tryd.sizeOf26 (fQ_len _) (by decide) ((splice_all2 (fQ_len _).symm))) (Wd.u rfl) rfl (fun H2_6 r2_6 => ?_)
  obtain ⟨vs, hs2_6⟩ := r2_6
  replace hs2_6 := hs2_6.md1
  replace hl := hl.upL hs2_6 (DFL.cons df6 DFL.nil)
  replace va := va.upL hs2_6 (DL.cons dj7 DL.nil)
  replace vsr := vsr.upL hs2_6 (DL.cons dj8 DL.nil)
  replace hm0 := (Mo.trL (ks := []) (hm0.mdn []) hs2_6 (MIL.cons (MI.app MI.z (nx9) (Nat.le_refl _)) MIL.nil)).nil
  have hz5 := hs2_6.size
  refine LR.v (Y.assign rfl rfl) (Wd.u rfl) rfl rfl ?_
  refine LR.nil ?_
  refine hK3 _ _ ?_
  refine CW.seq (fun K4 hK4 hE4 => ?_)
  refine CW.region ?_
  refine LR.v (Y.move rfl rfl) (Wd.u rfl) rfl rfl ?_
  refine LR.v (Y.fieldAddr va.pt rfl Tryd.runUnderlying49 rfl rfl Tryd.sizeOf47 (by decide) rfl) (Wd.u rfl) rfl rfl ?_
  refine LR.v (Y.load1 (va.pt.drop 2) rfl Tryd.isAgg47 rfl) (Wd.u rfl) rfl rfl ?_
  refine LR.v (Y.cast (v2 := .int .i64 0) (Y.len (Rd.nil (fun _ => True) _ fI 1) rfl Tryd.runUnderlying47 rfl) (rfl)) (Wd.u rfl) rfl rfl ?_
  refine LR.v ((Y.leq rfl rfl rfl).isT (by omega)) (Wd.u rfl) rfl rfl ?_
  refine LR.v (Y.move rfl rfl) (Wd.u rfl) rfl rfl ?_
  refine LR.v (Y.fieldAddr va.pt rfl Tryd.runUnderlying49 rfl rfl Tryd.sizeOf44 (by decide) rfl) (Wd.g rfl rfl rfl) rfl rfl ?_
  refine LR.v (Y.load1 va.pt.x74 rfl Tryd.isAgg44 rfl) (Wd.g rfl rfl rfl) rfl rfl ?_
  refine LR.v (Y.cast (v2 := .int .i64 0) (Y.len (Rd.nil (fun _ => True) _ fI 1) rfl Tryd.runUnderlying44 rfl) (rfl)) (Wd.g rfl rfl rfl) rfl rfl ?_
  refine LR.v ((Y.leq rfl rfl rfl).isT (by omega)) (Wd.g rfl rfl rfl) rfl rfl ?_
  refine LR.v (Y.pick_t rfl rfl rfl) (Wd.u rfl) rfl rfl ?_
  refine LR.v (Y.move rfl rfl) (Wd.u rfl) rfl rfl ?_
  refine LR.v (Y.move rfl rfl) (Wd.g rfl rfl rfl) rfl rfl ?_
  refine LR.v (Y.not rfl rfl) (Wd.g rfl rfl rfl) rfl rfl ?_
  refine LR.v (Y.move rfl rfl) (Wd.g rfl rfl rfl) rfl rfl ?_
  refine LR.v (Y.fieldAddr vs.pt rfl Tryd.runUnderlying26 rfl rfl Tryd.sizeOf24 (by decide) rfl) (Wd.g rfl rfl rfl) rfl rfl ?_
  refine LR.v (Y.load1 vs.pt.q66 rfl Tryd.isAgg24 rfl) (Wd.g rfl rfl rfl) rfl rfl ?_
  refine LR.v (Y.len hl rfl Tryd.runUnderlying24 rfl) (Wd.g rfl rfl rfl) rfl rfl ?_
  refine LR.v ((Y.leq rfl rfl rfl).isT (by omega)) (Wd.g rfl rfl rfl) rfl rfl ?_
  refine LR.v (Y.pick_f rfl rfl rfl) (Wd.g rfl rfl rfl) rfl rfl ?_
  refine LR.v (Y.pick_t rfl rfl rfl) (Wd.u rfl) rfl rfl ?_
  -- call (*selvage/codec.source).must
  refine LR.call rfl Tryd.call69 rfl (Wd.u rfl) rfl rfl (smust_ct _ 4 w0 _) (fun v42 H42 r42 => ?_)
  obtain ⟨rfl, hs42⟩ := r42
  replace hl := hl.nw hs42
  replace va := va.nw hs42
  replace vsr := vsr.nw hs42
  replace vs := vs.nw hs42
  replace hm0 := hm0.tr hs42
  have hz6 := hs42.size
  refine LR.nil ?_
  refine hK4 _ _ ?_
  refine CW.seq (fun K5 hK5 hE5 => ?_)
  refine CW.region_any (fun Hq => Nw H42 Hq) [] rfl ?_
  have hqs := Nw.refl H42
  refine LH.take 0 (by kernel_rfl) rfl (by kernel_rfl) (by kernel_rfl) (by kernel_rfl) (fun Hq hq => Y.move rfl rfl) (Wd.u rfl) rfl rfl hqs ?_
  refine LH.take 1 (by kernel_rfl) rfl (by kernel_rfl) (by kernel_rfl) (by kernel_rfl) (fun Hq hq => Y.fieldAddr (va.pt.nw hq) rfl Tryd.runUnderlying49 rfl rfl Tryd.sizeOf4 (by decide) rfl) (Wd.u rfl) rfl rfl hqs ?_
  refine LH.take 2 (by kernel_rfl) rfl (by kernel_rfl) (by kernel_rfl) (by kernel_rfl) (fun Hq hq => Y.load1 (va.pt.nw hq) rfl Tryd.isAgg4 rfl) (Wd.u rfl) rfl rfl hqs ?_
  refine LH.take 3 (by kernel_rfl) rfl (by kernel_rfl) (by kernel_rfl) (by kernel_rfl) (fun Hq hq => Y.not rfl rfl) (Wd.u rfl) rfl rfl hqs ?_
  refine LH.take 4 (by kernel_rfl) rfl (by kernel_rfl) (by kernel_rfl) (by kernel_rfl) (fun Hq hq => Y.move rfl rfl) (Wd.u rfl) rfl rfl hqs ?_
  refine LH.gs 5 (by kernel_rfl) rfl (by kernel_rfl) (by kernel_rfl) (by kernel_rfl) rfl rfl rfl rfl rfl rfl hqs ?_
  refine LH.gs 6 (by kernel_rfl) rfl (by kernel_rfl) (by kernel_rfl) (by kernel_rfl) rfl rfl rfl rfl rfl rfl hqs ?_
  refine LH.gs 7 (by kernel_rfl) rfl (by kernel_rfl) (by kernel_rfl) (by kernel_rfl) rfl rfl rfl rfl rfl rfl hqs ?_
  refine LH.gs 8 (by kernel_rfl) rfl (by kernel_rfl) (by kernel_rfl) (by kernel_rfl) rfl rfl rfl rfl rfl rfl hqs ?_
  refine LH.gs 9 (by kernel_rfl) rfl (by kernel_rfl) (by kernel_rfl) (by kernel_rfl) rfl rfl rfl rfl rfl rfl hqs ?_
  refine LH.take 10 (by kernel_rfl) rfl (by kernel_rfl) (by kernel_rfl) (by kernel_rfl) (fun Hq hq => Y.pick_t rfl rfl rfl) (Wd.u rfl) rfl rfl hqs ?_
  refine LH.one (i := 11) (by kernel_rfl) ?_
  -- call (*selvage/codec.source).must
  refine LO.call rfl rfl Tryd.call69 rfl (Wd.u rfl) rfl rfl (smust_ct _ 5 w0 _) (fun v54 H54 r54 => ?_)
  obtain ⟨rfl, hs54⟩ := r54
  replace hl := hl.nw hs54
  replace va := va.nw hs54
  replace vsr := vsr.nw hs54
  replace vs := vs.nw hs54
  replace hm0 := hm0.tr hs54
  have hz7 := hs54.size
  have hq54 := hqs.tr hs54
  refine ⟨.inr hq54, LH.narrow (SH2 := fun Hq => Nw H54 Hq) (fun Hq hq => hq54.tr hq) ?_⟩
  have hqn54 := Nw.refl H54
  refine LH.done (by kernel_rfl) ?_
  have hqe := hqn54
  refine hK5 _ _ ?_
  refine CW.seq (fun K6 hK6 hE6 => ?_)
  refine CW.seq (fun K7 hK7 hE7 => ?_)
  refine CW.region ?_
  refine LR.v (Y.fieldAddr va.pt rfl Tryd.runUnderlying49 rfl rfl Tryd.sizeOf47 (by decide) rfl) (Wd.u rfl) rfl rfl ?_
  refine LR.v (Y.load1 (va.pt.drop 2) rfl Tryd.isAgg47 rfl) (Wd.u rfl) rfl rfl ?_
  refine LR.v (Y.cast (v2 := .int .i64 0) (Y.len (Rd.nil (fun _ => True) _ fI 1) rfl Tryd.runUnderlying47 rfl) (rfl)) (Wd.u rfl) rfl rfl ?_
  refine LR.v (Y.move rfl rfl) (Wd.u rfl) rfl rfl ?_
  refine LR.nil ?_
  refine hK7 _ _ ?_
  refine CW.block (fun K8 hK8 hX8 hE8 => ?_)
  -- WARN live slot not in fl: 56
  refine CW.loop (fun (_ : Unit) => [(1, .pointer (some ⟨H0.size, 0, none⟩)), (3, .pointer (some ⟨H1.size, 0, none⟩)), (4, .pointer (some ⟨H18.size, 0, none⟩)), (5, .bool true), (57, .int .i64 0), (58, .int .i64 0)])
    (fun (_ : Unit) (H : Heap) => (True) ∧ Nw H54 H)
    (fun (_ : Unit) => 0) () ⟨rfl, rfl, rfl, rfl, rfl, rfl, trivial⟩ ?_ ?_
  ·
    exact ⟨trivial, Mo.refl _ _⟩
  intro _ HL1 hI1 K9 hN9 hE9
  obtain ⟨hT, hlm1⟩ := hI1
  replace hl := hl.nw hlm1
  replace va := va.nw hlm1
  replace vsr := vsr.nw hlm1
  replace vs := vs.nw hlm1
  replace hm0 := hm0.tr hlm1
  have hz8 := hlm1.size
  refine CW.seq (fun K10 hK10 hE10 => ?_)
  refine CW.region ?_
  refine LR.v (Y.lss rfl rfl rfl) (Wd.u rfl) rfl rfl ?_
  refine LR.nil ?_
  refine hK10 _ _ ?_
  refine CW.seq (fun K11 hK11 hE11 => ?_)
  refine CW.condp rfl (fun c59 => ?_) (fun c59 => ?_)
  ·
    exfalso; omega
  ·
    refine CW.exit (hE11 (.exit 0) nofun _ _ (hE9 (.exit 0) nofun _ _ (hX8 _ _ ?_)))
    refine hK6 _ _ ?_
    refine CW.seq (fun K12 hK12 hE12 => ?_)
    refine CW.seq (fun K13 hK13 hE13 => ?_)
    refine CW.region ?_
    refine LR.v (Y.fieldAddr va.pt rfl Tryd.runUnderlying49 rfl rfl Tryd.sizeOf44 (by decide) rfl) (Wd.u rfl) rfl rfl ?_
    refine LR.v (Y.load1 va.pt.x74 rfl Tryd.isAgg44 rfl) (Wd.u rfl) rfl rfl ?_
    refine LR.v (Y.cast (v2 := .int .i64 0) (Y.len (Rd.nil (fun _ => True) _ fI 1) rfl Tryd.runUnderlying44 rfl) (rfl)) (Wd.u rfl) rfl rfl ?_
    refine LR.v (Y.move rfl rfl) (Wd.u rfl) rfl rfl ?_
    refine LR.nil ?_
    refine hK13 _ _ ?_
    refine CW.block (fun K14 hK14 hX14 hE14 => ?_)
    refine CW.loop (fun (_ : Unit) => [(1, .pointer (some ⟨H0.size, 0, none⟩)), (3, .pointer (some ⟨H1.size, 0, none⟩)), (4, .pointer (some ⟨H18.size, 0, none⟩)), (5, .bool true), (78, NIL), (79, .int .i64 0), (80, .int .i64 0)])
      (fun (_ : Unit) (H : Heap) => (True) ∧ Nw HL1 H)
      (fun (_ : Unit) => 0) () ⟨rfl, rfl, rfl, rfl, rfl, rfl, rfl, trivial⟩ ?_ ?_
    ·
      exact ⟨trivial, Mo.refl _ _⟩
    intro _ HL2 hI2 K15 hN15 hE15
    obtain ⟨hT, hlm2⟩ := hI2
    replace hl := hl.nw hlm2
    replace va := va.nw hlm2
    replace vsr := vsr.nw hlm2
    replace vs := vs.nw hlm2
    replace hm0 := hm0.tr hlm2
    have hz9 := hlm2.size
    refine CW.seq (fun K16 hK16 hE16 => ?_)
    refine CW.region ?_
    refine LR.v (Y.lss rfl rfl rfl) (Wd.u rfl) rfl rfl ?_
    refine LR.nil ?_
    refine hK16 _ _ ?_
    refine CW.seq (fun K17 hK17 hE17 => ?_)
    refine CW.condp rfl (fun c81 => ?_) (fun c81 => ?_)
    ·
      exfalso; omega
    ·
      refine CW.exit (hE17 (.exit 2) nofun _ _ (hE15 (.exit 2) nofun _ _ (hX14 _ _ ?_)))
      refine hK12 _ _ ?_
      refine CW.seq (fun K18 hK18 hE18 => ?_)
      refine CW.region_any (fun Hq => Nw HL2 Hq) [] rfl ?_
      have hqs := Nw.refl HL2
      refine LH.take 0 (by kernel_rfl) rfl (by kernel_rfl) (by kernel_rfl) (by kernel_rfl) (fun Hq hq => Y.move rfl rfl) (Wd.u rfl) rfl rfl hqs ?_
      refine LH.take 1 (by kernel_rfl) rfl (by kernel_rfl) (by kernel_rfl) (by kernel_rfl) (fun Hq hq => Y.move rfl rfl) (Wd.u rfl) rfl rfl hqs ?_
      refine LH.take 2 (by kernel_rfl) rfl (by kernel_rfl) (by kernel_rfl) (by kernel_rfl) (fun Hq hq => Y.not rfl rfl) (Wd.u rfl) rfl rfl hqs ?_
      refine LH.take 3 (by kernel_rfl) rfl (by kernel_rfl) (by kernel_rfl) (by kernel_rfl) (fun Hq hq => Y.move rfl rfl) (Wd.u rfl) rfl rfl hqs ?_
      refine LH.take 4 (by kernel_rfl) rfl (by kernel_rfl) (by kernel_rfl) (by kernel_rfl) (fun Hq hq => Y.fieldAddr (vs.pt.nw hq) rfl Tryd.runUnderlying26 rfl rfl Tryd.sizeOf9 (by decide) rfl) (Wd.g rfl rfl rfl) rfl rfl hqs ?_
      refine LH.take 5 (by kernel_rfl) rfl (by kernel_rfl) (by kernel_rfl) (by kernel_rfl) (fun Hq hq => Y.load1 ((vs.pt.drop 1).nw hq) rfl Tryd.isAgg9 rfl) (Wd.g rfl rfl rfl) rfl rfl hqs ?_
      refine LH.take 6 (by kernel_rfl) rfl (by kernel_rfl) (by kernel_rfl) (by kernel_rfl) (fun Hq hq => Y.slen rfl Tryd.runUnderlying9 rfl) (Wd.g rfl rfl rfl) rfl rfl hqs ?_
      refine LH.one (i := 7) (by kernel_rfl) ?_
      -- call selvage/codec.longest
      refine LO.call rfl rfl Tryd.call70 rfl (Wd.g rfl rfl rfl) rfl rfl (longest1_ct w0 _) (fun v99 H99 r99 => ?_)
      obtain ⟨rfl, hs99⟩ := r99
      replace hl := hl.nw hs99
      replace va := va.nw hs99
      replace vsr := vsr.nw hs99
      replace vs := vs.nw hs99
      replace hm0 := hm0.tr hs99
      have hz10 := hs99.size
      have hq99 := hqs.tr hs99
      refine ⟨.inr hq99, LH.narrow (SH2 := fun Hq => Nw H99 Hq) (fun Hq hq => hq99.tr hq) ?_⟩
      have hqn99 := Nw.refl H99
      refine LH.take 8 (by kernel_rfl) rfl (by kernel_rfl) (by kernel_rfl) (by kernel_rfl) (fun Hq hq => (Y.leq rfl rfl rfl).isT (by omega)) (Wd.g rfl rfl rfl) rfl rfl hqn99 ?_
      refine LH.take 9 (by kernel_rfl) rfl (by kernel_rfl) (by kernel_rfl) (by kernel_rfl) (fun Hq hq => Y.pick_f rfl rfl rfl) (Wd.u rfl) rfl rfl hqn99 ?_
      refine LH.one (i := 10) (by kernel_rfl) ?_
      -- call (*selvage/codec.source).must
      refine LO.call rfl rfl Tryd.call69 rfl (Wd.u rfl) rfl rfl (smust_ct _ 5 w0 _) (fun v102 H102 r102 => ?_)
      obtain ⟨rfl, hs102⟩ := r102
      replace hl := hl.nw hs102
      replace va := va.nw hs102
      replace vsr := vsr.nw hs102
      replace vs := vs.nw hs102
      replace hm0 := hm0.tr hs102
      have hz11 := hs102.size
      have hq102 := hqn99.tr hs102
      refine ⟨.inr hq102, LH.narrow (SH2 := fun Hq => Nw H102 Hq) (fun Hq hq => hq102.tr hq) ?_⟩
      have hqn102 := Nw.refl H102
      refine LH.done (by kernel_rfl) ?_
      have hqe := hqn102
      refine hK18 _ _ ?_
      refine CW.seq (fun K19 hK19 hE19 => ?_)
      refine CW.region_any (fun Hq => Nw H102 Hq) [] rfl ?_
      have hqs := Nw.refl H102
      refine LH.take 0 (by kernel_rfl) rfl (by kernel_rfl) (by kernel_rfl) (by kernel_rfl) (fun Hq hq => Y.move rfl rfl) (Wd.u rfl) rfl rfl hqs ?_
      refine LH.take 1 (by kernel_rfl) rfl (by kernel_rfl) (by kernel_rfl) (by kernel_rfl) (fun Hq hq => Y.fieldAddr (va.pt.nw hq) rfl Tryd.runUnderlying49 rfl rfl Tryd.sizeOf4 (by decide) rfl) (Wd.u rfl) rfl rfl hqs ?_
      refine LH.take 2 (by kernel_rfl) rfl (by kernel_rfl) (by kernel_rfl) (by kernel_rfl) (fun Hq hq => Y.load1 ((va.pt.drop 3).nw hq) rfl Tryd.isAgg4 rfl) (Wd.u rfl) rfl rfl hqs ?_
      refine LH.take 3 (by kernel_rfl) rfl (by kernel_rfl) (by kernel_rfl) (by kernel_rfl) (fun Hq hq => Y.not rfl rfl) (Wd.u rfl) rfl rfl hqs ?_
      refine LH.take 4 (by kernel_rfl) rfl (by kernel_rfl) (by kernel_rfl) (by kernel_rfl) (fun Hq hq => Y.move rfl rfl) (Wd.u rfl) rfl rfl hqs ?_
      refine LH.take 5 (by kernel_rfl) rfl (by kernel_rfl) (by kernel_rfl) (by kernel_rfl) (fun Hq hq => Y.fieldAddr (vs.pt.nw hq) rfl Tryd.runUnderlying26 rfl rfl Tryd.sizeOf3 (by decide) rfl) (Wd.g rfl rfl rfl) rfl rfl hqs ?_
      refine LH.take 6 (by kernel_rfl) rfl (by kernel_rfl) (by kernel_rfl) (by kernel_rfl) (fun Hq hq => Y.load1 (vs.pt.nw hq) rfl Tryd.isAgg3 rfl) (Wd.g rfl rfl rfl) rfl rfl hqs ?_
      refine LH.take 7 (by kernel_rfl) rfl (by kernel_rfl) (by kernel_rfl) (by kernel_rfl) (fun Hq hq => (Y.geq rfl rfl rfl).isT (by omega)) (Wd.g rfl rfl rfl) rfl rfl hqs ?_
      refine LH.take 8 (by kernel_rfl) rfl (by kernel_rfl) (by kernel_rfl) (by kernel_rfl) (fun Hq hq => Y.move rfl rfl) (Wd.g rfl rfl rfl) rfl rfl hqs ?_
      refine LH.take 9 (by kernel_rfl) rfl (by kernel_rfl) (by kernel_rfl) (by kernel_rfl) (fun Hq hq => Y.fieldAddr (vs.pt.nw hq) rfl Tryd.runUnderlying26 rfl rfl Tryd.sizeOf3 (by decide) rfl) (Wd.g rfl rfl rfl) rfl rfl hqs ?_
      refine LH.take 10 (by kernel_rfl) rfl (by kernel_rfl) (by kernel_rfl) (by kernel_rfl) (fun Hq hq => Y.load1 (vs.pt.nw hq) rfl Tryd.isAgg3 rfl) (Wd.g rfl rfl rfl) rfl rfl hqs ?_
      refine LH.one (i := 11) (by kernel_rfl) ?_
      -- call selvage/codec.longest
      refine LO.call rfl rfl Tryd.call70 rfl (Wd.g rfl rfl rfl) rfl rfl (longest1_ct w0 _) (fun v114 H114 r114 => ?_)
      obtain ⟨rfl, hs114⟩ := r114
      replace hl := hl.nw hs114
      replace va := va.nw hs114
      replace vsr := vsr.nw hs114
      replace vs := vs.nw hs114
      replace hm0 := hm0.tr hs114
      have hz12 := hs114.size
      have hq114 := hqs.tr hs114
      refine ⟨.inr hq114, LH.narrow (SH2 := fun Hq => Nw H114 Hq) (fun Hq hq => hq114.tr hq) ?_⟩
      have hqn114 := Nw.refl H114
      refine LH.take 12 (by kernel_rfl) rfl (by kernel_rfl) (by kernel_rfl) (by kernel_rfl) (fun Hq hq => (Y.leq rfl rfl rfl).isT (by omega)) (Wd.g rfl rfl rfl) rfl rfl hqn114 ?_
      refine LH.take 13 (by kernel_rfl) rfl (by kernel_rfl) (by kernel_rfl) (by kernel_rfl) (fun Hq hq => Y.pick_t rfl rfl rfl) (Wd.g rfl rfl rfl) rfl rfl hqn114 ?_
      refine LH.take 14 (by kernel_rfl) rfl (by kernel_rfl) (by kernel_rfl) (by kernel_rfl) (fun Hq hq => Y.pick_f rfl rfl rfl) (Wd.u rfl) rfl rfl hqn114 ?_
      refine LH.one (i := 15) (by kernel_rfl) ?_
      -- call (*selvage/codec.source).must
      refine LO.call rfl rfl Tryd.call69 rfl (Wd.u rfl) rfl rfl (smust_ct _ 1 w0 _) (fun v118 H118 r118 => ?_)
      obtain ⟨rfl, hs118⟩ := r118
      replace hl := hl.nw hs118
      replace va := va.nw hs118
      replace vsr := vsr.nw hs118
      replace vs := vs.nw hs118
      replace hm0 := hm0.tr hs118
      have hz13 := hs118.size
      have hq118 := hqn114.tr hs118
      refine ⟨.inr hq118, LH.narrow (SH2 := fun Hq => Nw H118 Hq) (fun Hq hq => hq118.tr hq) ?_⟩
      have hqn118 := Nw.refl H118
      refine LH.done (by kernel_rfl) ?_
      have hqe := hqn118
      refine hK19 _ _ ?_
      refine CW.seq (fun K20 hK20 hE20 => ?_)
      refine CW.seq (fun K21 hK21 hE21 => ?_)
      refine CW.region ?_
      refine LR.v (Y.move rfl rfl) (Wd.u rfl) rfl rfl ?_
      refine LR.nil ?_
      refine hK21 _ _ ?_
      refine CW.cond_t rfl ?_
      refine CW.seq (fun K22 hK22 hE22 => ?_)
      refine CW.seq (fun K23 hK23 hE23 => ?_)
      refine CW.region ?_
      refine LR.v (Y.fieldAddr vs.pt rfl Tryd.runUnderlying26 rfl rfl Tryd.sizeOf3 (by decide) rfl) (Wd.u rfl) rfl rfl ?_
      refine LR.v (Y.load1 vs.pt.q67 rfl Tryd.isAgg3 rfl) (Wd.u rfl) rfl rfl ?_
      refine LR.v (Y.fieldAddr vs.pt rfl Tryd.runUnderlying26 rfl rfl Tryd.sizeOf3 (by decide) rfl) (Wd.u rfl) rfl rfl ?_
      refine LR.v (Y.load1 (vs.pt.q67.drop 1) rfl Tryd.isAgg3 rfl) (Wd.u rfl) rfl rfl ?_
      refine LR.z (Z.litw _ ([x.dn, x.md]) rfl inf113 rfl rfl rfl (by decide) (by decide) fI_len fI_one (rfl)) (Wd.u rfl) rfl rfl (fun v124 H124 r124 => ?_)
      obtain ⟨ow, hs124, ob124, hH124⟩ := r124
      have hzs124 : H124.size = H118.size + 1 := by rw [hH124]; simp
      have df10 := (DF.new (bf_hl.mono hm0.size) : DF _ (H118.size + 1))
      have dj11 : Dj (H1.size + 1) (H118.size + 1) := Dj.new vsr.lt
      have dj12 : Dj (H18.size + 1) (H118.size + 1) := Dj.new vs.lt
      have nx13 : Nx 0 H0.size (H118.size + 1) := Nx.new hm0.size
      replace hl := hl.nw hs124
      replace vsr := vsr.nw hs124
      replace vs := vs.nw hs124
      replace hm0 := hm0.tr hs124
      have hz14 := hs124.size
      refine LR.v (Y.len ow.rd rfl Tryd.runUnderlying113 rfl) (Wd.u rfl) rfl rfl ?_
      refine LR.v (Y.move rfl rfl) (Wd.u rfl) rfl rfl ?_
      refine LR.nil ?_
      refine hK23 _ _ ?_
      refine CW.block (fun K24 hK24 hX24 hE24 => ?_)
      refine CW.loop (fun (i : (Nat)) => [(3, .pointer (some ⟨H1.size, 0, none⟩)), (4, .pointer (some ⟨H18.size, 0, none⟩)), (124, v124), (125, .int .i64 2), (126, .int .i64 i)])
        (fun (i : (Nat)) (H : Heap) => (i ≤ 2) ∧ Nw H124 H)
        (fun (i : (Nat)) => 2 - i) 0 ⟨rfl, rfl, rfl, rfl, rfl, trivial⟩ ?_ ?_
      ·
        exact ⟨(by omega), Mo.refl _ _⟩
      intro i HL3 hI3 K25 hN25 hE25
      obtain ⟨hi, hlm3⟩ := hI3
      replace hl := hl.nw hlm3
      replace vsr := vsr.nw hlm3
      replace vs := vs.nw hlm3
      replace ow := ow.nw hlm3
      replace hm0 := hm0.tr hlm3
      have hz15 := hlm3.size
      refine CW.seq (fun K26 hK26 hE26 => ?_)
      refine CW.region ?_
      refine LR.v (Y.lss rfl rfl rfl) (Wd.u rfl) rfl rfl ?_
      refine LR.nil ?_
      refine hK26 _ _ ?_
      refine CW.seq (fun K27 hK27 hE27 => ?_)
      refine CW.condp rfl (fun c127 => ?_) (fun c127 => ?_)
      ·
        refine CW.skip ?_
        refine hK27 _ _ ?_
        refine CW.seq (fun K28 hK28 hE28 => ?_)
        refine CW.block (fun K29 hK29 hX29 hE29 => ?_)
        refine CW.seq (fun K30 hK30 hE30 => ?_)
        refine CW.region ?_
        have hil : i < [x.dn, x.md].length := by simp; omega
        have hq : 0 ≤ [x.dn, x.md][i] ∧ [x.dn, x.md][i] ≤ 65535 := by
          have hm := List.getElem_mem hil
          rcases List.mem_cons.1 hm with h | h
          · rw [h]; omega
          · rw [List.mem_singleton.1 h]; omega
        refine LR.v (Y.owAddr ow (i) rfl Tryd.runUnderlying113 Tryd.sizeOf3 rfl rfl (by first | rfl | omega) (by first | omega | (simp; omega) | (simp; done))) (Wd.u rfl) rfl rfl ?_
        refine LR.v (Y.load1 (ow.pt (j := i) (by first | omega | (simp; omega) | (simp; done))) rfl Tryd.isAgg3 rfl) (Wd.u rfl) rfl rfl ?_
        refine LR.v (Y.assign rfl rfl) (Wd.u rfl) rfl rfl ?_
        refine LR.nil ?_
        refine hK30 _ _ ?_
        refine CW.region ?_
        refine LR.v (Y.move rfl rfl) (Wd.u rfl) rfl rfl ?_
        refine LR.v (Y.move rfl rfl) (Wd.u rfl) rfl rfl ?_
        refine LR.v ((Y.geq rfl rfl rfl).isT (by omega)) (Wd.u rfl) rfl rfl ?_
        refine LR.v (Y.move rfl rfl) (Wd.u rfl) rfl rfl ?_
        refine LR.v (Y.move rfl rfl) (Wd.g rfl rfl rfl) rfl rfl ?_
        -- call selvage/codec.longest
        refine LR.call rfl Tryd.call70 rfl (Wd.g rfl rfl rfl) rfl rfl (longest2_ct w0 _) (fun v135 H135 r135 => ?_)
        obtain ⟨rfl, hs135⟩ := r135
        replace hl := hl.nw hs135
        replace vsr := vsr.nw hs135
        replace vs := vs.nw hs135
        replace ow := ow.nw hs135
        replace hm0 := hm0.tr hs135
        replace hlm3 := hlm3.tr hs135
        have hz16 := hs135.size
        refine LR.v ((Y.leq rfl rfl rfl).isT (by omega)) (Wd.g rfl rfl rfl) rfl rfl ?_
        refine LR.v (Y.pick_t rfl rfl rfl) (Wd.u rfl) rfl rfl ?_
        -- call (*selvage/codec.source).must
        refine LR.call rfl Tryd.call69 rfl (Wd.u rfl) rfl rfl (smust_ct _ 1 w0 _) (fun v138 H138 r138 => ?_)
        obtain ⟨rfl, hs138⟩ := r138
        replace hl := hl.nw hs138
        replace vsr := vsr.nw hs138
        replace vs := vs.nw hs138
        replace ow := ow.nw hs138
        replace hm0 := hm0.tr hs138
        replace hlm3 := hlm3.tr hs138
        have hz17 := hs138.size
        refine LR.nil ?_
        refine hK29 _ _ ?_
        refine hK28 _ _ ?_
        refine CW.region ?_
        refine LR.v (Y.addi rfl rfl rfl (by omega)) (Wd.u rfl) rfl rfl ?_
        refine LR.v (Y.move rfl rfl) (Wd.u rfl) rfl rfl ?_
        refine LR.nil ?_
        refine QN.sub (hN25 (i + 1) _ ?_ ?_) ⟨rfl, rfl, rfl, (iv (by omega)), (iv (by omega)), trivial⟩
        · exact ⟨(by omega), hlm3⟩
        · first | omega | (simp only; omega) | (simp; omega)
      ·
        refine CW.exit (hE27 (.exit 4) nofun _ _ (hE25 (.exit 4) nofun _ _ (hX24 _ _ ?_)))
        refine hK22 _ _ ?_
        refine CW.seq (fun K31 hK31 hE31 => ?_)
        refine CW.region ?_
        refine LR.v (Y.fieldAddr vs.pt rfl Tryd.runUnderlying26 rfl rfl Tryd.sizeOf24 (by decide) rfl) (Wd.u rfl) rfl rfl ?_
        refine LR.v (Y.load1 vs.pt.q66 rfl Tryd.isAgg24 rfl) (Wd.u rfl) rfl rfl ?_
        refine LR.v (Y.len hl rfl Tryd.runUnderlying24 rfl) (Wd.u rfl) rfl rfl ?_
        refine LR.v (Y.move rfl rfl) (Wd.u rfl) rfl rfl ?_
        refine LR.nil ?_
        refine hK31 _ _ ?_
        refine CW.block (fun K32 hK32 hX32 hE32 => ?_)
        refine CW.loop (fun (i : (Nat)) => [(3, .pointer (some ⟨H1.size, 0, none⟩)), (141, x.tv.v), (142, .int .i64 x.td.length), (143, .int .i64 i)])
          (fun (i : (Nat)) (H : Heap) => (i ≤ x.td.length) ∧ Nw HL3 H)
          (fun (i : (Nat)) => x.td.length - i) 0 ⟨rfl, rfl, rfl, rfl, trivial⟩ ?_ ?_
        ·
          exact ⟨(by omega), Mo.refl _ _⟩
        intro i HL4 hI4 K33 hN33 hE33
        obtain ⟨hi, hlm4⟩ := hI4
        replace hl := hl.nw hlm4
        replace vsr := vsr.nw hlm4
        replace hm0 := hm0.tr hlm4
        have hz18 := hlm4.size
        refine CW.seq (fun K34 hK34 hE34 => ?_)
        refine CW.region ?_
        refine LR.v (Y.lss rfl rfl rfl) (Wd.u rfl) rfl rfl ?_
        refine LR.nil ?_
        refine hK34 _ _ ?_
        refine CW.seq (fun K35 hK35 hE35 => ?_)
        refine CW.condp rfl (fun c144 => ?_) (fun c144 => ?_)
        ·
          refine CW.skip ?_
          refine hK35 _ _ ?_
          refine CW.seq (fun K36 hK36 hE36 => ?_)
          refine CW.block (fun K37 hK37 hX37 hE37 => ?_)
          refine CW.seq (fun K38 hK38 hE38 => ?_)
          refine CW.region ?_
          have hil : i < x.td.length := by omega
          have hdi := he.dd x.td[i] (List.getElem_mem hil)
          refine LR.e (g := fun ad => .pointer (some ad)) (Y.indexAddrF hl (i) rfl Tryd.runUnderlying24 Tryd.sizeOf29 rfl rfl (by first | rfl | omega) (by first | omega | (simp; omega) | (simp; done))) (Wd.u rfl) rfl rfl (fun ad145 pt145 => ?_)
          have bf_pt145 := bf_hl
          refine LR.v (Y.loadN pt145.pt rfl Tryd.isAgg29 Tryd.sizeOf29 (fT_len _) rfl) (Wd.u rfl) rfl rfl ?_
          refine LR.z (Z.allocv rfl Tryd.zeroValue29) (Wd.u rfl) rfl rfl (fun v13 H13 r13 => ?_)
          obtain ⟨rfl, vt, hs13, ob13, hH13⟩ := r13
          have hzs13 : H13.size = HL4.size + 1 := by rw [hH13]; simp
          have df14 := (DF.new (bf_hl.mono hm0.size) : DF _ (HL4.size + 1))
          have dj15 : Dj (H1.size + 1) (HL4.size + 1) := Dj.new vsr.lt
          have df16 := (DF.new (bf_pt145.mono hm0.size) : DF _ (HL4.size + 1))
          have nx17 : Nx 0 H0.size (HL4.size + 1) := Nx.new hm0.size
          have nx18 : Nx 0 HL3.size (HL4.size + 1) := Nx.new hlm4.size
          replace hl := hl.nw hs13
          replace vsr := vsr.nw hs13
          replace pt145 := pt145.nw hs13
          replace hm0 := hm0.tr hs13
          replace hlm4 := hlm4.tr hs13
          have hz19 := hs13.size
          refine LR.s (S.var vt (_) (fT x.td[i]) rfl rfl rfl rfl (fT_one x.td[i]) Tryd.sizeOf29 (fT_len _) (by decide) ((splice_all2 (fT_len _).symm))) (Wd.u rfl) rfl (fun H25_3 r25_3 => ?_)
          obtain ⟨vt, hs25_3⟩ := r25_3
          replace hs25_3 := hs25_3.md1
          replace hl := hl.upL hs25_3 (DFL.cons df14 DFL.nil)
          replace vsr := vsr.upL hs25_3 (DL.cons dj15 DL.nil)
          replace pt145 := pt145.upL hs25_3 (DFL.cons df16 DFL.nil)
          replace hm0 := (Mo.trL (ks := []) (hm0.mdn []) hs25_3 (MIL.cons (MI.app MI.z (nx17) (Nat.le_refl _)) MIL.nil)).nil
          replace hlm4 := (Mo.trL (ks := []) (hlm4.mdn []) hs25_3 (MIL.cons (MI.app MI.z (nx18) (Nat.le_refl _)) MIL.nil)).nil
          have hz20 := hs25_3.size
          refine LR.nil ?_
          refine hK38 _ _ ?_
          refine CW.region_any (fun Hq => Nw H25_3 Hq) [] rfl ?_
          have hqs := Nw.refl H25_3
          refine LH.take 0 (by kernel_rfl) rfl (by kernel_rfl) (by kernel_rfl) (by kernel_rfl) (fun Hq hq => Y.move rfl rfl) (Wd.u rfl) rfl rfl hqs ?_
          refine LH.take 1 (by kernel_rfl) rfl (by kernel_rfl) (by kernel_rfl) (by kernel_rfl) (fun Hq hq => Y.fieldAddr (vt.pt.nw hq) rfl Tryd.runUnderlying29 rfl rfl Tryd.sizeOf3 (by decide) rfl) (Wd.u rfl) rfl rfl hqs ?_
          refine LH.take 2 (by kernel_rfl) rfl (by kernel_rfl) (by kernel_rfl) (by kernel_rfl) (fun Hq hq => Y.load1 (vt.pt.nw hq) rfl Tryd.isAgg3 rfl) (Wd.u rfl) rfl rfl hqs ?_
          refine LH.take 3 (by kernel_rfl) rfl (by kernel_rfl) (by kernel_rfl) (by kernel_rfl) (fun Hq hq => (Y.geq rfl rfl rfl).isT (by omega)) (Wd.u rfl) rfl rfl hqs ?_
          refine LH.take 4 (by kernel_rfl) rfl (by kernel_rfl) (by kernel_rfl) (by kernel_rfl) (fun Hq hq => Y.move rfl rfl) (Wd.u rfl) rfl rfl hqs ?_
          refine LH.take 5 (by kernel_rfl) rfl (by kernel_rfl) (by kernel_rfl) (by kernel_rfl) (fun Hq hq => Y.fieldAddr (vt.pt.nw hq) rfl Tryd.runUnderlying29 rfl rfl Tryd.sizeOf3 (by decide) rfl) (Wd.g rfl rfl rfl) rfl rfl hqs ?_
          refine LH.take 6 (by kernel_rfl) rfl (by kernel_rfl) (by kernel_rfl) (by kernel_rfl) (fun Hq hq => Y.load1 (vt.pt.nw hq) rfl Tryd.isAgg3 rfl) (Wd.g rfl rfl rfl) rfl rfl hqs ?_
          refine LH.one (i := 7) (by kernel_rfl) ?_
          -- call selvage/codec.longest
          refine LO.call rfl rfl Tryd.call70 rfl (Wd.g rfl rfl rfl) rfl rfl (longest1_ct w0 _) (fun v154 H154 r154 => ?_)
          obtain ⟨rfl, hs154⟩ := r154
          replace hl := hl.nw hs154
          replace vsr := vsr.nw hs154
          replace vt := vt.nw hs154
          replace hm0 := hm0.tr hs154
          replace hlm4 := hlm4.tr hs154
          have hz21 := hs154.size
          have hq154 := hqs.tr hs154
          refine ⟨.inr hq154, LH.narrow (SH2 := fun Hq => Nw H154 Hq) (fun Hq hq => hq154.tr hq) ?_⟩
          have hqn154 := Nw.refl H154
          refine LH.take 8 (by kernel_rfl) rfl (by kernel_rfl) (by kernel_rfl) (by kernel_rfl) (fun Hq hq => (Y.leq rfl rfl rfl).isT (by omega)) (Wd.g rfl rfl rfl) rfl rfl hqn154 ?_
          refine LH.take 9 (by kernel_rfl) rfl (by kernel_rfl) (by kernel_rfl) (by kernel_rfl) (fun Hq hq => Y.pick_t rfl rfl rfl) (Wd.u rfl) rfl rfl hqn154 ?_
          refine LH.one (i := 10) (by kernel_rfl) ?_
          -- call (*selvage/codec.source).must
          refine LO.call rfl rfl Tryd.call69 rfl (Wd.u rfl) rfl rfl (smust_ct _ 1 w0 _) (fun v157 H157 r157 => ?_)
          obtain ⟨rfl, hs157⟩ := r157
          replace hl := hl.nw hs157
          replace vsr := vsr.nw hs157
          replace vt := vt.nw hs157
          replace hm0 := hm0.tr hs157
          replace hlm4 := hlm4.tr hs157
          have hz22 := hs157.size
          have hq157 := hqn154.tr hs157
          refine ⟨.inr hq157, LH.narrow (SH2 := fun Hq => Nw H157 Hq) (fun Hq hq => hq157.tr hq) ?_⟩
          have hqn157 := Nw.refl H157
          refine LH.done (by kernel_rfl) ?_
          have hqe := hqn157
          refine hK37 _ _ ?_
          refine hK36 _ _ ?_
          refine CW.region ?_
          refine LR.v (Y.addi rfl rfl rfl (by omega)) (Wd.u rfl) rfl rfl ?_
          refine LR.v (Y.move rfl rfl) (Wd.u rfl) rfl rfl ?_
          refine LR.nil ?_
          refine QN.sub (hN33 (i + 1) _ ?_ ?_) ⟨rfl, rfl, (iv (by omega)), (iv (by omega)), trivial⟩
          · exact ⟨(by omega), hlm4⟩
          · first | omega | (simp only; omega) | (simp; omega)
        ·
          refine CW.exit (hE35 (.exit 6) nofun _ _ (hE33 (.exit 6) nofun _ _ (hX32 _ _ ?_)))
          refine hK20 _ _ ?_
          refine CW.seq (fun K39 hK39 hE39 => ?_)
          refine CW.region ?_
          refine LR.v (Y.move rfl rfl) (Wd.u rfl) rfl rfl ?_
          refine LR.v (Y.nilCheck rfl rfl) (Wd.u rfl) rfl rfl ?_
          refine LR.v (Y.fieldAddr vsr.pt rfl Tryd.runUnderlying88 rfl rfl Tryd.sizeOf32 (by decide) rfl) (Wd.u rfl) rfl rfl ?_
          refine LR.v (Y.load1 (vsr.pt.drop 2) rfl Tryd.isAgg32 rfl) (Wd.u rfl) rfl rfl ?_
          refine LR.v (Y.assign rfl rfl) (Wd.u rfl) rfl rfl ?_
          refine LR.nil ?_
          refine hK39 _ _ ?_
          refine CW.ret (hret .ret (.inr rfl) _ _ _ (res1 rfl rfl) ?_)
          exact ⟨rfl, hm0⟩

set_option maxHeartbeats 4000000 in
theorem enc_ct (x : Sq) (F : Nat → Prop) (w0 : World) (H0 : Heap)
    (hl : Rd F H0 fT 33 x.tv.v x.td) (bf_hl : BF F H0.size) (hw : SqW x) (he : EncW x) (hk0 : x.k ≠ 0) :
    Ct Tryd.prog w0 32 #[.agg (fX x).toArray] H0 (fun r H2 => ∃ s2 : SV, ∃ k2 : Nat, ∃ ys : List UInt8, r = .tuple #[s2.v, .int .i64 0] ∧ (Ow k2 5 H2 fB 1 s2.v ys) ∧ (Nx 0 H0.size k2) ∧ (ys.length ≤ 1048576) ∧ Nw H0 H2) := by
  refine Ct.enter (args := [.agg (fX x).toArray]) Tryd.func32 rfl rfl rfl ?_
  intro Q0 hret
  have hm0 : Nw H0 H0 := Mo.refl _ _
  have hll := hl.len
  refine CW.seq (fun K1 hK1 hE1 => ?_)
  refine CW.region ?_
  refine LR.z (Z.boxv rfl rfl) (Wd.u rfl) rfl rfl (fun v1 H1 r1 => ?_)
  obtain ⟨rfl, va, hs1, ob1, hH1⟩ := r1
  have hzs1 : H1.size = H0.size + 1 := by rw [hH1]; simp
  have df1 := (DF.new (bf_hl.mono hm0.size) : DF _ (H0.size + 1))
  have nx2 : Nx 0 H0.size (H0.size + 1) := Nx.new hm0.size
  replace hl := hl.nw hs1
  replace hm0 := hm0.tr hs1
  have hz1 := hs1.size
  replace va : Var 49 H1 H0.size (fX x) := va
  refine LR.v (Y.assign rfl rfl) (Wd.u rfl) rfl rfl ?_
  refine LR.v (Y.assign rfl rfl) (Wd.u rfl) rfl rfl ?_
  refine LR.nil ?_
  refine hK1 _ _ ?_
  refine CW.seq (fun K2 hK2 hE2 => ?_)
  refine CW.seq (fun K3 hK3 hE3 => ?_)
  refine CW.region ?_
  refine LR.v (Y.loadN va.pt rfl Tryd.isAgg49 Tryd.sizeOf49 (fX_len _) rfl) (Wd.u rfl) rfl rfl ?_
  -- call selvage/codec.wrong
  refine LR.call rfl Tryd.call50 rfl (Wd.u rfl) rfl rfl (wrong_ct x w0 _ hl.any hw he hk0) (fun v11 H11 r11 => ?_)
  obtain ⟨rfl, hs11⟩ := r11
  replace hl := hl.nw hs11
  replace va := va.nw hs11
  replace hm0 := hm0.tr hs11
  have hz2 := hs11.size
  refine LR.v (Y.assign rfl rfl) (Wd.u rfl) rfl rfl ?_
  refine LR.nil ?_
  refine hK3 _ _ ?_
  refine CW.seq (fun K4 hK4 hE4 => ?_)
  refine CW.region ?_
  refine LR.v (Y.move rfl rfl) (Wd.u rfl) rfl rfl ?_
  refine LR.v ((Y.neq rfl rfl rfl).isF (by simp)) (Wd.u rfl) rfl rfl ?_
  refine LR.nil ?_
  refine hK4 _ _ ?_
  refine CW.cond_f rfl ?_
  refine CW.skip ?_
  refine hK2 _ _ ?_
  refine CW.seq (fun K5 hK5 hE5 => ?_)
  refine CW.region ?_
  refine LR.v (Y.build (v := .agg #[NIL, .int .i64 0, .int .i64 0]) rfl rfl (by intro w; kernel_rfl)) (Wd.u rfl) rfl rfl ?_
  refine LR.z (Z.boxv rfl rfl) (Wd.u rfl) rfl rfl (fun v16 H16 r16 => ?_)
  obtain ⟨rfl, vw, hs16, ob16, hH16⟩ := r16
  have hzs16 : H16.size = H11.size + 1 := by rw [hH16]; simp
  have df3 := (DF.new (bf_hl.mono hm0.size) : DF _ (H11.size + 1))
  have dj4 : Dj (H0.size + 1) (H11.size + 1) := Dj.new va.lt
  have nx5 : Nx 0 H0.size (H11.size + 1) := Nx.new hm0.size
  replace hl := hl.nw hs16
  replace va := va.nw hs16
  replace hm0 := hm0.tr hs16
  have hz3 := hs16.size
  replace vw : Var 90 H16 H11.size ([(⟨none, 0, 0⟩ : SV).v, .int .i64 0, .int .i64 0]) := vw
  refine LR.v (Y.assign rfl rfl) (Wd.u rfl) rfl rfl ?_
  refine LR.nil ?_
  refine hK5 _ _ ?_
  refine CW.seq (fun K6 hK6 hE6 => ?_)
  refine CW.region_any (fun Hq => Mo (Ms [(H11.size + 1)]) H16 Hq) [] rfl ?_
  have hq5 : Mo (Ms [(H11.size + 1)]) H16 H16 := Mo.refl _ _
  have nx6 := Nx.refl (H11.size + 1) H16.size
  refine LH.take 0 (by kernel_rfl) rfl (by kernel_rfl) (by kernel_rfl) (by kernel_rfl) (fun Hq hq => Y.move rfl rfl) (Wd.u rfl) rfl rfl hq5 ?_
  refine LH.take 1 (by kernel_rfl) rfl (by kernel_rfl) (by kernel_rfl) (by kernel_rfl) (fun Hq hq => Y.fieldAddr (va.upL hq (DL.cons dj4 DL.nil)).pt rfl Tryd.runUnderlying49 rfl rfl Tryd.sizeOf4 (by decide) rfl) (Wd.u rfl) rfl rfl hq5 ?_
  refine LH.take 2 (by kernel_rfl) rfl (by kernel_rfl) (by kernel_rfl) (by kernel_rfl) (fun Hq hq => Y.load1 (va.upL hq (DL.cons dj4 DL.nil)).pt rfl Tryd.isAgg4 rfl) (Wd.u rfl) rfl rfl hq5 ?_
  refine LH.take 4 (by kernel_rfl) rfl (by kernel_rfl) (by kernel_rfl) (by kernel_rfl) (fun Hq hq => Y.fieldAddr (va.upL hq (DL.cons dj4 DL.nil)).pt rfl Tryd.runUnderlying49 rfl rfl Tryd.sizeOf4 (by decide) rfl) (Wd.u rfl) rfl rfl hq5 ?_
  refine LH.take 5 (by kernel_rfl) rfl (by kernel_rfl) (by kernel_rfl) (by kernel_rfl) (fun Hq hq => Y.load1 ((va.upL hq (DL.cons dj4 DL.nil)).pt.drop 3) rfl Tryd.isAgg4 rfl) (Wd.u rfl) rfl rfl hq5 ?_
  refine LH.one (i := 3) (by kernel_rfl) ?_
  -- call selvage/codec.truth
  refine LO.call rfl rfl Tryd.call52 rfl (Wd.u rfl) rfl rfl (truth_ct false 1 w0 _) (fun v20 H20 r20 => ?_)
  obtain ⟨rfl, hs20⟩ := r20
  replace hl := hl.nw hs20
  replace va := va.nw hs20
  replace vw := vw.nw hs20
  replace hm0 := hm0.tr hs20
  replace hq5 := hq5.trN hs20
  have hz4 := hs20.size
  refine ⟨.inr hq5, LH.narrow (SH2 := fun Hq => Mo (Ms [(H11.size + 1)]) H20 Hq) (fun Hq hq => hq5.trL hq (MIL.cons (MI.app (MI.root (by simp)) (nx6) (Nat.le_refl _)) MIL.nil)) ?_⟩
  have hq5 : Mo (Ms [(H11.size + 1)]) H20 H20 := Mo.refl _ _
  have nx7 := Nx.refl (H11.size + 1) H20.size
  refine LH.one (i := 6) (by kernel_rfl) ?_
  -- call selvage/codec.truth
  refine LO.call rfl rfl Tryd.call52 rfl (Wd.u rfl) rfl rfl (truth_ct true 2 w0 _) (fun v23 H23 r23 => ?_)
  obtain ⟨rfl, hs23⟩ := r23
  replace hl := hl.nw hs23
  replace va := va.nw hs23
  replace vw := vw.nw hs23
  replace hm0 := hm0.tr hs23
  replace hq5 := hq5.trN hs23
  have hz5 := hs23.size
  refine ⟨.inr hq5, LH.narrow (SH2 := fun Hq => Mo (Ms [(H11.size + 1)]) H23 Hq) (fun Hq hq => hq5.trL hq (MIL.cons (MI.app (MI.root (by simp)) (nx7) (Nat.le_refl _)) MIL.nil)) ?_⟩
  have hq5 : Mo (Ms [(H11.size + 1)]) H23 H23 := Mo.refl _ _
  have nx8 := Nx.refl (H11.size + 1) H23.size
  refine LH.take 7 (by kernel_rfl) rfl (by kernel_rfl) (by kernel_rfl) (by kernel_rfl) (fun Hq hq => Y.or_u64 rfl rfl rfl) (Wd.u rfl) rfl rfl hq5 ?_
  refine LH.one (i := 8) (by kernel_rfl) ?_
  -- call (*selvage/codec.writer).number
  refine LO.call rfl rfl Tryd.call51 rfl (Wd.u rfl) rfl rfl (wnumL (xs := []) 1 w0 _ vw (Ow.nil fB_len fB_one) Dj.z (by decide) (by simp)) (fun v25 H25 r25 => ?_)
  have ql9 := va.lt
  have ql10 := vw.lt
  obtain ⟨s25, k25, y25, rfl, vw, ow, hk25, hd25, hy25, hs25⟩ := r25
  have df11 := DF.app (DF.z) (bf_hl.mono hm0.size) hk25
  have dj12 : Dj (H0.size + 1) k25 := Dj.app (Dj.z) ql9 hk25
  have dj13 : Dj (H11.size + 1) k25 := Dj.app (Dj.z) ql10 hk25
  have nx14 : Nx 0 H0.size k25 := Nx.tr (Nx.refl 0 _) hk25 hm0.size
  have nx15 : Nx 0 H23.size k25 := Nx.tr (Nx.refl 0 _) hk25 hq5.size
  replace hl := hl.upL hs25 (DFL.cons df3 (DFL.cons DF.z DFL.nil))
  replace va := va.upL hs25 (DL.cons dj4 (DL.cons Dj.z DL.nil))
  replace hm0 := (Mo.trL (ks := []) (hm0.mdn []) hs25 (MIL.cons (MI.app MI.z (nx5) (Nat.le_refl _)) (MIL.cons MI.z MIL.nil))).nil
  replace hq5 := hq5.trL hs25 (MIL.cons (MI.app (MI.root (by simp)) (nx8) (Nat.le_refl _)) (MIL.cons MI.z MIL.nil))
  have hz6 := hs25.size
  have hle_ow := ow.le
  refine ⟨.inr hq5, LH.narrow (SH2 := fun Hq => Mo (Ms [(H11.size + 1)]) H25 Hq) (fun Hq hq => hq5.trL hq (MIL.cons (MI.app (MI.root (by simp)) (nx8) (Nat.le_refl _)) MIL.nil)) ?_⟩
  have hq5 : Mo (Ms [(H11.size + 1)]) H25 H25 := Mo.refl _ _
  have nx16 := Nx.refl (H11.size + 1) H25.size
  refine LH.done (by kernel_rfl) ?_
  refine hK6 _ _ ?_
  refine CW.seq (fun K7 hK7 hE7 => ?_)
  refine CW.seq (fun K8 hK8 hE8 => ?_)
  refine CW.region ?_
  refine LR.v (Y.fieldAddr va.pt rfl Tryd.runUnderlying49 rfl rfl Tryd.sizeOf4 (by decide) rfl) (Wd.u rfl) rfl rfl ?_
  refine LR.v (Y.load1 va.pt rfl Tryd.isAgg4 rfl) (Wd.u rfl) rfl rfl ?_
  refine LR.nil ?_
  refine hK8 _ _ ?_
  refine CW.cond_f rfl ?_
  refine CW.skip ?_
  refine hK7 _ _ ?_
  refine CW.seq (fun K9 hK9 hE9 => ?_)
  refine CW.region ?_
  refine LR.v (Y.move rfl rfl) (Wd.u rfl) rfl rfl ?_
  refine LR.v (Y.fieldAddr va.pt rfl Tryd.runUnderlying49 rfl rfl Tryd.sizeOf47 (by decide) rfl) (Wd.u rfl) rfl rfl ?_
  have hy25_ : y25.length = 1 := hy25
  refine LR.v (Y.load1 (va.pt.drop 2) rfl Tryd.isAgg47 rfl) (Wd.u rfl) rfl rfl ?_
  refine LR.v (Y.cast (v2 := .int .i64 ((0 : Nat) : Int)) (Y.len (Rd.nil (fun _ => True) _ fI 1) rfl Tryd.runUnderlying47 rfl) (rfl)) (Wd.u rfl) rfl rfl ?_
  refine LR.v (Y.conv_u64 rfl Tryd.runUnderlying3 Tryd.runUnderlying92 rfl) (Wd.u rfl) rfl rfl ?_
  -- call (*selvage/codec.writer).number
  refine LR.call rfl Tryd.call51 rfl (Wd.u rfl) rfl rfl (wnumL 2 w0 _ vw ow (hd25) (by decide) (by omega)) (fun v37 H37 r37 => ?_)
  have ql17 := va.lt
  have ql18 := vw.lt
  have ql19 := ow.le
  obtain ⟨s37, k37, y37, rfl, vw, ow, hk37, hd37, hy37, hs37⟩ := r37
  have df20 := DF.app (df11) (bf_hl.mono hm0.size) hk37
  have dj21 : Dj (H0.size + 1) k37 := Dj.app (dj12) ql17 hk37
  have dj22 : Dj (H11.size + 1) k37 := Dj.app (hd25) ql18 hk37
  have nx23 : Nx 0 H0.size k37 := Nx.tr (nx14) hk37 hm0.size
  replace hl := hl.upL hs37 (DFL.cons df3 (DFL.cons df11 DFL.nil))
  replace va := va.upL hs37 (DL.cons dj4 (DL.cons dj12 DL.nil))
  replace hm0 := (Mo.trL (ks := []) (hm0.mdn []) hs37 (MIL.cons (MI.app MI.z (nx5) (Nat.le_refl _)) (MIL.cons (MI.app MI.z (nx14) (Nat.le_refl _)) MIL.nil))).nil
  have hz7 := hs37.size
  have hle_ow := ow.le
  refine LR.nil ?_
  refine hK9 _ _ ?_
  refine CW.seq (fun K10 hK10 hE10 => ?_)
  refine CW.seq (fun K11 hK11 hE11 => ?_)
  refine CW.region ?_
  refine LR.v (Y.fieldAddr va.pt rfl Tryd.runUnderlying49 rfl rfl Tryd.sizeOf47 (by decide) rfl) (Wd.u rfl) rfl rfl ?_
  refine LR.v (Y.load1 (va.pt.drop 2) rfl Tryd.isAgg47 rfl) (Wd.u rfl) rfl rfl ?_
  refine LR.v (Y.cast (v2 := .int .i64 0) (Y.len (Rd.nil (fun _ => True) _ fI 1) rfl Tryd.runUnderlying47 rfl) (rfl)) (Wd.u rfl) rfl rfl ?_
  refine LR.v (Y.move rfl rfl) (Wd.u rfl) rfl rfl ?_
  refine LR.nil ?_
  refine hK11 _ _ ?_
  refine CW.block (fun K12 hK12 hX12 hE12 => ?_)
  -- WARN live slot not in fl: 39
  refine CW.loop (fun (_ : Unit) => [(1, .pointer (some ⟨H0.size, 0, none⟩)), (5, .pointer (some ⟨H11.size, 0, none⟩)), (40, .int .i64 0), (41, .int .i64 0)])
    (fun (_ : Unit) (H : Heap) => (True) ∧ Nw H37 H)
    (fun (_ : Unit) => 0) () ⟨rfl, rfl, rfl, rfl, trivial⟩ ?_ ?_
  ·
    exact ⟨trivial, Mo.refl _ _⟩
  intro _ HL1 hI1 K13 hN13 hE13
  obtain ⟨hT, hlm1⟩ := hI1
  replace hl := hl.nw hlm1
  replace va := va.nw hlm1
  replace vw := vw.nw hlm1
  replace ow := ow.nw hlm1
  replace hm0 := hm0.tr hlm1
  have hz8 := hlm1.size
  refine CW.seq (fun K14 hK14 hE14 => ?_)
  refine CW.region ?_
  refine LR.v (Y.lss rfl rfl rfl) (Wd.u rfl) rfl rfl ?_
  refine LR.nil ?_
  refine hK14 _ _ ?_
  refine CW.seq (fun K15 hK15 hE15 => ?_)
  refine CW.condp rfl (fun c42 => ?_) (fun c42 => ?_)
  ·
    exfalso; omega
  ·
    refine CW.exit (hE15 (.exit 0) nofun _ _ (hE13 (.exit 0) nofun _ _ (hX12 _ _ ?_)))
    refine hK10 _ _ ?_
    refine CW.seq (fun K16 hK16 hE16 => ?_)
    refine CW.seq (fun K17 hK17 hE17 => ?_)
    refine CW.region ?_
    refine LR.v (Y.fieldAddr va.pt rfl Tryd.runUnderlying49 rfl rfl Tryd.sizeOf4 (by decide) rfl) (Wd.u rfl) rfl rfl ?_
    refine LR.v (Y.load1 (va.pt.drop 3) rfl Tryd.isAgg4 rfl) (Wd.u rfl) rfl rfl ?_
    refine LR.nil ?_
    refine hK17 _ _ ?_
    refine CW.cond_t rfl ?_
    refine CW.region ?_
    refine LR.v (Y.move rfl rfl) (Wd.u rfl) rfl rfl ?_
    refine LR.v (Y.fieldAddr va.pt rfl Tryd.runUnderlying49 rfl rfl Tryd.sizeOf26 (by decide) rfl) (Wd.u rfl) rfl rfl ?_
    refine LR.v (Y.cast (v2 := qv x) (Y.loadN ((va.pt.drop 4).take 70) rfl Tryd.isAgg26 Tryd.sizeOf26 (by simp [fX_len]) rfl) (congrArg (fun z : List Value => Value.agg z.toArray) (fX_q x))) (Wd.u rfl) rfl rfl ?_
    -- call (*selvage/codec.writer).seq
    refine LR.call rfl Tryd.call55 rfl (Wd.u rfl) rfl rfl (wseq_ct _ _ _ _ x F w0 _ vw ow (hd37) (by omega) hl (bf_hl.mono hm0.size) (df3) (df20) hw he hk0) (fun v67 H67 r67 => ?_)
    have ql24 := va.lt
    have ql25 := vw.lt
    have ql26 := ow.le
    obtain ⟨s67, k67, y67, rfl, vw, ow, hk67, hd67, hy67, hs67⟩ := r67
    have df27 := DF.app (df20) (bf_hl.mono hm0.size) hk67
    have dj28 : Dj (H0.size + 1) k67 := Dj.app (dj21) ql24 hk67
    have dj29 : Dj (H11.size + 1) k67 := Dj.app (hd37) ql25 hk67
    have nx30 : Nx 0 H0.size k67 := Nx.tr (nx23) hk67 hm0.size
    replace hl := hl.upL hs67 (DFL.cons df3 (DFL.cons df20 DFL.nil))
    replace va := va.upL hs67 (DL.cons dj4 (DL.cons dj21 DL.nil))
    replace hm0 := (Mo.trL (ks := []) (hm0.mdn []) hs67 (MIL.cons (MI.app MI.z (nx5) (Nat.le_refl _)) (MIL.cons (MI.app MI.z (nx23) (Nat.le_refl _)) MIL.nil))).nil
    have hz9 := hs67.size
    have hle_ow := ow.le
    refine LR.nil ?_
    refine hK16 _ _ ?_
    refine CW.seq (fun K18 hK18 hE18 => ?_)
    refine CW.region ?_
    refine LR.v (Y.move rfl rfl) (Wd.u rfl) rfl rfl ?_
    refine LR.v (Y.fieldAddr va.pt rfl Tryd.runUnderlying49 rfl rfl Tryd.sizeOf44 (by decide) rfl) (Wd.u rfl) rfl rfl ?_
    refine LR.v (Y.load1 va.pt.x74 rfl Tryd.isAgg44 rfl) (Wd.u rfl) rfl rfl ?_
    refine LR.v (Y.cast (v2 := .int .i64 ((0 : Nat) : Int)) (Y.len (Rd.nil (fun _ => True) _ fI 1) rfl Tryd.runUnderlying44 rfl) (rfl)) (Wd.u rfl) rfl rfl ?_
    refine LR.v (Y.conv_u64 rfl Tryd.runUnderlying3 Tryd.runUnderlying92 rfl) (Wd.u rfl) rfl rfl ?_
    -- call (*selvage/codec.writer).number
    refine LR.call rfl Tryd.call51 rfl (Wd.u rfl) rfl rfl (wnumL 2 w0 _ vw ow (hd67) (by decide) (by omega)) (fun v73 H73 r73 => ?_)
    have ql31 := va.lt
    have ql32 := vw.lt
    have ql33 := ow.le
    obtain ⟨s73, k73, y73, rfl, vw, ow, hk73, hd73, hy73, hs73⟩ := r73
    have df34 := DF.app (df27) (bf_hl.mono hm0.size) hk73
    have dj35 : Dj (H0.size + 1) k73 := Dj.app (dj28) ql31 hk73
    have dj36 : Dj (H11.size + 1) k73 := Dj.app (hd67) ql32 hk73
    have nx37 : Nx 0 H0.size k73 := Nx.tr (nx30) hk73 hm0.size
    replace hl := hl.upL hs73 (DFL.cons df3 (DFL.cons df27 DFL.nil))
    replace va := va.upL hs73 (DL.cons dj4 (DL.cons dj28 DL.nil))
    replace hm0 := (Mo.trL (ks := []) (hm0.mdn []) hs73 (MIL.cons (MI.app MI.z (nx5) (Nat.le_refl _)) (MIL.cons (MI.app MI.z (nx30) (Nat.le_refl _)) MIL.nil))).nil
    have hz10 := hs73.size
    have hle_ow := ow.le
    refine LR.nil ?_
    refine hK18 _ _ ?_
    refine CW.seq (fun K19 hK19 hE19 => ?_)
    refine CW.seq (fun K20 hK20 hE20 => ?_)
    refine CW.region ?_
    refine LR.v (Y.fieldAddr va.pt rfl Tryd.runUnderlying49 rfl rfl Tryd.sizeOf44 (by decide) rfl) (Wd.u rfl) rfl rfl ?_
    refine LR.v (Y.load1 va.pt.x74 rfl Tryd.isAgg44 rfl) (Wd.u rfl) rfl rfl ?_
    refine LR.v (Y.cast (v2 := .int .i64 0) (Y.len (Rd.nil (fun _ => True) _ fI 1) rfl Tryd.runUnderlying44 rfl) (rfl)) (Wd.u rfl) rfl rfl ?_
    refine LR.v (Y.move rfl rfl) (Wd.u rfl) rfl rfl ?_
    refine LR.nil ?_
    refine hK20 _ _ ?_
    refine CW.block (fun K21 hK21 hX21 hE21 => ?_)
    refine CW.loop (fun (_ : Unit) => [(5, .pointer (some ⟨H11.size, 0, none⟩)), (75, NIL), (76, .int .i64 0), (77, .int .i64 0)])
      (fun (_ : Unit) (H : Heap) => (True) ∧ Nw H73 H)
      (fun (_ : Unit) => 0) () ⟨rfl, rfl, rfl, rfl, trivial⟩ ?_ ?_
    ·
      exact ⟨trivial, Mo.refl _ _⟩
    intro _ HL2 hI2 K22 hN22 hE22
    obtain ⟨hT, hlm2⟩ := hI2
    replace hl := hl.nw hlm2
    replace vw := vw.nw hlm2
    replace ow := ow.nw hlm2
    replace hm0 := hm0.tr hlm2
    have hz11 := hlm2.size
    refine CW.seq (fun K23 hK23 hE23 => ?_)
    refine CW.region ?_
    refine LR.v (Y.lss rfl rfl rfl) (Wd.u rfl) rfl rfl ?_
    refine LR.nil ?_
    refine hK23 _ _ ?_
    refine CW.seq (fun K24 hK24 hE24 => ?_)
    refine CW.condp rfl (fun c78 => ?_) (fun c78 => ?_)
    ·
      exfalso; omega
    ·
      refine CW.exit (hE24 (.exit 2) nofun _ _ (hE22 (.exit 2) nofun _ _ (hX21 _ _ ?_)))
      refine hK19 _ _ ?_
      refine CW.seq (fun K25 hK25 hE25 => ?_)
      refine CW.region ?_
      refine LR.v (Y.move rfl rfl) (Wd.u rfl) rfl rfl ?_
      -- call (*selvage/codec.writer).done
      refine LR.call rfl Tryd.call56 rfl (Wd.u rfl) rfl rfl (wdone_ct _ _ w0 _ vw) (fun v92 H92 r92 => ?_)
      obtain ⟨rfl, hs92⟩ := r92
      replace hl := hl.nw hs92
      replace vw := vw.nw hs92
      replace ow := ow.nw hs92
      replace hm0 := hm0.tr hs92
      have hz12 := hs92.size
      refine LR.v (Y.extract rfl rfl rfl) (Wd.u rfl) rfl rfl ?_
      refine LR.v (Y.extract rfl rfl rfl) (Wd.u rfl) rfl rfl ?_
      refine LR.v (Y.assign rfl rfl) (Wd.u rfl) rfl rfl ?_
      refine LR.v (Y.assign rfl rfl) (Wd.u rfl) rfl rfl ?_
      refine LR.nil ?_
      refine hK25 _ _ ?_
      refine CW.ret (hret .ret (.inr rfl) _ _ _ (res2 rfl rfl rfl) ?_)
      exact ⟨s73, k73, y73, rfl, ow, nx37, by simp at hy25; omega, hm0⟩

end Go.Proofs.YtabopjdbgkhacaaDoor.SeqF
