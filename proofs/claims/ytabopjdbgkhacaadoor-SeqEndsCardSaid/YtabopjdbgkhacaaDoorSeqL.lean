/-
  Sequences: the chapter's example.
-/
import Derived.Test.YtabopjdbgkhacaaDoorSeqK
namespace Go.Proofs.YtabopjdbgkhacaaDoor.SeqL
open Go.Proofs.YtabopjdbgkhacaaDoor.E Go.RowKit Go.Proofs.YtabopjdbgkhacaaDoor.NamA Go.Proofs.YtabopjdbgkhacaaDoor.NamB Go.Proofs.YtabopjdbgkhacaaDoor.NamC Go.Proofs.YtabopjdbgkhacaaDoor.NamD Go.Proofs.YtabopjdbgkhacaaDoor.SeqA Go.Proofs.YtabopjdbgkhacaaDoor.SeqB Go.Proofs.YtabopjdbgkhacaaDoor.SeqC Go.Proofs.YtabopjdbgkhacaaDoor.SeqD Go.Proofs.YtabopjdbgkhacaaDoor.SeqE Go.Proofs.YtabopjdbgkhacaaDoor.SeqF Go.Proofs.YtabopjdbgkhacaaDoor.SeqG Go.Proofs.YtabopjdbgkhacaaDoor.SeqH Go.Proofs.YtabopjdbgkhacaaDoor.SeqI Go.Proofs.YtabopjdbgkhacaaDoor.SeqJ Go.Proofs.YtabopjdbgkhacaaDoor.SeqK Go.Proofs.YtabopjdbgkhacaaDoor.Num
set_option maxRecDepth 20000
set_option linter.unusedVariables false
set_option linter.unusedSimpArgs false
set_option linter.unusedSectionVars false
set_option maxRecDepth 100000 in
theorem inf24 : Inf Tryd.prog 24 29 33 40 := ⟨Tryd.underlying24, _, _, rfl, rfl, rfl, rfl, rfl⟩

def idn (n : UInt8) : List UInt8 := n :: List.replicate 31 0
theorem idn_len (n : UInt8) : (idn n).length = 32 := by simp [idn]
def x0 (s : SV) : Sq := ⟨1, [98], idn 1, idn 1, s, [⟨1, idn 2⟩, ⟨3, idn 3⟩], 0, 0, false⟩
def x1 (s : SV) : Sq := ⟨1, [98], idn 1, idn 4, s, [⟨1, idn 2⟩, ⟨3, idn 3⟩], 1, 1, false⟩
theorem x0W (s : SV) : SqW (x0 s) := ⟨idn_len _, idn_len _, by simp [x0, idn_len], by simp [x0]⟩
theorem x1W (s : SV) : SqW (x1 s) := ⟨idn_len _, idn_len _, by simp [x1, idn_len], by simp [x1]⟩
theorem kn0 (s : SV) : nextF (x0 s) = (⟨1, idn 2⟩, true) := by kernel_rfl
theorem kn1 (s t : SV) : didF (x0 s) (idn 4) true t = x1 t := by kernel_rfl
theorem kn2 (s t : SV) : didF (x1 s) (idn 5) true t = zQ := by kernel_rfl

theorem known_ct (mx_ : Int) (w0 : World) (H0 : Heap)
    (mx : MX mx_ H0) (bf_mx : BF (fun b => b = 0) H0.size) :
    Ct Tryd.prog w0 5 #[] H0 (fun r H2 => r = .bool true ∧ Nw H0 H2) := by
  refine Ct.enter (args := []) Tryd.func5 rfl rfl rfl ?_
  intro Q0 hret
  have hm0 : Nw H0 H0 := Mo.refl _ _
  refine CW.seq (fun K1 hK1 hE1 => ?_)
  refine CW.region ?_
  refine LR.v (Y.assign rfl rfl) (Wd.u rfl) rfl rfl ?_
  refine LR.nil ?_
  refine hK1 _ _ ?_
  refine CW.seq (fun K2 hK2 hE2 => ?_)
  refine CW.region ?_
  refine LR.v (Y.build (v := idV (idn 1)) rfl rfl (by intro w; kernel_rfl)) (Wd.u rfl) rfl rfl ?_
  refine LR.v (Y.build (v := idV (idn 1)) rfl rfl (by intro w; kernel_rfl)) (Wd.u rfl) rfl rfl ?_
  refine LR.v (Y.build (v := idV (idn 2)) rfl rfl (by intro w; kernel_rfl)) (Wd.u rfl) rfl rfl ?_
  refine LR.v (Y.build (v := tv_ ⟨1, idn 2⟩) rfl rfl (by intro w; kernel_rfl)) (Wd.u rfl) rfl rfl ?_
  refine LR.v (Y.build (v := idV (idn 3)) rfl rfl (by intro w; kernel_rfl)) (Wd.u rfl) rfl rfl ?_
  refine LR.v (Y.build (v := tv_ ⟨3, idn 3⟩) rfl rfl (by intro w; kernel_rfl)) (Wd.u rfl) rfl rfl ?_
  refine LR.z (Z.litw _ ([⟨1, idn 2⟩, ⟨3, idn 3⟩]) rfl inf24 rfl rfl rfl (by decide) (by decide) fT_len fT_one (rfl)) (Wd.u rfl) rfl rfl (fun v11 H11 r11 => ?_)
  obtain ⟨owx, hs11, ob11, hH11⟩ := r11
  have hzs11 : H11.size = H0.size + 1 := by rw [hH11]; simp
  have df1 := (DF.new (bf_mx.mono hm0.size) : DF _ (H0.size + 1))
  have nx2 : Nx 0 H0.size (H0.size + 1) := Nx.new hm0.size
  replace mx := mx.nw hs11
  replace hm0 := hm0.tr hs11
  have hz1 := hs11.size
  obtain ⟨s11, rfl⟩ : ∃ s : SV, v11 = s.v := ⟨toSV v11, owx.sv.symm⟩
  refine LR.v (Y.build (v := qv (x0 s11)) rfl rfl (by intro w; kernel_rfl)) (Wd.u rfl) rfl rfl ?_
  refine LR.z (Z.allocv rfl Tryd.zeroValue26) (Wd.u rfl) rfl rfl (fun v1 H1 r1 => ?_)
  obtain ⟨rfl, vx, hs1, ob1, hH1⟩ := r1
  have hzs1 : H1.size = H11.size + 1 := by rw [hH1]; simp
  have df3 := (DF.new (bf_mx.mono hm0.size) : DF _ (H11.size + 1))
  have dj4 : Dj (H0.size + 1) (H11.size + 1) := Dj.new owx.le
  have nx5 : Nx 0 H0.size (H11.size + 1) := Nx.new hm0.size
  replace mx := mx.nw hs1
  replace owx := owx.nw hs1
  replace hm0 := hm0.tr hs1
  have hz2 := hs1.size
  refine LR.s (S.var vx (_) (fQ (x0 s11)) rfl rfl rfl rfl (fQ_one (x0 s11)) Tryd.sizeOf26 (fQ_len _) (by first | decide | simp [fQ_len]) ((splice_all2 (by first | exact (fQ_len _).symm | exact (fQ_len _).trans (fQ_len _).symm)))) (Wd.u rfl) rfl (fun H1_9 r1_9 => ?_)
  obtain ⟨vx, hs1_9⟩ := r1_9
  replace hs1_9 := hs1_9.md1
  replace mx := mx.upL hs1_9 (DFL.cons df3 DFL.nil)
  replace owx := owx.upL hs1_9 (DL.cons dj4 DL.nil)
  replace hm0 := (Mo.trL (ks := []) (hm0.mdn []) hs1_9 (MIL.cons (MI.app MI.z (nx5) (Nat.le_refl _)) MIL.nil)).nil
  have hz3 := hs1_9.size
  refine LR.nil ?_
  refine hK2 _ _ ?_
  refine CW.seq (fun K3 hK3 hE3 => ?_)
  refine CW.region ?_
  refine LR.v (Y.loadN vx.pt rfl Tryd.isAgg26 Tryd.sizeOf26 (fQ_len _) rfl) (Wd.u rfl) rfl rfl ?_
  -- call selvage/seq.Next
  refine LR.call rfl Tryd.call6 rfl (Wd.u rfl) rfl rfl (next_ct (x0 s11) mx_ w0 _ mx (bf_mx.mono hm0.size) owx.rd.any (x0W _)) (fun v15 H15 r15 => ?_)
  obtain ⟨rfl, hs15⟩ := r15
  replace mx := mx.nw hs15
  replace owx := owx.nw hs15
  replace vx := vx.nw hs15
  replace hm0 := hm0.tr hs15
  have hz4 := hs15.size
  rw [kn0]
  refine LR.v (Y.move rfl rfl) (Wd.u rfl) rfl rfl ?_
  refine LR.v (Y.extract rfl rfl rfl) (Wd.u rfl) rfl rfl ?_
  refine LR.v (Y.extract rfl rfl rfl) (Wd.u rfl) rfl rfl ?_
  refine LR.z (Z.allocv rfl Tryd.zeroValue29) (Wd.u rfl) rfl rfl (fun v2 H2 r2 => ?_)
  obtain ⟨rfl, vt, hs2, ob2, hH2⟩ := r2
  have hzs2 : H2.size = H15.size + 1 := by rw [hH2]; simp
  have df6 := (DF.new (bf_mx.mono hm0.size) : DF _ (H15.size + 1))
  have dj7 : Dj (H0.size + 1) (H15.size + 1) := Dj.new owx.le
  have dj8 : Dj (H11.size + 1) (H15.size + 1) := Dj.new vx.lt
  have nx9 : Nx 0 H0.size (H15.size + 1) := Nx.new hm0.size
  replace mx := mx.nw hs2
  replace owx := owx.nw hs2
  replace vx := vx.nw hs2
  replace hm0 := hm0.tr hs2
  have hz5 := hs2.size
  refine LR.s (S.var vt (_) (fT ⟨1, idn 2⟩) rfl rfl rfl rfl (fT_one ⟨1, idn 2⟩) Tryd.sizeOf29 (fT_len _) (by first | decide | simp [fT_len]) ((splice_all2 (by first | exact (fT_len _).symm | exact (fT_len _).trans (fT_len _).symm)))) (Wd.u rfl) rfl (fun H2_6 r2_6 => ?_)
  obtain ⟨vt, hs2_6⟩ := r2_6
  replace hs2_6 := hs2_6.md1
  replace mx := mx.upL hs2_6 (DFL.cons df6 DFL.nil)
  replace owx := owx.upL hs2_6 (DL.cons dj7 DL.nil)
  replace vx := vx.upL hs2_6 (DL.cons dj8 DL.nil)
  replace hm0 := (Mo.trL (ks := []) (hm0.mdn []) hs2_6 (MIL.cons (MI.app MI.z (nx9) (Nat.le_refl _)) MIL.nil)).nil
  have hz6 := hs2_6.size
  refine LR.v (Y.assign rfl rfl) (Wd.u rfl) rfl rfl ?_
  refine LR.nil ?_
  refine hK3 _ _ ?_
  refine CW.seq (fun K4 hK4 hE4 => ?_)
  refine CW.region ?_
  refine LR.v (Y.loadN vx.pt rfl Tryd.isAgg26 Tryd.sizeOf26 (fQ_len _) rfl) (Wd.u rfl) rfl rfl ?_
  refine LR.v (Y.build (v := idV (idn 4)) rfl rfl (by intro w; kernel_rfl)) (Wd.u rfl) rfl rfl ?_
  -- call selvage/seq.Did
  refine LR.call rfl Tryd.call12 rfl (Wd.u rfl) rfl rfl (did_ct (x0 s11) (idn 4) true mx_ w0 _ mx (bf_mx.mono hm0.size) owx.rd.any (x0W _) (idn_len _)) (fun v20 H20 r20 => ?_)
  obtain ⟨s20, k20, rfl, ow, hk20, hs20⟩ := r20
  have df10 := DF.app (DF.z) (bf_mx.mono hm0.size) hk20
  have dj11 : Dj (H0.size + 1) k20 := Dj.app (Dj.z) owx.le hk20
  have dj12 : Dj (H11.size + 1) k20 := Dj.app (Dj.z) vx.lt hk20
  have dj13 : Dj (H15.size + 1) k20 := Dj.app (Dj.z) vt.lt hk20
  have nx14 : Nx 0 H0.size k20 := Nx.tr (Nx.refl 0 _) hk20 hm0.size
  replace mx := mx.nw hs20
  replace owx := owx.nw hs20
  replace vx := vx.nw hs20
  replace vt := vt.nw hs20
  replace hm0 := hm0.tr hs20
  have hz7 := hs20.size
  have hle_ow := ow.le
  rw [kn1] at ow ⊢
  refine LR.s (S.var vx (_) (fQ (x1 s20)) rfl rfl rfl rfl (fQ_one (x1 s20)) Tryd.sizeOf26 (fQ_len _) (by first | decide | simp [fQ_len]) ((splice_all2 (by first | exact (fQ_len _).symm | exact (fQ_len _).trans (fQ_len _).symm)))) (Wd.u rfl) rfl (fun H3_3 r3_3 => ?_)
  obtain ⟨vx, hs3_3⟩ := r3_3
  replace hs3_3 := hs3_3.md1
  replace mx := mx.upL hs3_3 (DFL.cons df3 DFL.nil)
  replace owx := owx.upL hs3_3 (DL.cons dj4 DL.nil)
  replace vt := vt.upL hs3_3 (DL.cons dj8.symm DL.nil)
  replace ow := ow.upL hs3_3 (DL.cons dj12.symm DL.nil)
  replace hm0 := (Mo.trL (ks := []) (hm0.mdn []) hs3_3 (MIL.cons (MI.app MI.z (nx5) (Nat.le_refl _)) MIL.nil)).nil
  have hz8 := hs3_3.size
  refine LR.nil ?_
  refine hK4 _ _ ?_
  refine CW.seq (fun K5 hK5 hE5 => ?_)
  refine CW.region ?_
  refine LR.v (Y.loadN vx.pt rfl Tryd.isAgg26 Tryd.sizeOf26 (fQ_len _) rfl) (Wd.u rfl) rfl rfl ?_
  refine LR.v (Y.build (v := idV (idn 5)) rfl rfl (by intro w; kernel_rfl)) (Wd.u rfl) rfl rfl ?_
  -- call selvage/seq.Did
  refine LR.call rfl Tryd.call12 rfl (Wd.u rfl) rfl rfl (did_ct (x1 s20) (idn 5) true mx_ w0 _ mx (bf_mx.mono hm0.size) ow.rd.any (x1W _) (idn_len _)) (fun v23 H23 r23 => ?_)
  obtain ⟨s23, k23, rfl, ow2, hk23, hs23⟩ := r23
  have df15 := DF.app (DF.z) (bf_mx.mono hm0.size) hk23
  have dj16 : Dj (H0.size + 1) k23 := Dj.app (Dj.z) owx.le hk23
  have dj17 : Dj (H11.size + 1) k23 := Dj.app (Dj.z) vx.lt hk23
  have dj18 : Dj (H15.size + 1) k23 := Dj.app (Dj.z) vt.lt hk23
  have dj19 : Dj k20 k23 := Dj.app (Dj.z) ow.le hk23
  have nx20 : Nx 0 H0.size k23 := Nx.tr (Nx.refl 0 _) hk23 hm0.size
  replace mx := mx.nw hs23
  replace owx := owx.nw hs23
  replace vx := vx.nw hs23
  replace vt := vt.nw hs23
  replace ow := ow.nw hs23
  replace hm0 := hm0.tr hs23
  have hz9 := hs23.size
  have hle_ow2 := ow2.le
  rw [kn2] at ow2 ⊢
  refine LR.z (Z.allocv rfl Tryd.zeroValue26) (Wd.u rfl) rfl rfl (fun v4 H4 r4 => ?_)
  obtain ⟨rfl, vu, hs4, ob4, hH4⟩ := r4
  have hzs4 : H4.size = H23.size + 1 := by rw [hH4]; simp
  have df21 := (DF.new (bf_mx.mono hm0.size) : DF _ (H23.size + 1))
  have dj22 : Dj (H0.size + 1) (H23.size + 1) := Dj.new owx.le
  have dj23 : Dj (H11.size + 1) (H23.size + 1) := Dj.new vx.lt
  have dj24 : Dj (H15.size + 1) (H23.size + 1) := Dj.new vt.lt
  have dj25 : Dj k20 (H23.size + 1) := Dj.new ow.le
  have dj26 : Dj k23 (H23.size + 1) := Dj.new ow2.le
  have nx27 : Nx 0 H0.size (H23.size + 1) := Nx.new hm0.size
  replace mx := mx.nw hs4
  replace owx := owx.nw hs4
  replace vx := vx.nw hs4
  replace vt := vt.nw hs4
  replace ow := ow.nw hs4
  replace ow2 := ow2.nw hs4
  replace hm0 := hm0.tr hs4
  have hz10 := hs4.size
  refine LR.s (S.var vu (_) (fQ zQ) rfl rfl rfl rfl (fQ_one zQ) Tryd.sizeOf26 (fQ_len _) (by first | decide | simp [fQ_len]) ((splice_all2 (by first | exact (fQ_len _).symm | exact (fQ_len _).trans (fQ_len _).symm)))) (Wd.u rfl) rfl (fun H4_4 r4_4 => ?_)
  obtain ⟨vu, hs4_4⟩ := r4_4
  replace hs4_4 := hs4_4.md1
  replace mx := mx.upL hs4_4 (DFL.cons df21 DFL.nil)
  replace owx := owx.upL hs4_4 (DL.cons dj22 DL.nil)
  replace vx := vx.upL hs4_4 (DL.cons dj23 DL.nil)
  replace vt := vt.upL hs4_4 (DL.cons dj24 DL.nil)
  replace ow := ow.upL hs4_4 (DL.cons dj25 DL.nil)
  replace ow2 := ow2.upL hs4_4 (DL.cons dj26 DL.nil)
  replace hm0 := (Mo.trL (ks := []) (hm0.mdn []) hs4_4 (MIL.cons (MI.app MI.z (nx27) (Nat.le_refl _)) MIL.nil)).nil
  have hz11 := hs4_4.size
  refine LR.nil ?_
  refine hK5 _ _ ?_
  refine CW.seq (fun K6 hK6 hE6 => ?_)
  refine CW.region ?_
  refine LR.v (Y.move rfl rfl) (Wd.u rfl) rfl rfl ?_
  refine LR.v (Y.move rfl rfl) (Wd.u rfl) rfl rfl ?_
  refine LR.v (Y.fieldAddr vt.pt rfl Tryd.runUnderlying29 rfl rfl Tryd.sizeOf3 (by decide) rfl) (Wd.g rfl rfl rfl) rfl rfl ?_
  refine LR.v (Y.load1 vt.pt rfl Tryd.isAgg3 rfl) (Wd.g rfl rfl rfl) rfl rfl ?_
  refine LR.v ((Y.eql rfl rfl rfl).isT (rfl)) (Wd.g rfl rfl rfl) rfl rfl ?_
  refine LR.v (Y.pick_t rfl rfl rfl) (Wd.u rfl) rfl rfl ?_
  refine LR.v (Y.move rfl rfl) (Wd.u rfl) rfl rfl ?_
  refine LR.v (Y.fieldAddr vx.pt rfl Tryd.runUnderlying26 rfl rfl Tryd.sizeOf3 (by decide) rfl) (Wd.g rfl rfl rfl) rfl rfl ?_
  refine LR.v (Y.cast (v2 := .int .i64 1) (Y.load1 vx.pt.q67 rfl Tryd.isAgg3 rfl) (rfl)) (Wd.g rfl rfl rfl) rfl rfl ?_
  refine LR.v ((Y.eql rfl rfl rfl).isT (rfl)) (Wd.g rfl rfl rfl) rfl rfl ?_
  refine LR.v (Y.pick_t rfl rfl rfl) (Wd.u rfl) rfl rfl ?_
  refine LR.v (Y.move rfl rfl) (Wd.u rfl) rfl rfl ?_
  refine LR.v (Y.fieldAddr vx.pt rfl Tryd.runUnderlying26 rfl rfl Tryd.sizeOf3 (by decide) rfl) (Wd.g rfl rfl rfl) rfl rfl ?_
  refine LR.v (Y.cast (v2 := .int .i64 1) (Y.load1 (vx.pt.q67.drop 1) rfl Tryd.isAgg3 rfl) (rfl)) (Wd.g rfl rfl rfl) rfl rfl ?_
  refine LR.v ((Y.eql rfl rfl rfl).isT (rfl)) (Wd.g rfl rfl rfl) rfl rfl ?_
  refine LR.v (Y.pick_t rfl rfl rfl) (Wd.u rfl) rfl rfl ?_
  refine LR.v (Y.move rfl rfl) (Wd.u rfl) rfl rfl ?_
  refine LR.v (Y.fieldAddr vx.pt rfl Tryd.runUnderlying26 rfl rfl Tryd.sizeOf23 (by decide) rfl) (Wd.g rfl rfl rfl) rfl rfl ?_
  refine LR.v (Y.cast (v2 := idV (x1 s20).cu) (Y.loadN ((vx.pt.drop 34).take 32) rfl Tryd.isAgg23 Tryd.sizeOf23 (by simp [fQ_len]) rfl) (congrArg (fun z : List Value => Value.agg z.toArray) ((fQ_cu _).trans (kc_eq (x1W s20).hc)))) (Wd.g rfl rfl rfl) rfl rfl ?_
  refine LR.v (Y.build (v := idV (idn 4)) rfl rfl (by intro w; kernel_rfl)) (Wd.g rfl rfl rfl) rfl rfl ?_
  refine LR.v ((Y.aeql rfl Tryd.eqGuardType23 (fun w => run_equalIn_id 9998 Tryd.underlying23 Tryd.underlying5 Tryd.sizeOf5 Tryd.isAgg5 (idn_len _) (idn_len _) w) rfl rfl).isT (rfl)) (Wd.g rfl rfl rfl) rfl rfl ?_
  refine LR.v (Y.pick_t rfl rfl rfl) (Wd.u rfl) rfl rfl ?_
  refine LR.v (Y.move rfl rfl) (Wd.u rfl) rfl rfl ?_
  refine LR.v (Y.fieldAddr vu.pt rfl Tryd.runUnderlying26 rfl rfl Tryd.sizeOf3 (by decide) rfl) (Wd.g rfl rfl rfl) rfl rfl ?_
  refine LR.v (Y.cast (v2 := .int .i64 0) (Y.load1 vu.pt rfl Tryd.isAgg3 rfl) (rfl)) (Wd.g rfl rfl rfl) rfl rfl ?_
  refine LR.v ((Y.eql rfl rfl rfl).isT (rfl)) (Wd.g rfl rfl rfl) rfl rfl ?_
  refine LR.v (Y.pick_t rfl rfl rfl) (Wd.u rfl) rfl rfl ?_
  refine LR.v (Y.move rfl rfl) (Wd.u rfl) rfl rfl ?_
  refine LR.v (Y.fieldAddr vu.pt rfl Tryd.runUnderlying26 rfl rfl Tryd.sizeOf24 (by decide) rfl) (Wd.g rfl rfl rfl) rfl rfl ?_
  refine LR.v (Y.load1 vu.pt.q66 rfl Tryd.isAgg24 rfl) (Wd.g rfl rfl rfl) rfl rfl ?_
  refine LR.v (Y.cast (v2 := .int .i64 0) (Y.len (Rd.nil (fun _ => True) _ fI 1) rfl Tryd.runUnderlying24 rfl) (rfl)) (Wd.g rfl rfl rfl) rfl rfl ?_
  refine LR.v ((Y.eql rfl rfl rfl).isT (rfl)) (Wd.g rfl rfl rfl) rfl rfl ?_
  refine LR.v (Y.pick_t rfl rfl rfl) (Wd.u rfl) rfl rfl ?_
  refine LR.v (Y.assign rfl rfl) (Wd.u rfl) rfl rfl ?_
  refine LR.nil ?_
  refine hK6 _ _ ?_
  refine CW.ret (hret .ret (.inr rfl) _ _ _ (res1 rfl rfl) ?_)
  exact ⟨rfl, hm0⟩

end Go.Proofs.YtabopjdbgkhacaaDoor.SeqL
