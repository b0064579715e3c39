/-
  Sequences: the step that is next; a sequence that is its own.
-/
import Derived.Test.YtabopjdbgkhacaaDoorSeqG
namespace Go.Proofs.YtabopjdbgkhacaaDoor.SeqH
open Go.Proofs.YtabopjdbgkhacaaDoor.E Go.RowKit Go.Proofs.YtabopjdbgkhacaaDoor.NamA Go.Proofs.YtabopjdbgkhacaaDoor.NamB Go.Proofs.YtabopjdbgkhacaaDoor.NamC Go.Proofs.YtabopjdbgkhacaaDoor.NamD Go.Proofs.YtabopjdbgkhacaaDoor.SeqA Go.Proofs.YtabopjdbgkhacaaDoor.SeqB Go.Proofs.YtabopjdbgkhacaaDoor.SeqC Go.Proofs.YtabopjdbgkhacaaDoor.SeqD Go.Proofs.YtabopjdbgkhacaaDoor.SeqE Go.Proofs.YtabopjdbgkhacaaDoor.SeqF Go.Proofs.YtabopjdbgkhacaaDoor.SeqG Go.Proofs.YtabopjdbgkhacaaDoor.Num
set_option maxRecDepth 20000
set_option linter.unusedVariables false
set_option linter.unusedSimpArgs false
set_option linter.unusedSectionVars false
set_option maxRecDepth 100000 in
theorem inf24 : Inf Tryd.prog 24 29 33 40 := ⟨Tryd.underlying24, _, _, rfl, rfl, rfl, rfl, rfl⟩

def zT : Td := ⟨0, Z32⟩
theorem zW : SqW zQ := ⟨by simp [zQ], by simp [zQ], by simp [zQ], by simp [zQ]⟩
/-- the step that is next, as it is to be done -/
def nextF (x : Sq) : Td × Bool := if sqChk x ≠ 0 then (zT, false) else (if ((x.td[x.dn.toNat]?).getD zT).d = 3 ∧ x.md = 0 then ⟨1, ((x.td[x.dn.toNat]?).getD zT).i⟩ else (x.td[x.dn.toNat]?).getD zT, true)
theorem next_no {x : Sq} (h : sqChk x ≠ 0) : nextF x = (zT, false) := if_pos h
theorem next_ok {x : Sq} (h : sqChk x = 0) (hi : x.dn.toNat < x.td.length) : nextF x = (if x.td[x.dn.toNat].d = 3 ∧ x.md = 0 then ⟨1, x.td[x.dn.toNat].i⟩ else x.td[x.dn.toNat], true) := by
  unfold nextF; rw [if_neg (fun q => q h), List.getElem?_eq_getElem hi]; rfl
theorem next1 {x : Sq} (h : sqChk x = 0) (hi : x.dn.toNat < x.td.length) (h2 : x.td[x.dn.toNat].d = 3) (h3 : x.md = 0) : (⟨1, x.td[x.dn.toNat].i⟩ : Td) = (nextF x).1 := by rw [next_ok h hi, if_pos ⟨h2, h3⟩]
theorem next2 {x : Sq} (h : sqChk x = 0) (hi : x.dn.toNat < x.td.length) (h2 : ¬ (x.td[x.dn.toNat].d = 3 ∧ x.md = 0)) : x.td[x.dn.toNat] = (nextF x).1 := by rw [next_ok h hi, if_neg h2]
theorem next3 {x : Sq} (h : sqChk x = 0) (hi : x.dn.toNat < x.td.length) (h2 : x.td[x.dn.toNat].d = 1) : (⟨1, x.td[x.dn.toNat].i⟩ : Td) = (nextF x).1 := by rw [next_ok h hi, if_neg (by omega), ← h2]
theorem chk0 {x : Sq} (h : sqChk x = 0) : x.k ≠ 0 ∧ seqE x = 0 ∧ 0 ≤ x.dn ∧ x.dn < x.td.length ∧ 0 ≤ x.md ∧ x.md ≤ x.dn ∧ x.td.length ≤ 100 := by
  unfold sqChk at h
  split at h
  · cases h
  rename_i h1
  split at h
  · rename_i h2; exact absurd h h2
  rename_i h2
  split at h
  · cases h
  rename_i h3
  have h0 : seqE x = 0 := by simpa using h2
  refine ⟨h1, h0, ?_⟩
  have he := enc_of h0
  unfold seqE at h0
  split at h0
  · cases h0
  split at h0
  · cases h0
  rename_i h4
  split at h0
  · cases h0
  rename_i ha
  have ha : argB x = true := by cases e : argB x with | true => rfl | false => exact absurd e ha
  obtain ⟨_, _, a3, a4, a5, a6, _⟩ := of_decide_eq_true ha
  have := he.td
  exact ⟨a3, by omega, a5, a6, by omega⟩
theorem chkz {x : Sq} (h : x.k = 0) : sqChk x ≠ 0 := by unfold sqChk; rw [if_pos h]; decide
/-- one that is its own -/
def ownF (x : Sq) (s : SV) : Sq := if sqChk x ≠ 0 then zQ else { x with tv := s }
def didF (x : Sq) (c : List UInt8) (m : Bool) (s : SV) : Sq := if sqChk x ≠ 0 ∨ x.dn + 1 = x.td.length then zQ else { x with tv := s, dn := x.dn + 1, cu := c, st := false, md := if m = true then x.md + 1 else x.md }
def stopF (x : Sq) (s : SV) : Sq := if sqChk x ≠ 0 then zQ else { x with tv := s, st := true }

theorem next_ct (x : Sq) (mx_ : Int) (w0 : World) (H0 : Heap)
    (mx : MX mx_ H0) (bf_mx : BF (fun b => b = 0) H0.size) (hl : RdT H0 fT 33 x.tv.v x.td) (hw : SqW x) :
    Ct Tryd.prog w0 6 #[qv x] H0 (fun r H2 => r = .tuple #[tv_ (nextF x).1, .bool (nextF x).2] ∧ Nw H0 H2) := by
  refine Ct.enter (args := [qv x]) Tryd.func6 rfl rfl rfl ?_
  intro Q0 hret
  have hm0 : Nw H0 H0 := Mo.refl _ _
  replace hl := hl.bnd
  have bf_hl := Rd.bf hl
  have hll := hl.len
  refine CW.seq (fun K1 hK1 hE1 => ?_)
  refine CW.region ?_
  refine LR.z (Z.boxv rfl rfl) (Wd.u rfl) rfl rfl (fun v1 H1 r1 => ?_)
  obtain ⟨rfl, va, hs1, ob1, hH1⟩ := r1
  have hzs1 : H1.size = H0.size + 1 := by rw [hH1]; simp
  have df1 := (DF.new (bf_mx.mono hm0.size) : DF _ (H0.size + 1))
  have df2 := (DF.new (bf_hl.mono hm0.size) : DF _ (H0.size + 1))
  have nx3 : Nx 0 H0.size (H0.size + 1) := Nx.new hm0.size
  replace mx := mx.nw hs1
  replace hl := hl.nw hs1
  replace hm0 := hm0.tr hs1
  have hz1 := hs1.size
  replace va : Var 26 H1 H0.size (fQ x) := va
  refine LR.z (Z.allocv rfl Tryd.zeroValue29) (Wd.u rfl) rfl rfl (fun v2 H2 r2 => ?_)
  obtain ⟨rfl, vr, hs2, ob2, hH2⟩ := r2
  have hzs2 : H2.size = H1.size + 1 := by rw [hH2]; simp
  have df4 := (DF.new (bf_mx.mono hm0.size) : DF _ (H1.size + 1))
  have df5 := (DF.new (bf_hl.mono hm0.size) : DF _ (H1.size + 1))
  have dj6 : Dj (H0.size + 1) (H1.size + 1) := Dj.new va.lt
  have nx7 : Nx 0 H0.size (H1.size + 1) := Nx.new hm0.size
  replace mx := mx.nw hs2
  replace hl := hl.nw hs2
  replace va := va.nw hs2
  replace hm0 := hm0.tr hs2
  have hz2 := hs2.size
  refine LR.v (Y.assign rfl rfl) (Wd.u rfl) rfl rfl ?_
  refine LR.nil ?_
  refine hK1 _ _ ?_
  refine CW.seq (fun K2 hK2 hE2 => ?_)
  refine CW.seq (fun K3 hK3 hE3 => ?_)
  refine CW.region ?_
  refine LR.v (Y.loadN va.pt rfl Tryd.isAgg26 Tryd.sizeOf26 (fQ_len _) rfl) (Wd.u rfl) rfl rfl ?_
  -- call selvage/seq.Check
  refine LR.call rfl Tryd.call8 rfl (Wd.u rfl) rfl rfl (sqchk_ct x mx_ w0 _ mx (bf_mx.mono hm0.size) hl.any hw) (fun v6 H6 r6 => ?_)
  obtain ⟨rfl, hs6⟩ := r6
  replace mx := mx.nw hs6
  replace hl := hl.nw hs6
  replace va := va.nw hs6
  replace vr := vr.nw hs6
  replace hm0 := hm0.tr hs6
  have hz3 := hs6.size
  refine LR.v (Y.neq rfl rfl rfl) (Wd.u rfl) rfl rfl ?_
  refine LR.nil ?_
  refine hK3 _ _ ?_
  refine CW.condp rfl (fun c7 => ?_) (fun c7 => ?_)
  ·
    refine CW.seq (fun K4 hK4 hE4 => ?_)
    refine CW.region ?_
    refine LR.v (Y.build (v := tv_ zT) rfl rfl (by intro w; kernel_rfl)) (Wd.u rfl) rfl rfl ?_
    refine LR.s (S.var vr (_) (fT zT) rfl rfl rfl rfl (fT_one zT) Tryd.sizeOf29 (fT_len _) (by first | decide | simp [fT_len]) ((splice_all2 (by first | exact (fT_len _).symm | exact (fT_len _).trans (fT_len _).symm)))) (Wd.u rfl) rfl (fun H2_1 r2_1 => ?_)
    obtain ⟨vr, hs2_1⟩ := r2_1
    replace hs2_1 := hs2_1.md1
    replace mx := mx.upL hs2_1 (DFL.cons df4 DFL.nil)
    replace hl := hl.upL hs2_1 (DFL.cons df5 DFL.nil)
    replace va := va.upL hs2_1 (DL.cons dj6 DL.nil)
    replace hm0 := (Mo.trL (ks := []) (hm0.mdn []) hs2_1 (MIL.cons (MI.app MI.z (nx7) (Nat.le_refl _)) MIL.nil)).nil
    have hz4 := hs2_1.size
    refine LR.v (Y.assign rfl rfl) (Wd.u rfl) rfl rfl ?_
    refine LR.nil ?_
    refine hK4 _ _ ?_
    refine CW.ret (hE2 .ret nofun _ _ (hret .ret (.inr rfl) _ _ _ (resCT rfl rfl vr.pt Tryd.isAgg29 Tryd.sizeOf29 (fT_len _) rfl) ?_))
    exact ⟨by rw [next_no c7], hm0⟩
  ·
    have h0 : sqChk x = 0 := by simpa using c7
    obtain ⟨hk0, hs0, hd0, hd1, hm0_, hm1, hl100⟩ := chk0 h0
    have hil : x.dn.toNat < x.td.length := by omega
    have hti := hw.ht x.td[x.dn.toNat] (List.getElem_mem hil)
    refine CW.skip ?_
    refine hK2 _ _ ?_
    refine CW.seq (fun K5 hK5 hE5 => ?_)
    refine CW.region ?_
    refine LR.v (Y.fieldAddr va.pt rfl Tryd.runUnderlying26 rfl rfl Tryd.sizeOf24 (by decide) rfl) (Wd.u rfl) rfl rfl ?_
    refine LR.v (Y.load1 va.pt.q66 rfl Tryd.isAgg24 rfl) (Wd.u rfl) rfl rfl ?_
    refine LR.v (Y.fieldAddr va.pt rfl Tryd.runUnderlying26 rfl rfl Tryd.sizeOf3 (by decide) rfl) (Wd.u rfl) rfl rfl ?_
    refine LR.v (Y.cast (v2 := .int .i64 ((x.dn).toNat : Nat)) (Y.load1 va.pt.q67 rfl Tryd.isAgg3 rfl) (ivv (by omega))) (Wd.u rfl) rfl rfl ?_
    refine LR.e (g := fun ad => .pointer (some ad)) (Y.indexAddrF hl (x.dn.toNat) rfl Tryd.runUnderlying24 Tryd.sizeOf29 rfl rfl (by first | rfl | omega) (by first | omega | (simp; omega) | (simp; done))) (Wd.u rfl) rfl rfl (fun ad13 pt13 => ?_)
    have bf_pt13 := bf_hl
    refine LR.v (Y.loadN pt13.pt rfl Tryd.isAgg29 Tryd.sizeOf29 (fT_len _) rfl) (Wd.u rfl) rfl rfl ?_
    refine LR.z (Z.allocv rfl Tryd.zeroValue29) (Wd.u rfl) rfl rfl (fun v4 H4 r4 => ?_)
    obtain ⟨rfl, vt, hs4, ob4, hH4⟩ := r4
    have hzs4 : H4.size = H6.size + 1 := by rw [hH4]; simp
    have df8 := (DF.new (bf_mx.mono hm0.size) : DF _ (H6.size + 1))
    have df9 := (DF.new (bf_hl.mono hm0.size) : DF _ (H6.size + 1))
    have dj10 : Dj (H0.size + 1) (H6.size + 1) := Dj.new va.lt
    have dj11 : Dj (H1.size + 1) (H6.size + 1) := Dj.new vr.lt
    have df12 := (DF.new (bf_pt13.mono hm0.size) : DF _ (H6.size + 1))
    have nx13 : Nx 0 H0.size (H6.size + 1) := Nx.new hm0.size
    replace mx := mx.nw hs4
    replace hl := hl.nw hs4
    replace va := va.nw hs4
    replace vr := vr.nw hs4
    replace pt13 := pt13.nw hs4
    replace hm0 := hm0.tr hs4
    have hz5 := hs4.size
    refine LR.s (S.var vt (_) (fT x.td[x.dn.toNat]) rfl rfl rfl rfl (fT_one x.td[x.dn.toNat]) Tryd.sizeOf29 (fT_len _) (by first | decide | simp [fT_len]) ((splice_all2 (by first | exact (fT_len _).symm | exact (fT_len _).trans (fT_len _).symm)))) (Wd.u rfl) rfl (fun H3_7 r3_7 => ?_)
    obtain ⟨vt, hs3_7⟩ := r3_7
    replace hs3_7 := hs3_7.md1
    replace mx := mx.upL hs3_7 (DFL.cons df8 DFL.nil)
    replace hl := hl.upL hs3_7 (DFL.cons df9 DFL.nil)
    replace va := va.upL hs3_7 (DL.cons dj10 DL.nil)
    replace vr := vr.upL hs3_7 (DL.cons dj11 DL.nil)
    replace pt13 := pt13.upL hs3_7 (DFL.cons df12 DFL.nil)
    replace hm0 := (Mo.trL (ks := []) (hm0.mdn []) hs3_7 (MIL.cons (MI.app MI.z (nx13) (Nat.le_refl _)) MIL.nil)).nil
    have hz6 := hs3_7.size
    refine LR.nil ?_
    refine hK5 _ _ ?_
    refine CW.seq (fun K6 hK6 hE6 => ?_)
    refine CW.seq (fun K7 hK7 hE7 => ?_)
    refine CW.region ?_
    refine LR.v (Y.fieldAddr vt.pt rfl Tryd.runUnderlying29 rfl rfl Tryd.sizeOf3 (by decide) rfl) (Wd.u rfl) rfl rfl ?_
    refine LR.v (Y.load1 vt.pt rfl Tryd.isAgg3 rfl) (Wd.u rfl) rfl rfl ?_
    refine LR.nil ?_
    refine hK7 _ _ ?_
    refine CW.block (fun K8 hK8 hX8 hE8 => ?_)
    refine CW.seq (fun K9 hK9 hE9 => ?_)
    refine CW.block (fun K10 hK10 hX10 hE10 => ?_)
    refine CW.seq (fun K11 hK11 hE11 => ?_)
    refine CW.block (fun K12 hK12 hX12 hE12 => ?_)
    refine CW.seq (fun K13 hK13 hE13 => ?_)
    refine CW.seq (fun K14 hK14 hE14 => ?_)
    refine CW.seq (fun K15 hK15 hE15 => ?_)
    refine CW.region ?_
    refine LR.v (Y.eql rfl rfl rfl) (Wd.u rfl) rfl rfl ?_
    refine LR.v (Y.assign rfl rfl) (Wd.u rfl) rfl rfl ?_
    refine LR.nil ?_
    refine hK15 _ _ ?_
    refine CW.condp rfl (fun c17 => ?_) (fun c17 => ?_)
    ·
      refine CW.exit (hE14 (.exit 1) nofun _ _ (hE13 (.exit 1) nofun _ _ (hX12 _ _ ?_)))
      refine hK11 _ _ ?_
      refine CW.seq (fun K16 hK16 hE16 => ?_)
      refine CW.region ?_
      refine LR.v (Y.fieldAddr va.pt rfl Tryd.runUnderlying26 rfl rfl Tryd.sizeOf3 (by decide) rfl) (Wd.u rfl) rfl rfl ?_
      refine LR.v (Y.load1 (va.pt.q67.drop 1) rfl Tryd.isAgg3 rfl) (Wd.u rfl) rfl rfl ?_
      refine LR.v (Y.gtr rfl rfl rfl) (Wd.u rfl) rfl rfl ?_
      refine LR.nil ?_
      refine hK16 _ _ ?_
      refine CW.condp rfl (fun c23 => ?_) (fun c23 => ?_)
      ·
        refine CW.exit (hE10 (.exit 0) nofun (by simp) _ _ (hE9 (.exit 0) nofun _ _ (hX8 _ _ ?_)))
        refine hK6 _ _ ?_
        refine CW.seq (fun K17 hK17 hE17 => ?_)
        refine CW.region ?_
        obtain ⟨t1, ht1, vt⟩ : ∃ t : Td, t = (nextF x).1 ∧ Var 29 _ _ (fT t) := ⟨_, by first | (exact next1 h0 hil (by assumption) (by omega)) | (exact next2 h0 hil (by omega)) | (exact next3 h0 hil (by assumption)), vt⟩
        refine LR.v (Y.loadN vt.pt rfl Tryd.isAgg29 Tryd.sizeOf29 (fT_len _) rfl) (Wd.u rfl) rfl rfl ?_
        refine LR.s (S.var vr (_) (fT t1) rfl rfl rfl rfl (fT_one t1) Tryd.sizeOf29 (fT_len _) (by first | decide | simp [fT_len]) ((splice_all2 (by first | exact (fT_len _).symm | exact (fT_len _).trans (fT_len _).symm)))) (Wd.u rfl) rfl (fun H9_1 r9_1 => ?_)
        obtain ⟨vr, hs9_1⟩ := r9_1
        replace hs9_1 := hs9_1.md1
        replace mx := mx.upL hs9_1 (DFL.cons df4 DFL.nil)
        replace hl := hl.upL hs9_1 (DFL.cons df5 DFL.nil)
        replace vt := vt.upL hs9_1 (DL.cons dj11.symm DL.nil)
        replace hm0 := (Mo.trL (ks := []) (hm0.mdn []) hs9_1 (MIL.cons (MI.app MI.z (nx7) (Nat.le_refl _)) MIL.nil)).nil
        have hz7 := hs9_1.size
        refine LR.v (Y.assign rfl rfl) (Wd.u rfl) rfl rfl ?_
        refine LR.nil ?_
        refine hK17 _ _ ?_
        refine CW.ret (hret .ret (.inr rfl) _ _ _ (resCT rfl rfl vr.pt Tryd.isAgg29 Tryd.sizeOf29 (fT_len _) rfl) ?_)
        exact ⟨by rw [ht1, next_ok h0 hil], hm0⟩
      ·
        refine CW.skip ?_
        refine hK10 _ _ ?_
        refine hK9 _ _ ?_
        refine CW.seq (fun K18 hK18 hE18 => ?_)
        refine CW.region ?_
        refine LR.v (Y.fieldAddr vt.pt rfl Tryd.runUnderlying29 rfl rfl Tryd.sizeOf3 (by decide) rfl) (Wd.u rfl) rfl rfl ?_
        refine LR.s (S.var1 vt 0 (fT ⟨1, x.td[x.dn.toNat].i⟩) rfl rfl rfl (rfl) Tryd.sizeOf3 (by simp [fT_len]) (rfl)) (Wd.u rfl) rfl (fun H8_1 r8_1 => ?_)
        obtain ⟨vt, hs8_1⟩ := r8_1
        replace hs8_1 := hs8_1.md1
        replace mx := mx.upL hs8_1 (DFL.cons df8 DFL.nil)
        replace hl := hl.upL hs8_1 (DFL.cons df9 DFL.nil)
        replace vr := vr.upL hs8_1 (DL.cons dj11 DL.nil)
        replace hm0 := (Mo.trL (ks := []) (hm0.mdn []) hs8_1 (MIL.cons (MI.app MI.z (nx13) (Nat.le_refl _)) MIL.nil)).nil
        have hz8 := hs8_1.size
        refine LR.nil ?_
        refine hK18 _ _ ?_
        refine CW.exit (hX8 _ _ ?_)
        refine hK6 _ _ ?_
        refine CW.seq (fun K19 hK19 hE19 => ?_)
        refine CW.region ?_
        obtain ⟨t1, ht1, vt⟩ : ∃ t : Td, t = (nextF x).1 ∧ Var 29 _ _ (fT t) := ⟨_, by first | (exact next1 h0 hil (by assumption) (by omega)) | (exact next2 h0 hil (by omega)) | (exact next3 h0 hil (by assumption)), vt⟩
        refine LR.v (Y.loadN vt.pt rfl Tryd.isAgg29 Tryd.sizeOf29 (fT_len _) rfl) (Wd.u rfl) rfl rfl ?_
        refine LR.s (S.var vr (_) (fT t1) rfl rfl rfl rfl (fT_one t1) Tryd.sizeOf29 (fT_len _) (by first | decide | simp [fT_len]) ((splice_all2 (by first | exact (fT_len _).symm | exact (fT_len _).trans (fT_len _).symm)))) (Wd.u rfl) rfl (fun H9_1 r9_1 => ?_)
        obtain ⟨vr, hs9_1⟩ := r9_1
        replace hs9_1 := hs9_1.md1
        replace mx := mx.upL hs9_1 (DFL.cons df4 DFL.nil)
        replace hl := hl.upL hs9_1 (DFL.cons df5 DFL.nil)
        replace vt := vt.upL hs9_1 (DL.cons dj11.symm DL.nil)
        replace hm0 := (Mo.trL (ks := []) (hm0.mdn []) hs9_1 (MIL.cons (MI.app MI.z (nx7) (Nat.le_refl _)) MIL.nil)).nil
        have hz9 := hs9_1.size
        refine LR.v (Y.assign rfl rfl) (Wd.u rfl) rfl rfl ?_
        refine LR.nil ?_
        refine hK19 _ _ ?_
        refine CW.ret (hret .ret (.inr rfl) _ _ _ (resCT rfl rfl vr.pt Tryd.isAgg29 Tryd.sizeOf29 (fT_len _) rfl) ?_)
        exact ⟨by rw [ht1, next_ok h0 hil], hm0⟩
    ·
      refine CW.skip ?_
      refine hK14 _ _ ?_
      refine CW.seq (fun K20 hK20 hE20 => ?_)
      refine CW.region ?_
      refine LR.v (Y.eql rfl rfl rfl) (Wd.u rfl) rfl rfl ?_
      refine LR.v (Y.assign rfl rfl) (Wd.u rfl) rfl rfl ?_
      refine LR.nil ?_
      refine hK20 _ _ ?_
      refine CW.condp rfl (fun c19 => ?_) (fun c19 => ?_)
      ·
        refine CW.exit (hE13 (.exit 2) nofun _ _ (hE12 (.exit 2) nofun (by simp) _ _ (hE11 (.exit 2) nofun _ _ (hX10 _ _ ?_))))
        refine hK9 _ _ ?_
        refine CW.seq (fun K21 hK21 hE21 => ?_)
        refine CW.region ?_
        refine LR.v (Y.fieldAddr vt.pt rfl Tryd.runUnderlying29 rfl rfl Tryd.sizeOf3 (by decide) rfl) (Wd.u rfl) rfl rfl ?_
        refine LR.s (S.var1 vt 0 (fT ⟨1, x.td[x.dn.toNat].i⟩) rfl rfl rfl (rfl) Tryd.sizeOf3 (by simp [fT_len]) (rfl)) (Wd.u rfl) rfl (fun H8_1 r8_1 => ?_)
        obtain ⟨vt, hs8_1⟩ := r8_1
        replace hs8_1 := hs8_1.md1
        replace mx := mx.upL hs8_1 (DFL.cons df8 DFL.nil)
        replace hl := hl.upL hs8_1 (DFL.cons df9 DFL.nil)
        replace vr := vr.upL hs8_1 (DL.cons dj11 DL.nil)
        replace hm0 := (Mo.trL (ks := []) (hm0.mdn []) hs8_1 (MIL.cons (MI.app MI.z (nx13) (Nat.le_refl _)) MIL.nil)).nil
        have hz10 := hs8_1.size
        refine LR.nil ?_
        refine hK21 _ _ ?_
        refine CW.exit (hX8 _ _ ?_)
        refine hK6 _ _ ?_
        refine CW.seq (fun K22 hK22 hE22 => ?_)
        refine CW.region ?_
        obtain ⟨t1, ht1, vt⟩ : ∃ t : Td, t = (nextF x).1 ∧ Var 29 _ _ (fT t) := ⟨_, by first | (exact next1 h0 hil (by assumption) (by omega)) | (exact next2 h0 hil (by omega)) | (exact next3 h0 hil (by assumption)), vt⟩
        refine LR.v (Y.loadN vt.pt rfl Tryd.isAgg29 Tryd.sizeOf29 (fT_len _) rfl) (Wd.u rfl) rfl rfl ?_
        refine LR.s (S.var vr (_) (fT t1) rfl rfl rfl rfl (fT_one t1) Tryd.sizeOf29 (fT_len _) (by first | decide | simp [fT_len]) ((splice_all2 (by first | exact (fT_len _).symm | exact (fT_len _).trans (fT_len _).symm)))) (Wd.u rfl) rfl (fun H9_1 r9_1 => ?_)
        obtain ⟨vr, hs9_1⟩ := r9_1
        replace hs9_1 := hs9_1.md1
        replace mx := mx.upL hs9_1 (DFL.cons df4 DFL.nil)
        replace hl := hl.upL hs9_1 (DFL.cons df5 DFL.nil)
        replace vt := vt.upL hs9_1 (DL.cons dj11.symm DL.nil)
        replace hm0 := (Mo.trL (ks := []) (hm0.mdn []) hs9_1 (MIL.cons (MI.app MI.z (nx7) (Nat.le_refl _)) MIL.nil)).nil
        have hz11 := hs9_1.size
        refine LR.v (Y.assign rfl rfl) (Wd.u rfl) rfl rfl ?_
        refine LR.nil ?_
        refine hK22 _ _ ?_
        refine CW.ret (hret .ret (.inr rfl) _ _ _ (resCT rfl rfl vr.pt Tryd.isAgg29 Tryd.sizeOf29 (fT_len _) rfl) ?_)
        exact ⟨by rw [ht1, next_ok h0 hil], hm0⟩
      ·
        refine CW.skip ?_
        refine hK13 _ _ ?_
        refine CW.exit (hE12 (.exit 0) nofun (by simp) _ _ (hE11 (.exit 0) nofun _ _ (hE10 (.exit 0) nofun (by simp) _ _ (hE9 (.exit 0) nofun _ _ (hX8 _ _ ?_)))))
        refine hK6 _ _ ?_
        refine CW.seq (fun K23 hK23 hE23 => ?_)
        refine CW.region ?_
        obtain ⟨t1, ht1, vt⟩ : ∃ t : Td, t = (nextF x).1 ∧ Var 29 _ _ (fT t) := ⟨_, by first | (exact next1 h0 hil (by assumption) (by omega)) | (exact next2 h0 hil (by omega)) | (exact next3 h0 hil (by assumption)), vt⟩
        refine LR.v (Y.loadN vt.pt rfl Tryd.isAgg29 Tryd.sizeOf29 (fT_len _) rfl) (Wd.u rfl) rfl rfl ?_
        refine LR.s (S.var vr (_) (fT t1) rfl rfl rfl rfl (fT_one t1) Tryd.sizeOf29 (fT_len _) (by first | decide | simp [fT_len]) ((splice_all2 (by first | exact (fT_len _).symm | exact (fT_len _).trans (fT_len _).symm)))) (Wd.u rfl) rfl (fun H9_1 r9_1 => ?_)
        obtain ⟨vr, hs9_1⟩ := r9_1
        replace hs9_1 := hs9_1.md1
        replace mx := mx.upL hs9_1 (DFL.cons df4 DFL.nil)
        replace hl := hl.upL hs9_1 (DFL.cons df5 DFL.nil)
        replace vt := vt.upL hs9_1 (DL.cons dj11.symm DL.nil)
        replace hm0 := (Mo.trL (ks := []) (hm0.mdn []) hs9_1 (MIL.cons (MI.app MI.z (nx7) (Nat.le_refl _)) MIL.nil)).nil
        have hz12 := hs9_1.size
        refine LR.v (Y.assign rfl rfl) (Wd.u rfl) rfl rfl ?_
        refine LR.nil ?_
        refine hK23 _ _ ?_
        refine CW.ret (hret .ret (.inr rfl) _ _ _ (resCT rfl rfl vr.pt Tryd.isAgg29 Tryd.sizeOf29 (fT_len _) rfl) ?_)
        exact ⟨by rw [ht1, next_ok h0 hil], hm0⟩

theorem tclone_ct (v1 : Value) (a : List Td) (w0 : World) (H0 : Heap)
    (ha : RdT H0 fT 33 v1 a) (hal : a.length ≤ 1048576) :
    Ct Tryd.prog w0 34 #[v1] H0 (fun r H2 => ∃ s : SV, ∃ k : Nat, r = s.v ∧ (Ow k 29 H2 fT 33 s.v a) ∧ (Nx 0 H0.size k) ∧ Nw H0 H2) := by
  refine Ct.enter (args := [v1]) Tryd.func34 rfl rfl rfl ?_
  intro Q0 hret
  have hm0 : Nw H0 H0 := Mo.refl _ _
  replace ha := ha.bnd
  have bf_ha := Rd.bf ha
  obtain ⟨p, cp, rfl, _, _, hne⟩ := id ha.ex
  refine CW.seq (fun K1 hK1 hE1 => ?_)
  refine CW.region ?_
  refine LR.v (Y.assign rfl rfl) (Wd.u rfl) rfl rfl ?_
  refine LR.nil ?_
  refine hK1 _ _ ?_
  refine CW.seq (fun K2 hK2 hE2 => ?_)
  refine CW.seq (fun K3 hK3 hE3 => ?_)
  refine CW.region ?_
  refine LR.v (Y.move rfl rfl) (Wd.u rfl) rfl rfl ?_
  refine LR.v (Y.sleq rfl Tryd.underlying24 rfl rfl) (Wd.u rfl) rfl rfl ?_
  refine LR.nil ?_
  refine hK3 _ _ ?_
  refine CW.cond rfl (fun c4 => ?_) (fun c4 => ?_)
  ·
    obtain rfl : a = [] := by
      apply Decidable.byContradiction
      intro h
      obtain ⟨ad, h1, _⟩ := hne h
      rw [h1] at c4; cases c4
    refine CW.seq (fun K4 hK4 hE4 => ?_)
    refine CW.region ?_
    refine LR.v (Y.assign rfl rfl) (Wd.u rfl) rfl rfl ?_
    refine LR.nil ?_
    refine hK4 _ _ ?_
    refine CW.ret (hE2 .ret nofun _ _ (hret .ret (.inr rfl) _ _ _ (res1 rfl rfl) ?_))
    exact ⟨⟨none, 0, 0⟩, 0, rfl, Ow.nil fT_len fT_one, Nx.refl _ _, hm0⟩
  ·
    
    refine CW.skip ?_
    refine hK2 _ _ ?_
    refine CW.seq (fun K5 hK5 hE5 => ?_)
    refine CW.region ?_
    refine LR.z (Z.litw _ (([] : List Td)) rfl inf24 rfl rfl rfl (by decide) (by decide) fT_len fT_one (rfl)) (Wd.u rfl) rfl rfl (fun v5 H5 r5 => ?_)
    obtain ⟨ow5, hs5, ob5, hH5⟩ := r5
    have hzs5 : H5.size = H0.size + 1 := by rw [hH5]; simp
    have df1 := (DF.new (bf_ha.mono hm0.size) : DF _ (H0.size + 1))
    have nx2 : Nx 0 H0.size (H0.size + 1) := Nx.new hm0.size
    replace ha := ha.nw hs5
    replace hm0 := hm0.tr hs5
    have hz1 := hs5.size
    refine LR.v (Y.move rfl rfl) (Wd.u rfl) rfl rfl ?_
    refine LR.z (Z.apnd ow5 ha rfl inf24 rfl rfl (by first | omega | (simp; omega)) (by first | omega | (simp; omega))) (Wd.u rfl) rfl rfl (fun v7 H7 r7 => ?_)
    obtain ⟨k7, ow7, hk7, hs7⟩ := r7
    replace hk7 : Nx (H0.size + 1) H5.size k7 := hk7
    replace hs7 := hs7.md
    have df3 := DF.app (df1) (bf_ha.mono hm0.size) hk7
    have nx4 : Nx 0 H0.size k7 := Nx.tr (nx2) hk7 hm0.size
    replace ha := ha.upL hs7 (DFL.cons df1 DFL.nil)
    replace hm0 := (Mo.trL (ks := []) (hm0.mdn []) hs7 (MIL.cons (MI.app MI.z (nx2) (Nat.le_refl _)) MIL.nil)).nil
    have hz2 := hs7.size
    have hle_ow7 := ow7.le
    refine LR.v (Y.assign rfl rfl) (Wd.u rfl) rfl rfl ?_
    refine LR.nil ?_
    refine hK5 _ _ ?_
    refine CW.ret (hret .ret (.inr rfl) _ _ _ (res1 rfl rfl) ?_)
    obtain ⟨s7, rfl⟩ : ∃ s : SV, v7 = s.v := ⟨toSV v7, ow7.sv.symm⟩
    exact ⟨s7, k7, rfl, by simpa using ow7, nx4, hm0⟩

end Go.Proofs.YtabopjdbgkhacaaDoor.SeqH
