/-
  Sequences: a step that is done, stopping, skipping.
-/
import Derived.Test.YtabopjdbgkhacaaDoorSeqH
namespace Go.Proofs.YtabopjdbgkhacaaDoor.SeqI
open Go.Proofs.YtabopjdbgkhacaaDoor.E Go.RowKit Go.Proofs.YtabopjdbgkhacaaDoor.NamA Go.Proofs.YtabopjdbgkhacaaDoor.NamB Go.Proofs.YtabopjdbgkhacaaDoor.NamC Go.Proofs.YtabopjdbgkhacaaDoor.NamD Go.Proofs.YtabopjdbgkhacaaDoor.SeqA Go.Proofs.YtabopjdbgkhacaaDoor.SeqB Go.Proofs.YtabopjdbgkhacaaDoor.SeqC Go.Proofs.YtabopjdbgkhacaaDoor.SeqD Go.Proofs.YtabopjdbgkhacaaDoor.SeqE Go.Proofs.YtabopjdbgkhacaaDoor.SeqF Go.Proofs.YtabopjdbgkhacaaDoor.SeqG Go.Proofs.YtabopjdbgkhacaaDoor.SeqH Go.Proofs.YtabopjdbgkhacaaDoor.Num
set_option maxRecDepth 20000
set_option linter.unusedVariables false
set_option linter.unusedSimpArgs false
set_option linter.unusedSectionVars false
set_option maxRecDepth 100000 in
theorem inf24 : Inf Tryd.prog 24 29 33 40 := ⟨Tryd.underlying24, _, _, rfl, rfl, rfl, rfl, rfl⟩

theorem own_no {x : Sq} (h : sqChk x ≠ 0) (s : SV) : ownF x s = zQ := if_pos h
theorem own_ok {x : Sq} (h : sqChk x = 0) (s : SV) : ownF x s = { x with tv := s } := if_neg (fun q => q h)
theorem own_k0 {x y : Sq} {s : SV} (hy : y = ownF x s) (h : y.k = 0) : sqChk x ≠ 0 := by
  intro h0; rw [hy, own_ok h0] at h; exact chkz h h0
theorem own_k1 {x y : Sq} {s : SV} (hy : y = ownF x s) (h : ¬ y.k = 0) : sqChk x = 0 ∧ y = { x with tv := s } := by
  by_cases h0 : sqChk x = 0
  · exact ⟨h0, by rw [hy, own_ok h0]⟩
  · rw [hy, own_no h0] at h; exact absurd rfl h
theorem did_no {x : Sq} (h : sqChk x ≠ 0 ∨ x.dn + 1 = x.td.length) (c : List UInt8) (m : Bool) (s : SV) : didF x c m s = zQ := if_pos h
theorem did_t {x y : Sq} {s : SV} {m : Bool} {c : List UInt8} (h0 : sqChk x = 0) (h1 : ¬ x.dn + 1 = x.td.length) (e : y = { x with tv := s }) (hm : m = true) : ({ y with dn := y.dn + 1, cu := c, st := false, md := y.md + 1 } : Sq) = didF x c m s := by
  subst e hm; unfold didF; rw [if_neg (fun q => q.elim (fun q => q h0) h1)]; rfl
theorem did_f {x y : Sq} {s : SV} {m : Bool} {c : List UInt8} (h0 : sqChk x = 0) (h1 : ¬ x.dn + 1 = x.td.length) (e : y = { x with tv := s }) (hm : m = false) : ({ y with dn := y.dn + 1, cu := c, st := false } : Sq) = didF x c m s := by
  subst e hm; unfold didF; rw [if_neg (fun q => q.elim (fun q => q h0) h1)]; rfl
theorem did_ow {x y : Sq} {s : SV} {H : Heap} {k : Nat} (c : List UInt8) (m : Bool) (h0 : sqChk x = 0) (h1 : ¬ x.dn + 1 = x.td.length) (e : y = { x with tv := s }) (h : Ow k 29 H fT 33 y.tv.v y.td) : Ow k 29 H fT 33 (didF x c m s).tv.v (didF x c m s).td := by
  subst e; unfold didF; rw [if_neg (fun q => q.elim (fun q => q h0) h1)]; exact h
theorem did_w {x : Sq} (h : SqW x) {c : List UInt8} (hc : c.length = 32) (m : Bool) (s : SV) : SqW (didF x c m s) := by
  unfold didF; split
  · exact zW
  · exact ⟨h.ho, hc, h.ht, h.hb⟩
theorem own_st {x y : Sq} {s : SV} (hy : y = ownF x s) : ({ y with st := decide (y.k ≠ 0) } : Sq) = stopF x s := by
  unfold stopF
  by_cases h0 : sqChk x = 0
  · have h1 : x.k ≠ 0 := (chk0 h0).1
    rw [if_neg (fun q => q h0), hy, own_ok h0]
    simp [h1]
  · rw [if_pos h0, hy, own_no h0]; simp [zQ]
theorem stop_ok {x : Sq} (h : sqChk x = 0) (s : SV) : stopF x s = { x with tv := s, st := true } := if_neg (fun q => q h)
theorem stop_ow {x y : Sq} {s : SV} {H : Heap} {k : Nat} (hy : y = ownF x s) (h : Ow k 29 H fT 33 y.tv.v y.td) : Ow k 29 H fT 33 (stopF x s).tv.v (stopF x s).td := by
  rw [← own_st hy]; exact h
theorem zOw (H : Heap) : Ow 0 29 H fT 33 zQ.tv.v zQ.td := Ow.nil fT_len fT_one

theorem own_ct (x : Sq) (mx_ : Int) (w0 : World) (H0 : Heap)
    (mx : MX mx_ H0) (bf_mx : BF (fun b => b = 0) H0.size) (hl : RdT H0 fT 33 x.tv.v x.td) (hw : SqW x) :
    Ct Tryd.prog w0 23 #[qv x] H0 (fun r H2 => ∃ s : SV, ∃ k : Nat, r = qv (ownF x s) ∧ (Ow k 29 H2 fT 33 (ownF x s).tv.v (ownF x s).td) ∧ (Nx 0 H0.size k) ∧ Nw H0 H2) := by
  refine Ct.enter (args := [qv x]) Tryd.func23 rfl rfl rfl ?_
  intro Q0 hret
  have hm0 : Nw H0 H0 := Mo.refl _ _
  replace hl := hl.bnd
  have bf_hl := Rd.bf hl
  have hll := hl.len
  refine CW.seq (fun K1 hK1 hE1 => ?_)
  refine CW.region ?_
  refine LR.z (Z.boxv rfl rfl) (Wd.u rfl) rfl rfl (fun v1 H1 r1 => ?_)
  obtain ⟨rfl, va, hs1, ob1, hH1⟩ := r1
  have hzs1 : H1.size = H0.size + 1 := by rw [hH1]; simp
  have df1 := (DF.new (bf_mx.mono hm0.size) : DF _ (H0.size + 1))
  have df2 := (DF.new (bf_hl.mono hm0.size) : DF _ (H0.size + 1))
  have nx3 : Nx 0 H0.size (H0.size + 1) := Nx.new hm0.size
  replace mx := mx.nw hs1
  replace hl := hl.nw hs1
  replace hm0 := hm0.tr hs1
  have hz1 := hs1.size
  replace va : Var 26 H1 H0.size (fQ x) := va
  refine LR.z (Z.allocv rfl Tryd.zeroValue26) (Wd.u rfl) rfl rfl (fun v2 H2 r2 => ?_)
  obtain ⟨rfl, vr, hs2, ob2, hH2⟩ := r2
  have hzs2 : H2.size = H1.size + 1 := by rw [hH2]; simp
  have df4 := (DF.new (bf_mx.mono hm0.size) : DF _ (H1.size + 1))
  have df5 := (DF.new (bf_hl.mono hm0.size) : DF _ (H1.size + 1))
  have dj6 : Dj (H0.size + 1) (H1.size + 1) := Dj.new va.lt
  have nx7 : Nx 0 H0.size (H1.size + 1) := Nx.new hm0.size
  replace mx := mx.nw hs2
  replace hl := hl.nw hs2
  replace va := va.nw hs2
  replace hm0 := hm0.tr hs2
  have hz2 := hs2.size
  refine LR.nil ?_
  refine hK1 _ _ ?_
  refine CW.seq (fun K2 hK2 hE2 => ?_)
  refine CW.seq (fun K3 hK3 hE3 => ?_)
  refine CW.region ?_
  refine LR.v (Y.loadN va.pt rfl Tryd.isAgg26 Tryd.sizeOf26 (fQ_len _) rfl) (Wd.u rfl) rfl rfl ?_
  -- call selvage/seq.Check
  refine LR.call rfl Tryd.call8 rfl (Wd.u rfl) rfl rfl (sqchk_ct x mx_ w0 _ mx (bf_mx.mono hm0.size) hl.any hw) (fun v4 H4 r4 => ?_)
  obtain ⟨rfl, hs4⟩ := r4
  replace mx := mx.nw hs4
  replace hl := hl.nw hs4
  replace va := va.nw hs4
  replace vr := vr.nw hs4
  replace hm0 := hm0.tr hs4
  have hz3 := hs4.size
  refine LR.v (Y.neq rfl rfl rfl) (Wd.u rfl) rfl rfl ?_
  refine LR.nil ?_
  refine hK3 _ _ ?_
  refine CW.condp rfl (fun c5 => ?_) (fun c5 => ?_)
  ·
    refine CW.seq (fun K4 hK4 hE4 => ?_)
    refine CW.region ?_
    refine LR.v (Y.build (v := qv zQ) rfl rfl (by intro w; kernel_rfl)) (Wd.u rfl) rfl rfl ?_
    refine LR.s (S.var vr (_) (fQ zQ) rfl rfl rfl rfl (fQ_one zQ) Tryd.sizeOf26 (fQ_len _) (by first | decide | simp [fQ_len]) ((splice_all2 (by first | exact (fQ_len _).symm | exact (fQ_len _).trans (fQ_len _).symm)))) (Wd.u rfl) rfl (fun H2_1 r2_1 => ?_)
    obtain ⟨vr, hs2_1⟩ := r2_1
    replace hs2_1 := hs2_1.md1
    replace mx := mx.upL hs2_1 (DFL.cons df4 DFL.nil)
    replace hl := hl.upL hs2_1 (DFL.cons df5 DFL.nil)
    replace va := va.upL hs2_1 (DL.cons dj6 DL.nil)
    replace hm0 := (Mo.trL (ks := []) (hm0.mdn []) hs2_1 (MIL.cons (MI.app MI.z (nx7) (Nat.le_refl _)) MIL.nil)).nil
    have hz4 := hs2_1.size
    refine LR.nil ?_
    refine hK4 _ _ ?_
    refine CW.ret (hE2 .ret nofun _ _ (hret .ret (.inr rfl) _ _ _ (resC rfl rfl vr.pt Tryd.isAgg26 Tryd.sizeOf26 (fQ_len _)) ?_))
    exact ⟨⟨none, 0, 0⟩, 0, by rw [own_no c5], by rw [own_no c5]; exact zOw _, Nx.refl _ _, hm0⟩
  ·
    have h0 : sqChk x = 0 := by simpa using c5
    obtain ⟨hk0, hs0, hd0, hd1, hm0_, hm1, hl100⟩ := chk0 h0
    refine CW.skip ?_
    refine hK2 _ _ ?_
    refine CW.seq (fun K5 hK5 hE5 => ?_)
    refine CW.region ?_
    refine LR.v (Y.fieldAddr va.pt rfl Tryd.runUnderlying26 rfl rfl Tryd.sizeOf24 (by decide) rfl) (Wd.u rfl) rfl rfl ?_
    refine LR.v (Y.load1 va.pt.q66 rfl Tryd.isAgg24 rfl) (Wd.u rfl) rfl rfl ?_
    -- call slices.Clone[[]selvage/api.Todo,selvage/api.Todo]
    refine LR.call rfl Tryd.call34 rfl (Wd.u rfl) rfl rfl (tclone_ct _ x.td w0 _ hl.any (by omega)) (fun v9 H9 r9 => ?_)
    obtain ⟨s9, k9, rfl, ow9, hk9, hs9⟩ := r9
    have df8 := DF.app (DF.z) (bf_mx.mono hm0.size) hk9
    have df9 := DF.app (DF.z) (bf_hl.mono hm0.size) hk9
    have dj10 : Dj (H0.size + 1) k9 := Dj.app (Dj.z) va.lt hk9
    have dj11 : Dj (H1.size + 1) k9 := Dj.app (Dj.z) vr.lt hk9
    have nx12 : Nx 0 H0.size k9 := Nx.tr (Nx.refl 0 _) hk9 hm0.size
    replace mx := mx.nw hs9
    replace hl := hl.nw hs9
    replace va := va.nw hs9
    replace vr := vr.nw hs9
    replace hm0 := hm0.tr hs9
    have hz5 := hs9.size
    have hle_ow9 := ow9.le
    refine LR.v (Y.fieldAddr va.pt rfl Tryd.runUnderlying26 rfl rfl Tryd.sizeOf24 (by decide) rfl) (Wd.u rfl) rfl rfl ?_
    refine LR.s (S.var1 va 66 (fQ { x with tv := s9 }) rfl rfl rfl (rfl) Tryd.sizeOf24 (by simp [fQ_len]) (q_tv x s9 x.td)) (Wd.u rfl) rfl (fun H3_4 r3_4 => ?_)
    obtain ⟨va, hs3_4⟩ := r3_4
    replace hs3_4 := hs3_4.md1
    replace mx := mx.upL hs3_4 (DFL.cons df1 DFL.nil)
    replace hl := hl.upL hs3_4 (DFL.cons df2 DFL.nil)
    replace vr := vr.upL hs3_4 (DL.cons dj6.symm DL.nil)
    replace ow9 := ow9.upL hs3_4 (DL.cons dj10.symm DL.nil)
    replace hm0 := (Mo.trL (ks := []) (hm0.mdn []) hs3_4 (MIL.cons (MI.app MI.z (nx3) (Nat.le_refl _)) MIL.nil)).nil
    have hz6 := hs3_4.size
    refine LR.nil ?_
    refine hK5 _ _ ?_
    refine CW.seq (fun K6 hK6 hE6 => ?_)
    refine CW.region ?_
    refine LR.v (Y.loadN va.pt rfl Tryd.isAgg26 Tryd.sizeOf26 (fQ_len _) rfl) (Wd.u rfl) rfl rfl ?_
    refine LR.s (S.var vr (_) (fQ { x with tv := s9 }) rfl rfl rfl rfl (fQ_one { x with tv := s9 }) Tryd.sizeOf26 (fQ_len _) (by first | decide | simp [fQ_len]) ((splice_all2 (by first | exact (fQ_len _).symm | exact (fQ_len _).trans (fQ_len _).symm)))) (Wd.u rfl) rfl (fun H4_1 r4_1 => ?_)
    obtain ⟨vr, hs4_1⟩ := r4_1
    replace hs4_1 := hs4_1.md1
    replace mx := mx.upL hs4_1 (DFL.cons df4 DFL.nil)
    replace hl := hl.upL hs4_1 (DFL.cons df5 DFL.nil)
    replace va := va.upL hs4_1 (DL.cons dj6 DL.nil)
    replace ow9 := ow9.upL hs4_1 (DL.cons dj11.symm DL.nil)
    replace hm0 := (Mo.trL (ks := []) (hm0.mdn []) hs4_1 (MIL.cons (MI.app MI.z (nx7) (Nat.le_refl _)) MIL.nil)).nil
    have hz7 := hs4_1.size
    refine LR.nil ?_
    refine hK6 _ _ ?_
    refine CW.ret (hret .ret (.inr rfl) _ _ _ (resC rfl rfl vr.pt Tryd.isAgg26 Tryd.sizeOf26 (fQ_len _)) ?_)
    exact ⟨s9, k9, by rw [own_ok h0], by rw [own_ok h0]; exact ow9, nx12, hm0⟩

end Go.Proofs.YtabopjdbgkhacaaDoor.SeqI
