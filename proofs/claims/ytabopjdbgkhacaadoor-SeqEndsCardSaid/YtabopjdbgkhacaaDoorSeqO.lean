/-
  Sequences: one such as may be.
-/
import Derived.Test.YtabopjdbgkhacaaDoorSeqM
namespace Go.Proofs.YtabopjdbgkhacaaDoor.SeqO
open Go.Proofs.YtabopjdbgkhacaaDoor.E Go.RowKit Go.Proofs.YtabopjdbgkhacaaDoor.NamA Go.Proofs.YtabopjdbgkhacaaDoor.NamB Go.Proofs.YtabopjdbgkhacaaDoor.NamC Go.Proofs.YtabopjdbgkhacaaDoor.NamD Go.Proofs.YtabopjdbgkhacaaDoor.SeqA Go.Proofs.YtabopjdbgkhacaaDoor.SeqB Go.Proofs.YtabopjdbgkhacaaDoor.SeqC Go.Proofs.YtabopjdbgkhacaaDoor.SeqD Go.Proofs.YtabopjdbgkhacaaDoor.SeqE Go.Proofs.YtabopjdbgkhacaaDoor.SeqF Go.Proofs.YtabopjdbgkhacaaDoor.SeqG Go.Proofs.YtabopjdbgkhacaaDoor.SeqH Go.Proofs.YtabopjdbgkhacaaDoor.SeqI Go.Proofs.YtabopjdbgkhacaaDoor.SeqJ Go.Proofs.YtabopjdbgkhacaaDoor.SeqK Go.Proofs.YtabopjdbgkhacaaDoor.SeqL Go.Proofs.YtabopjdbgkhacaaDoor.SeqM Go.Proofs.YtabopjdbgkhacaaDoor.Num
set_option maxRecDepth 20000
set_option linter.unusedVariables false
set_option linter.unusedSimpArgs false
set_option linter.unusedSectionVars false
set_option maxRecDepth 100000 in
theorem inf24 : Inf Tryd.prog 24 29 33 40 := ⟨Tryd.underlying24, _, _, rfl, rfl, rfl, rfl, rfl⟩

theorem q_og0 {x : Sq} (h : x.og.length = 32) (h2 : x.cu.length = 32) : (fQ x).set 2 (.int .u8 1) = fQ { x with og := x.og.set 0 1 } := by
  obtain ⟨k, br, og, cu, tv, td, dn, md, st⟩ := x
  simp only at h h2
  obtain ⟨b0, b1, b2, b3, b4, b5, b6, b7, b8, b9, b10, b11, b12, b13, b14, b15, b16, b17, b18, b19, b20, b21, b22, b23, b24, b25, b26, b27, b28, b29, b30, b31, rfl⟩ := l32 h
  rfl
theorem q_cu0 {x : Sq} (h : x.og.length = 32) (h2 : x.cu.length = 32) : (fQ x).set 34 (.int .u8 1) = fQ { x with cu := x.cu.set 0 1 } := by
  obtain ⟨k, br, og, cu, tv, td, dn, md, st⟩ := x
  simp only at h h2
  simp only [fQ, kc_eq h, kc_eq h2]
  obtain ⟨b0, b1, b2, b3, b4, b5, b6, b7, b8, b9, b10, b11, b12, b13, b14, b15, b16, b17, b18, b19, b20, b21, b22, b23, b24, b25, b26, b27, b28, b29, b30, b31, rfl⟩ := l32 h
  obtain ⟨c0, c1, c2, c3, c4, c5, c6, c7, c8, c9, c10, c11, c12, c13, c14, c15, c16, c17, c18, c19, c20, c21, c22, c23, c24, c25, c26, c27, c28, c29, c30, c31, rfl⟩ := l32 h2
  rfl
theorem t_i0 {t : Td} (h : t.i.length = 32) : (fT t).set 1 (.int .u8 1) = fT { t with i := t.i.set 0 1 } := by
  obtain ⟨d, i⟩ := t
  simp only at h
  obtain ⟨b0, b1, b2, b3, b4, b5, b6, b7, b8, b9, b10, b11, b12, b13, b14, b15, b16, b17, b18, b19, b20, b21, b22, b23, b24, b25, b26, b27, b28, b29, b30, b31, rfl⟩ := l32 h
  rfl
theorem set_nz {i : List UInt8} (h : i.length = 32) : ¬ i.set 0 1 = Z32 := by
  cases i with
  | nil => cases h
  | cons a i => intro e; have := congrArg List.head? e; simp [Z32, List.replicate] at this
/-- a step such as may be; a sequence such as may be -/
def okT (t : Td) : Prop := (1 ≤ t.d ∧ t.d ≤ 3) ∧ t.i.length = 32 ∧ ¬ t.i = Z32
structure GoodS (x : Sq) : Prop where
  k : x.k = 1 ∨ x.k = 2
  br : x.br = [98]
  og : ¬ x.og = Z32
  cu : ¬ x.cu = Z32
  ho : x.og.length = 32
  hc : x.cu.length = 32
  td : ∀ t ∈ x.td, okT t
  hl : x.td.length ≤ 20
  dn : 0 ≤ x.dn ∧ x.dn < x.td.length
  md : 0 ≤ x.md ∧ x.md ≤ x.dn
theorem GoodS.w {x : Sq} (h : GoodS x) : SqW x := ⟨h.ho, h.hc, fun t ht => (h.td t ht).2.1, by rw [h.br]; decide⟩
theorem todoE_ok : ∀ {l : List Td}, (∀ t ∈ l, okT t) → todoE l = 0
  | [], _ => rfl
  | t :: l, h => by
    have ht := h t (by simp)
    rw [todoE, if_neg (by rw [stepE_ok ht.1.1 ht.1.2 ht.2.2]; decide)]
    exact todoE_ok (fun u hu => h u (by simp [hu]))
theorem GoodS.chk_ok {x : Sq} (h : GoodS x) : sqChk x = 0 := by
  have h1 := h.k
  have h2 := h.dn
  have h3 := h.md
  have h4 := h.hl
  have hb : chk x.br = 0 := by rw [h.br]; decide +kernel
  have ha : argB x = true := decide_eq_true ⟨h.og, h.cu, h2.1, by omega, h3.1, h3.2, fun e => by omega⟩
  have hE : seqE x = 0 := by rw [seqE_td h1 hb ha (by omega)]; exact todoE_ok h.td
  unfold sqChk
  rw [if_neg (by omega), if_neg (by rw [hE]; decide), if_neg (by omega)]

theorem within_ct (a n : Int) (w0 : World) (H0 : Heap)
    (hn : 1 ≤ n ∧ n ≤ 9223372036854775807) :
    Ct Tryd.prog w0 25 #[.int .i64 a, .int .i64 n] H0 (fun r H2 => ∃ q : Int, r = .int .i64 q ∧ (0 ≤ q ∧ q < n) ∧ Nw H0 H2) := by
  refine Ct.enter (args := [.int .i64 a, .int .i64 n]) Tryd.func25 rfl rfl rfl ?_
  intro Q0 hret
  have hm0 : Nw H0 H0 := Mo.refl _ _
  have hb1 := Int.tmod_lt_of_pos a (show 0 < n by omega)
  have hb2 := Int.lt_tmod_of_pos a (show 0 < n by omega)
  refine CW.seq (fun K1 hK1 hE1 => ?_)
  refine CW.region ?_
  refine LR.v (Y.assign rfl rfl) (Wd.u rfl) rfl rfl ?_
  refine LR.nil ?_
  refine hK1 _ _ ?_
  refine CW.seq (fun K2 hK2 hE2 => ?_)
  refine CW.region ?_
  refine LR.v (Y.move rfl rfl) (Wd.u rfl) rfl rfl ?_
  refine LR.v (Y.move rfl rfl) (Wd.u rfl) rfl rfl ?_
  refine LR.v (Y.rem rfl rfl rfl (by omega)) (Wd.u rfl) rfl rfl ?_
  refine LR.v (Y.assign rfl rfl) (Wd.u rfl) rfl rfl ?_
  refine LR.nil ?_
  refine hK2 _ _ ?_
  refine CW.seq (fun K3 hK3 hE3 => ?_)
  refine CW.seq (fun K4 hK4 hE4 => ?_)
  refine CW.region ?_
  refine LR.v (Y.move rfl rfl) (Wd.u rfl) rfl rfl ?_
  refine LR.v (Y.lss rfl rfl rfl) (Wd.u rfl) rfl rfl ?_
  refine LR.nil ?_
  refine hK4 _ _ ?_
  refine CW.condp rfl (fun c10 => ?_) (fun c10 => ?_)
  ·
    refine CW.region ?_
    refine LR.v (Y.move rfl rfl) (Wd.u rfl) rfl rfl ?_
    refine LR.v (Y.move rfl rfl) (Wd.u rfl) rfl rfl ?_
    refine LR.v (Y.addi rfl rfl rfl (by omega)) (Wd.u rfl) rfl rfl ?_
    refine LR.v (Y.assign rfl rfl) (Wd.u rfl) rfl rfl ?_
    refine LR.nil ?_
    refine hK3 _ _ ?_
    refine CW.seq (fun K5 hK5 hE5 => ?_)
    refine CW.region ?_
    refine LR.v (Y.move rfl rfl) (Wd.u rfl) rfl rfl ?_
    refine LR.v (Y.assign rfl rfl) (Wd.u rfl) rfl rfl ?_
    refine LR.nil ?_
    refine hK5 _ _ ?_
    refine CW.ret (hret .ret (.inr rfl) _ _ _ (res1 rfl rfl) ?_)
    exact ⟨_, rfl, by omega, hm0⟩
  ·
    refine CW.skip ?_
    refine hK3 _ _ ?_
    refine CW.seq (fun K6 hK6 hE6 => ?_)
    refine CW.region ?_
    refine LR.v (Y.move rfl rfl) (Wd.u rfl) rfl rfl ?_
    refine LR.v (Y.assign rfl rfl) (Wd.u rfl) rfl rfl ?_
    refine LR.nil ?_
    refine hK6 _ _ ?_
    refine CW.ret (hret .ret (.inr rfl) _ _ _ (res1 rfl rfl) ?_)
    exact ⟨_, rfl, by omega, hm0⟩

set_option maxHeartbeats 4000000 in
theorem good_ct (x : Sq) (w0 : World) (H0 : Heap)
    (hl : RdT H0 fT 33 x.tv.v x.td) (hw : SqW x) :
    Ct Tryd.prog w0 18 #[qv x] H0 (fun r H2 => ∃ y : Sq, ∃ k : Nat, r = qv y ∧ (Ow k 29 H2 fT 33 y.tv.v y.td) ∧ (Nx 0 H0.size k) ∧ (GoodS y) ∧ Nw H0 H2) := by
  refine Ct.enter (args := [qv x]) Tryd.func18 rfl rfl rfl ?_
  intro Q0 hret
  have hm0 : Nw H0 H0 := Mo.refl _ _
  replace hl := hl.bnd
  have bf_hl := Rd.bf hl
  have hll := hl.len
  refine CW.seq (fun K1 hK1 hE1 => ?_)
  refine CW.region ?_
  refine LR.z (Z.boxv rfl rfl) (Wd.u rfl) rfl rfl (fun v1 H1 r1 => ?_)
  obtain ⟨rfl, va, hs1, ob1, hH1⟩ := r1
  have hzs1 : H1.size = H0.size + 1 := by rw [hH1]; simp
  have df1 := (DF.new (bf_hl.mono hm0.size) : DF _ (H0.size + 1))
  have nx2 : Nx 0 H0.size (H0.size + 1) := Nx.new hm0.size
  replace hl := hl.nw hs1
  replace hm0 := hm0.tr hs1
  have hz1 := hs1.size
  replace va : Var 26 H1 H0.size (fQ x) := va
  refine LR.z (Z.allocv rfl Tryd.zeroValue26) (Wd.u rfl) rfl rfl (fun v2 H2 r2 => ?_)
  obtain ⟨rfl, vr, hs2, ob2, hH2⟩ := r2
  have hzs2 : H2.size = H1.size + 1 := by rw [hH2]; simp
  have df3 := (DF.new (bf_hl.mono hm0.size) : DF _ (H1.size + 1))
  have dj4 : Dj (H0.size + 1) (H1.size + 1) := Dj.new va.lt
  have nx5 : Nx 0 H0.size (H1.size + 1) := Nx.new hm0.size
  replace hl := hl.nw hs2
  replace va := va.nw hs2
  replace hm0 := hm0.tr hs2
  have hz2 := hs2.size
  refine LR.nil ?_
  refine hK1 _ _ ?_
  refine CW.seq (fun K2 hK2 hE2 => ?_)
  refine CW.region ?_
  refine LR.v (Y.fieldAddr va.pt rfl Tryd.runUnderlying26 rfl rfl Tryd.sizeOf3 (by decide) rfl) (Wd.u rfl) rfl rfl ?_
  refine LR.v (Y.load1 va.pt rfl Tryd.isAgg3 rfl) (Wd.u rfl) rfl rfl ?_
  -- call selvage/selvagelaw20.within
  refine LR.call rfl Tryd.call25 rfl (Wd.u rfl) rfl rfl (within_ct x.k 2 w0 _ (by omega)) (fun v8 H8 r8 => ?_)
  obtain ⟨r8, rfl, hr8, hs8⟩ := r8
  replace hl := hl.nw hs8
  replace va := va.nw hs8
  replace vr := vr.nw hs8
  replace hm0 := hm0.tr hs8
  have hz3 := hs8.size
  refine LR.v (Y.addi rfl rfl rfl (by omega)) (Wd.u rfl) rfl rfl ?_
  refine LR.v (Y.fieldAddr va.pt rfl Tryd.runUnderlying26 rfl rfl Tryd.sizeOf3 (by decide) rfl) (Wd.u rfl) rfl rfl ?_
  refine LR.s (S.var1 va 0 (fQ { x with k := 1 + r8 }) rfl rfl rfl (rfl) Tryd.sizeOf3 (by simp [fQ_len]) (q_k _ _)) (Wd.u rfl) rfl (fun H1_5 r1_5 => ?_)
  obtain ⟨va, hs1_5⟩ := r1_5
  replace hs1_5 := hs1_5.md1
  replace hl := hl.upL hs1_5 (DFL.cons df1 DFL.nil)
  replace vr := vr.upL hs1_5 (DL.cons dj4.symm DL.nil)
  replace hm0 := (Mo.trL (ks := []) (hm0.mdn []) hs1_5 (MIL.cons (MI.app MI.z (nx2) (Nat.le_refl _)) MIL.nil)).nil
  have hz4 := hs1_5.size
  refine LR.nil ?_
  refine hK2 _ _ ?_
  refine CW.seq (fun K3 hK3 hE3 => ?_)
  refine CW.region ?_
  refine LR.v (Y.fieldAddr va.pt rfl Tryd.runUnderlying26 rfl rfl Tryd.sizeOf9 (by decide) rfl) (Wd.u rfl) rfl rfl ?_
  refine LR.s (S.var1 va 1 (fQ { x with k := 1 + r8, br := [98] }) rfl rfl rfl (rfl) Tryd.sizeOf9 (by simp [fQ_len]) (q_br _ _)) (Wd.u rfl) rfl (fun H2_1 r2_1 => ?_)
  obtain ⟨va, hs2_1⟩ := r2_1
  replace hs2_1 := hs2_1.md1
  replace hl := hl.upL hs2_1 (DFL.cons df1 DFL.nil)
  replace vr := vr.upL hs2_1 (DL.cons dj4.symm DL.nil)
  replace hm0 := (Mo.trL (ks := []) (hm0.mdn []) hs2_1 (MIL.cons (MI.app MI.z (nx2) (Nat.le_refl _)) MIL.nil)).nil
  have hz5 := hs2_1.size
  refine LR.nil ?_
  refine hK3 _ _ ?_
  refine CW.seq (fun K4 hK4 hE4 => ?_)
  refine CW.region ?_
  refine LR.v (Y.fieldAddr va.pt rfl Tryd.runUnderlying26 rfl rfl Tryd.sizeOf23 (by decide) rfl) (Wd.u rfl) rfl rfl ?_
  refine LR.v (Y.arrAddr (va.pt.drop 2) (0) rfl Tryd.runUnderlying23 Tryd.sizeOf5 rfl rfl (by first | rfl | omega) (by first | omega | (simp; omega) | (simp; done))) (Wd.u rfl) rfl rfl ?_
  refine LR.s (S.var1 va 2 (fQ { x with k := 1 + r8, br := [98], og := x.og.set 0 1 }) rfl rfl rfl (rfl) Tryd.sizeOf5 (by simp [fQ_len]) (q_og0 hw.ho hw.hc)) (Wd.u rfl) rfl (fun H3_2 r3_2 => ?_)
  obtain ⟨va, hs3_2⟩ := r3_2
  replace hs3_2 := hs3_2.md1
  replace hl := hl.upL hs3_2 (DFL.cons df1 DFL.nil)
  replace vr := vr.upL hs3_2 (DL.cons dj4.symm DL.nil)
  replace hm0 := (Mo.trL (ks := []) (hm0.mdn []) hs3_2 (MIL.cons (MI.app MI.z (nx2) (Nat.le_refl _)) MIL.nil)).nil
  have hz6 := hs3_2.size
  refine LR.v (Y.fieldAddr va.pt rfl Tryd.runUnderlying26 rfl rfl Tryd.sizeOf23 (by decide) rfl) (Wd.u rfl) rfl rfl ?_
  refine LR.v (Y.arrAddr (va.pt.drop 34) (0) rfl Tryd.runUnderlying23 Tryd.sizeOf5 rfl rfl (by first | rfl | omega) (by first | omega | (simp; omega) | (simp; done))) (Wd.u rfl) rfl rfl ?_
  refine LR.s (S.var1 va 34 (fQ { x with k := 1 + r8, br := [98], og := x.og.set 0 1, cu := x.cu.set 0 1 }) rfl rfl rfl (rfl) Tryd.sizeOf5 (by simp [fQ_len]) (q_cu0 (by simp [hw.ho]) hw.hc)) (Wd.u rfl) rfl (fun H3_5 r3_5 => ?_)
  obtain ⟨va, hs3_5⟩ := r3_5
  replace hs3_5 := hs3_5.md1
  replace hl := hl.upL hs3_5 (DFL.cons df1 DFL.nil)
  replace vr := vr.upL hs3_5 (DL.cons dj4.symm DL.nil)
  replace hm0 := (Mo.trL (ks := []) (hm0.mdn []) hs3_5 (MIL.cons (MI.app MI.z (nx2) (Nat.le_refl _)) MIL.nil)).nil
  have hz7 := hs3_5.size
  refine LR.nil ?_
  refine hK4 _ _ ?_
  refine CW.seq (fun K5 hK5 hE5 => ?_)
  refine CW.region ?_
  refine LR.v (Y.assign rfl rfl) (Wd.u rfl) rfl rfl ?_
  refine LR.nil ?_
  refine hK5 _ _ ?_
  refine CW.seq (fun K6 hK6 hE6 => ?_)
  refine CW.seq (fun K7 hK7 hE7 => ?_)
  refine CW.region ?_
  refine LR.v (Y.assign rfl rfl) (Wd.u rfl) rfl rfl ?_
  refine LR.nil ?_
  refine hK7 _ _ ?_
  refine CW.block (fun K8 hK8 hX8 hE8 => ?_)
  refine CW.loop (fun (s_ : (Nat) × (SV) × (Nat) × (List Td)) => match s_ with | (i, vl, k1, l) => [(1, .pointer (some ⟨H0.size, 0, none⟩)), (2, .pointer (some ⟨H1.size, 0, none⟩)), (3, vl.v), (4, .int .i64 i)])
    (fun (s_ : (Nat) × (SV) × (Nat) × (List Td)) (H : Heap) => match s_ with | (i, vl, k1, l) => (i ≤ x.td.length ∧ i ≤ 20) ∧ (Ow k1 29 H fT 33 vl.v l) ∧ (l.length = i) ∧ (∀ t ∈ l, okT t) ∧ (Nx 0 H3_5.size k1) ∧ Nw H3_5 H)
    (fun (s_ : (Nat) × (SV) × (Nat) × (List Td)) => match s_ with | (i, vl, k1, l) => x.td.length - i) (0, ⟨none, 0, 0⟩, 0, []) ⟨rfl, rfl, rfl, rfl, trivial⟩ ?_ ?_
  ·
    exact ⟨⟨by omega, by omega⟩, (Ow.nil fT_len fT_one), rfl, (by simp), Nx.refl _ _, Mo.refl _ _⟩
  rintro ⟨i, vl, k1, l⟩ HL1 hI1 K9 hN9 hE9
  obtain ⟨hi, ow, hln, hg, nxl_ow, hlm1⟩ := hI1
  have df6 := DF.app (DF.z) (bf_hl.mono hm0.size) nxl_ow
  have dj7 : Dj (H0.size + 1) k1 := Dj.app (Dj.z) va.lt nxl_ow
  have dj8 : Dj (H1.size + 1) k1 := Dj.app (Dj.z) vr.lt nxl_ow
  have nx9 : Nx 0 H0.size k1 := Nx.tr (Nx.refl 0 _) nxl_ow hm0.size
  replace hl := hl.nw hlm1
  replace va := va.nw hlm1
  replace vr := vr.nw hlm1
  replace hm0 := hm0.tr hlm1
  have hz8 := hlm1.size
  have hle_ow := ow.le
  have nx10 := nxl_ow
  refine CW.seq (fun K10 hK10 hE10 => ?_)
  refine CW.seq (fun K11 hK11 hE11 => ?_)
  refine CW.region ?_
  refine LR.v (Y.move rfl rfl) (Wd.u rfl) rfl rfl ?_
  refine LR.v (Y.fieldAddr va.pt rfl Tryd.runUnderlying26 rfl rfl Tryd.sizeOf24 (by decide) rfl) (Wd.u rfl) rfl rfl ?_
  refine LR.v (Y.load1 va.pt.q66 rfl Tryd.isAgg24 rfl) (Wd.u rfl) rfl rfl ?_
  refine LR.v (Y.len hl rfl Tryd.runUnderlying24 rfl) (Wd.u rfl) rfl rfl ?_
  refine LR.v (Y.lss rfl rfl rfl) (Wd.u rfl) rfl rfl ?_
  refine LR.v (Y.move rfl rfl) (Wd.u rfl) rfl rfl ?_
  refine LR.splitp (d := 21) rfl (fun g21 => ?_) (fun g21 => ?_)
  ·
    refine LR.v (Y.move rfl rfl) (Wd.g rfl rfl rfl) rfl rfl ?_
    refine LR.v (Y.lss rfl rfl rfl) (Wd.g rfl rfl rfl) rfl rfl ?_
    refine LR.v (Y.pick_t rfl rfl rfl) (Wd.u rfl) rfl rfl ?_
    refine LR.nil ?_
    refine hK11 _ _ ?_
    refine CW.condp rfl (fun c24 => ?_) (fun c24 => ?_)
    ·
      refine CW.skip ?_
      refine hK10 _ _ ?_
      refine CW.seq (fun K12 hK12 hE12 => ?_)
      refine CW.block (fun K13 hK13 hX13 hE13 => ?_)
      refine CW.seq (fun K14 hK14 hE14 => ?_)
      refine CW.region_any (fun Hq => Nw HL1 Hq) [16] rfl ?_
      have hqs := Nw.refl HL1
      refine LH.take 0 (by kernel_rfl) rfl (by kernel_rfl) (by kernel_rfl) (by kernel_rfl) (fun Hq hq => Y.fieldAddr (va.pt.nw hq) rfl Tryd.runUnderlying26 rfl rfl Tryd.sizeOf24 (by decide) rfl) (Wd.u rfl) rfl rfl hqs ?_
      refine LH.take 1 (by kernel_rfl) rfl (by kernel_rfl) (by kernel_rfl) (by kernel_rfl) (fun Hq hq => Y.load1 (va.pt.q66.nw hq) rfl Tryd.isAgg24 rfl) (Wd.u rfl) rfl rfl hqs ?_
      refine LH.take 2 (by kernel_rfl) rfl (by kernel_rfl) (by kernel_rfl) (by kernel_rfl) (fun Hq hq => Y.move rfl rfl) (Wd.u rfl) rfl rfl hqs ?_
      have hil : i < x.td.length := by omega
      have hti := hw.ht x.td[i] (List.getElem_mem hil)
      refine LH.e (g := fun ad => .pointer (some ad)) 3 (by kernel_rfl) rfl (by kernel_rfl) (by kernel_rfl) (by kernel_rfl) (Y.indexAddrF hl (i) rfl Tryd.runUnderlying24 Tryd.sizeOf29 rfl rfl (by first | rfl | omega) (by first | omega | (simp; omega) | (simp; done))) (Wd.u rfl) rfl rfl hqs (fun ad30 pt30 => ?_)
      have bf_pt30 := bf_hl
      refine LH.take 4 (by kernel_rfl) rfl (by kernel_rfl) (by kernel_rfl) (by kernel_rfl) (fun Hq hq => Y.fieldAddr (pt30.pt.nw hq) rfl Tryd.runUnderlying29 rfl rfl Tryd.sizeOf3 (by decide) rfl) (Wd.u rfl) rfl rfl hqs ?_
      refine LH.take 5 (by kernel_rfl) rfl (by kernel_rfl) (by kernel_rfl) (by kernel_rfl) (fun Hq hq => Y.load1 ((pt30.pt.drop 0).nw hq) rfl Tryd.isAgg3 rfl) (Wd.u rfl) rfl rfl hqs ?_
      refine LH.take 8 (by kernel_rfl) rfl (by kernel_rfl) (by kernel_rfl) (by kernel_rfl) (fun Hq hq => Y.fieldAddr (va.pt.nw hq) rfl Tryd.runUnderlying26 rfl rfl Tryd.sizeOf24 (by decide) rfl) (Wd.u rfl) rfl rfl hqs ?_
      refine LH.take 9 (by kernel_rfl) rfl (by kernel_rfl) (by kernel_rfl) (by kernel_rfl) (fun Hq hq => Y.load1 (va.pt.q66.nw hq) rfl Tryd.isAgg24 rfl) (Wd.u rfl) rfl rfl hqs ?_
      refine LH.take 10 (by kernel_rfl) rfl (by kernel_rfl) (by kernel_rfl) (by kernel_rfl) (fun Hq hq => Y.move rfl rfl) (Wd.u rfl) rfl rfl hqs ?_
      refine LH.e (g := fun ad => .pointer (some ad)) 11 (by kernel_rfl) rfl (by kernel_rfl) (by kernel_rfl) (by kernel_rfl) (Y.indexAddrF hl (i) rfl Tryd.runUnderlying24 Tryd.sizeOf29 rfl rfl (by first | rfl | omega) (by first | omega | (simp; omega) | (simp; done))) (Wd.u rfl) rfl rfl hqs (fun ad38 pt38 => ?_)
      have bf_pt38 := bf_hl
      refine LH.take 12 (by kernel_rfl) rfl (by kernel_rfl) (by kernel_rfl) (by kernel_rfl) (fun Hq hq => Y.fieldAddr (pt38.pt.nw hq) rfl Tryd.runUnderlying29 rfl rfl Tryd.sizeOf23 (by decide) rfl) (Wd.u rfl) rfl rfl hqs ?_
      refine LH.take 13 (by kernel_rfl) rfl (by kernel_rfl) (by kernel_rfl) (by kernel_rfl) (fun Hq hq => Y.cast (v2 := idV x.td[i].i) (Y.loadN (((pt38.pt.drop 1).nw hq).take 32) rfl Tryd.isAgg23 Tryd.sizeOf23 (by simp [fT]) rfl) (congrArg (fun z : List Value => Value.agg z.toArray) (show (kc x.td[i].i).take 32 = _ from by rw [List.take_of_length_le (by simp), kc_eq hti]))) (Wd.u rfl) rfl rfl hqs ?_
      refine LH.two (i := 6) (j := 15) (by kernel_rfl) ?_ ?_
      ·
        -- call selvage/selvagelaw20.within
        refine LO.call rfl rfl Tryd.call25 rfl (Wd.u rfl) rfl rfl (within_ct x.td[i].d 3 w0 _ (by omega)) (fun v33 H33 r33 => ?_)
        obtain ⟨r33, rfl, hr33, hs33⟩ := r33
        replace hl := hl.nw hs33
        replace va := va.nw hs33
        replace vr := vr.nw hs33
        replace ow := ow.nw hs33
        replace pt30 := pt30.nw hs33
        replace pt38 := pt38.nw hs33
        replace hm0 := hm0.tr hs33
        replace hlm1 := hlm1.tr hs33
        have hz9 := hs33.size
        have hq33 := hqs.tr hs33
        refine ⟨.inr hq33, LH.narrow (SH2 := fun Hq => Nw H33 Hq) (fun Hq hq => hq33.tr hq) ?_⟩
        have hqn33 := Nw.refl H33
        refine LH.take 7 (by kernel_rfl) rfl (by kernel_rfl) (by kernel_rfl) (by kernel_rfl) (fun Hq hq => Y.addi rfl rfl rfl (by omega)) (Wd.u rfl) rfl rfl hqn33 ?_
        refine LH.take (v := tv_ ⟨1 + r33, x.td[i].i⟩) 14 (by kernel_rfl) rfl (by kernel_rfl) (by kernel_rfl) (by kernel_rfl) (fun Hq hq => ?_) (Wd.u rfl) rfl rfl hqn33 ?_
        · exact Y.build (v := tv_ ⟨1 + r33, x.td[i].i⟩) rfl rfl (by intro w; exact build_td _ hti w)
        refine LH.one (i := 15) (by kernel_rfl) ?_
        refine LO.z rfl (Z.allocv rfl Tryd.zeroValue29) (Wd.u rfl) rfl rfl (fun v5 H5 r5 => ?_)
        obtain ⟨rfl, vt, hs5, ob5, hH5⟩ := r5
        have hzs5 : H5.size = H33.size + 1 := by rw [hH5]; simp
        have df11 := (DF.new (bf_hl.mono hm0.size) : DF _ (H33.size + 1))
        have dj12 : Dj (H0.size + 1) (H33.size + 1) := Dj.new va.lt
        have dj13 : Dj (H1.size + 1) (H33.size + 1) := Dj.new vr.lt
        have dj14 : Dj k1 (H33.size + 1) := Dj.new ow.le
        have df15 := (DF.new (bf_pt30.mono hm0.size) : DF _ (H33.size + 1))
        have df16 := (DF.new (bf_pt38.mono hm0.size) : DF _ (H33.size + 1))
        have nx17 : Nx 0 H0.size (H33.size + 1) := Nx.new hm0.size
        have nx18 : Nx 0 H3_5.size (H33.size + 1) := Nx.new hlm1.size
        replace hl := hl.nw hs5
        replace va := va.nw hs5
        replace vr := vr.nw hs5
        replace ow := ow.nw hs5
        replace pt30 := pt30.nw hs5
        replace pt38 := pt38.nw hs5
        replace hm0 := hm0.tr hs5
        replace hlm1 := hlm1.tr hs5
        have hz10 := hs5.size
        have hq5 := hqn33.tr hs5
        refine ⟨.inr hq5, LH.narrow (SH2 := fun Hq => Nw H5 Hq) (fun Hq hq => hq5.tr hq) ?_⟩
        have hqn5 := Nw.refl H5
        refine LH.one (i := 16) (by kernel_rfl) ?_
        refine LO.s rfl (S.var vt (_) (fT ⟨1 + r33, x.td[i].i⟩) rfl rfl rfl rfl (fT_one ⟨1 + r33, x.td[i].i⟩) Tryd.sizeOf29 (fT_len _) (by first | decide | simp [fT_len]) ((splice_all2 (by first | exact (fT_len _).symm | exact (fT_len _).trans (fT_len _).symm)))) (Wd.u rfl) rfl (fun H8_16 r8_16 => ?_)
        obtain ⟨vt, hs8_16⟩ := r8_16
        replace hs8_16 := hs8_16.md1
        replace hl := hl.upL hs8_16 (DFL.cons df11 DFL.nil)
        replace va := va.upL hs8_16 (DL.cons dj12 DL.nil)
        replace vr := vr.upL hs8_16 (DL.cons dj13 DL.nil)
        replace ow := ow.upL hs8_16 (DL.cons dj14 DL.nil)
        replace pt30 := pt30.upL hs8_16 (DFL.cons df15 DFL.nil)
        replace pt38 := pt38.upL hs8_16 (DFL.cons df16 DFL.nil)
        replace hm0 := (Mo.trL (ks := []) (hm0.mdn []) hs8_16 (MIL.cons (MI.app MI.z (nx17) (Nat.le_refl _)) MIL.nil)).nil
        replace hlm1 := (Mo.trL (ks := []) (hlm1.mdn []) hs8_16 (MIL.cons (MI.app MI.z (nx18) (Nat.le_refl _)) MIL.nil)).nil
        have hz11 := hs8_16.size
        refine ⟨.inl rfl, ?_⟩
        refine LH.done (by kernel_rfl) ?_
        have hqe := hqn5
        refine hK14 _ _ ?_
        refine CW.seq (fun K15 hK15 hE15 => ?_)
        refine CW.region ?_
        refine LR.v (Y.fieldAddr vt.pt rfl Tryd.runUnderlying29 rfl rfl Tryd.sizeOf23 (by decide) rfl) (Wd.u rfl) rfl rfl ?_
        refine LR.v (Y.arrAddr (vt.pt.drop 1) (0) rfl Tryd.runUnderlying23 Tryd.sizeOf5 rfl rfl (by first | rfl | omega) (by first | omega | (simp; omega) | (simp; done))) (Wd.u rfl) rfl rfl ?_
        refine LR.s (S.var1 vt 1 (fT ⟨1 + r33, x.td[i].i.set 0 1⟩) rfl rfl rfl (rfl) Tryd.sizeOf5 (by simp [fT_len]) (t_i0 hti)) (Wd.u rfl) rfl (fun H9_2 r9_2 => ?_)
        obtain ⟨vt, hs9_2⟩ := r9_2
        replace hs9_2 := hs9_2.md1
        replace hl := hl.upL hs9_2 (DFL.cons df11 DFL.nil)
        replace va := va.upL hs9_2 (DL.cons dj12 DL.nil)
        replace vr := vr.upL hs9_2 (DL.cons dj13 DL.nil)
        replace ow := ow.upL hs9_2 (DL.cons dj14 DL.nil)
        replace hm0 := (Mo.trL (ks := []) (hm0.mdn []) hs9_2 (MIL.cons (MI.app MI.z (nx17) (Nat.le_refl _)) MIL.nil)).nil
        replace hlm1 := (Mo.trL (ks := []) (hlm1.mdn []) hs9_2 (MIL.cons (MI.app MI.z (nx18) (Nat.le_refl _)) MIL.nil)).nil
        have hz12 := hs9_2.size
        refine LR.nil ?_
        refine hK15 _ _ ?_
        refine CW.region ?_
        refine LR.v (Y.move rfl rfl) (Wd.u rfl) rfl rfl ?_
        refine LR.v (Y.loadN vt.pt rfl Tryd.isAgg29 Tryd.sizeOf29 (fT_len _) rfl) (Wd.u rfl) rfl rfl ?_
        refine LR.z (Z.litw _ ([⟨1 + r33, x.td[i].i.set 0 1⟩]) rfl inf24 rfl rfl rfl (by decide) (by decide) fT_len fT_one (rfl)) (Wd.u rfl) rfl rfl (fun v46 H46 r46 => ?_)
        obtain ⟨nw46, hs46, ob46, hH46⟩ := r46
        have hzs46 : H46.size = H9_2.size + 1 := by rw [hH46]; simp
        have df19 := (DF.new (bf_hl.mono hm0.size) : DF _ (H9_2.size + 1))
        have dj20 : Dj (H0.size + 1) (H9_2.size + 1) := Dj.new va.lt
        have dj21 : Dj (H1.size + 1) (H9_2.size + 1) := Dj.new vr.lt
        have dj22 : Dj k1 (H9_2.size + 1) := Dj.new ow.le
        have dj23 : Dj (H33.size + 1) (H9_2.size + 1) := Dj.new vt.lt
        have nx24 : Nx 0 H0.size (H9_2.size + 1) := Nx.new hm0.size
        have nx25 : Nx 0 H3_5.size (H9_2.size + 1) := Nx.new hlm1.size
        replace hl := hl.nw hs46
        replace va := va.nw hs46
        replace vr := vr.nw hs46
        replace ow := ow.nw hs46
        replace vt := vt.nw hs46
        replace hm0 := hm0.tr hs46
        replace hlm1 := hlm1.tr hs46
        have hz13 := hs46.size
        refine LR.z (Z.apnd ow nw46.rd rfl inf24 rfl rfl (by simp; omega) (by simp; omega)) (Wd.u rfl) rfl rfl (fun v47 H47 r47 => ?_)
        obtain ⟨k47, ow, hk47, hs47⟩ := r47
        replace hk47 : Nx k1 H46.size k47 := hk47
        replace hs47 := hs47.md
        have df26 := DF.app (df6) (bf_hl.mono hm0.size) hk47
        have dj27 : Dj (H0.size + 1) k47 := Dj.app (dj7) va.lt hk47
        have dj28 : Dj (H1.size + 1) k47 := Dj.app (dj8) vr.lt hk47
        have dj29 : Dj (H33.size + 1) k47 := Dj.app (dj14.symm) vt.lt hk47
        have dj30 : Dj (H9_2.size + 1) k47 := Dj.app (dj22.symm) nw46.le hk47
        have nx31 : Nx 0 H0.size k47 := Nx.tr (nx9) hk47 hm0.size
        have nx32 : Nx 0 H3_5.size k47 := Nx.tr (nx10) hk47 hlm1.size
        replace hl := hl.upL hs47 (DFL.cons df6 DFL.nil)
        replace va := va.upL hs47 (DL.cons dj7 DL.nil)
        replace vr := vr.upL hs47 (DL.cons dj8 DL.nil)
        replace vt := vt.upL hs47 (DL.cons dj14.symm DL.nil)
        replace nw46 := nw46.upL hs47 (DL.cons dj22.symm DL.nil)
        replace hm0 := (Mo.trL (ks := []) (hm0.mdn []) hs47 (MIL.cons (MI.app MI.z (nx9) (Nat.le_refl _)) MIL.nil)).nil
        replace hlm1 := (Mo.trL (ks := []) (hlm1.mdn []) hs47 (MIL.cons (MI.app MI.z (nx10) (Nat.le_refl _)) MIL.nil)).nil
        have hz14 := hs47.size
        have hle_ow := ow.le
        obtain ⟨s47, rfl⟩ : ∃ s : SV, v47 = s.v := ⟨toSV v47, ow.sv.symm⟩
        refine LR.v (Y.assign rfl rfl) (Wd.u rfl) rfl rfl ?_
        refine LR.nil ?_
        refine hK13 _ _ ?_
        refine hK12 _ _ ?_
        refine CW.region ?_
        refine LR.v (Y.move rfl rfl) (Wd.u rfl) rfl rfl ?_
        refine LR.v (Y.addi rfl rfl rfl (by omega)) (Wd.u rfl) rfl rfl ?_
        refine LR.v (Y.assign rfl rfl) (Wd.u rfl) rfl rfl ?_
        refine LR.nil ?_
        refine QN.sub (hN9 (i + 1, s47, k47, l ++ [⟨1 + r33, x.td[i].i.set 0 1⟩]) _ ?_ ?_) ⟨rfl, rfl, rfl, (iv (by omega)), trivial⟩
        · exact ⟨⟨by omega, by omega⟩, ow, (by simp; omega), (by
          intro t ht
          rcases List.mem_append.1 ht with h | h
          · exact hg t h
          · rw [List.mem_singleton.1 h]; exact ⟨⟨by show 1 ≤ 1 + r33; omega, by show 1 + r33 ≤ 3; omega⟩, by show (x.td[i].i.set 0 1).length = 32; rw [List.length_set]; exact hti, set_nz hti⟩), nx32, hlm1⟩
        · first | omega | (simp only; omega) | (simp; omega)
      ·
        refine LO.z rfl (Z.allocv rfl Tryd.zeroValue29) (Wd.u rfl) rfl rfl (fun v5 H5 r5 => ?_)
        obtain ⟨rfl, vt, hs5, ob5, hH5⟩ := r5
        have hzs5 : H5.size = HL1.size + 1 := by rw [hH5]; simp
        have df33 := (DF.new (bf_hl.mono hm0.size) : DF _ (HL1.size + 1))
        have dj34 : Dj (H0.size + 1) (HL1.size + 1) := Dj.new va.lt
        have dj35 : Dj (H1.size + 1) (HL1.size + 1) := Dj.new vr.lt
        have dj36 : Dj k1 (HL1.size + 1) := Dj.new ow.le
        have df37 := (DF.new (bf_pt30.mono hm0.size) : DF _ (HL1.size + 1))
        have df38 := (DF.new (bf_pt38.mono hm0.size) : DF _ (HL1.size + 1))
        have nx39 : Nx 0 H0.size (HL1.size + 1) := Nx.new hm0.size
        have nx40 : Nx 0 H3_5.size (HL1.size + 1) := Nx.new hlm1.size
        replace hl := hl.nw hs5
        replace va := va.nw hs5
        replace vr := vr.nw hs5
        replace ow := ow.nw hs5
        replace pt30 := pt30.nw hs5
        replace pt38 := pt38.nw hs5
        replace hm0 := hm0.tr hs5
        replace hlm1 := hlm1.tr hs5
        have hz15 := hs5.size
        have hq5 := hqs.tr hs5
        refine ⟨.inr hq5, LH.narrow (SH2 := fun Hq => Nw H5 Hq) (fun Hq hq => hq5.tr hq) ?_⟩
        have hqn5 := Nw.refl H5
        refine LH.one (i := 6) (by kernel_rfl) ?_
        -- call selvage/selvagelaw20.within
        refine LO.call rfl rfl Tryd.call25 rfl (Wd.u rfl) rfl rfl (within_ct x.td[i].d 3 w0 _ (by omega)) (fun v33 H33 r33 => ?_)
        obtain ⟨r33, rfl, hr33, hs33⟩ := r33
        replace hl := hl.nw hs33
        replace va := va.nw hs33
        replace vr := vr.nw hs33
        replace ow := ow.nw hs33
        replace pt30 := pt30.nw hs33
        replace pt38 := pt38.nw hs33
        replace vt := vt.nw hs33
        replace hm0 := hm0.tr hs33
        replace hlm1 := hlm1.tr hs33
        have hz16 := hs33.size
        have hq33 := hqn5.tr hs33
        refine ⟨.inr hq33, LH.narrow (SH2 := fun Hq => Nw H33 Hq) (fun Hq hq => hq33.tr hq) ?_⟩
        have hqn33 := Nw.refl H33
        refine LH.take 7 (by kernel_rfl) rfl (by kernel_rfl) (by kernel_rfl) (by kernel_rfl) (fun Hq hq => Y.addi rfl rfl rfl (by omega)) (Wd.u rfl) rfl rfl hqn33 ?_
        refine LH.take (v := tv_ ⟨1 + r33, x.td[i].i⟩) 14 (by kernel_rfl) rfl (by kernel_rfl) (by kernel_rfl) (by kernel_rfl) (fun Hq hq => ?_) (Wd.u rfl) rfl rfl hqn33 ?_
        · exact Y.build (v := tv_ ⟨1 + r33, x.td[i].i⟩) rfl rfl (by intro w; exact build_td _ hti w)
        refine LH.one (i := 16) (by kernel_rfl) ?_
        refine LO.s rfl (S.var vt (_) (fT ⟨1 + r33, x.td[i].i⟩) rfl rfl rfl rfl (fT_one ⟨1 + r33, x.td[i].i⟩) Tryd.sizeOf29 (fT_len _) (by first | decide | simp [fT_len]) ((splice_all2 (by first | exact (fT_len _).symm | exact (fT_len _).trans (fT_len _).symm)))) (Wd.u rfl) rfl (fun H8_16 r8_16 => ?_)
        obtain ⟨vt, hs8_16⟩ := r8_16
        replace hs8_16 := hs8_16.md1
        replace hl := hl.upL hs8_16 (DFL.cons df33 DFL.nil)
        replace va := va.upL hs8_16 (DL.cons dj34 DL.nil)
        replace vr := vr.upL hs8_16 (DL.cons dj35 DL.nil)
        replace ow := ow.upL hs8_16 (DL.cons dj36 DL.nil)
        replace pt30 := pt30.upL hs8_16 (DFL.cons df37 DFL.nil)
        replace pt38 := pt38.upL hs8_16 (DFL.cons df38 DFL.nil)
        replace hm0 := (Mo.trL (ks := []) (hm0.mdn []) hs8_16 (MIL.cons (MI.app MI.z (nx39) (Nat.le_refl _)) MIL.nil)).nil
        replace hlm1 := (Mo.trL (ks := []) (hlm1.mdn []) hs8_16 (MIL.cons (MI.app MI.z (nx40) (Nat.le_refl _)) MIL.nil)).nil
        have hz17 := hs8_16.size
        refine ⟨.inl rfl, ?_⟩
        refine LH.done (by kernel_rfl) ?_
        have hqe := hqn33
        refine hK14 _ _ ?_
        refine CW.seq (fun K16 hK16 hE16 => ?_)
        refine CW.region ?_
        refine LR.v (Y.fieldAddr vt.pt rfl Tryd.runUnderlying29 rfl rfl Tryd.sizeOf23 (by decide) rfl) (Wd.u rfl) rfl rfl ?_
        refine LR.v (Y.arrAddr (vt.pt.drop 1) (0) rfl Tryd.runUnderlying23 Tryd.sizeOf5 rfl rfl (by first | rfl | omega) (by first | omega | (simp; omega) | (simp; done))) (Wd.u rfl) rfl rfl ?_
        refine LR.s (S.var1 vt 1 (fT ⟨1 + r33, x.td[i].i.set 0 1⟩) rfl rfl rfl (rfl) Tryd.sizeOf5 (by simp [fT_len]) (t_i0 hti)) (Wd.u rfl) rfl (fun H9_2 r9_2 => ?_)
        obtain ⟨vt, hs9_2⟩ := r9_2
        replace hs9_2 := hs9_2.md1
        replace hl := hl.upL hs9_2 (DFL.cons df33 DFL.nil)
        replace va := va.upL hs9_2 (DL.cons dj34 DL.nil)
        replace vr := vr.upL hs9_2 (DL.cons dj35 DL.nil)
        replace ow := ow.upL hs9_2 (DL.cons dj36 DL.nil)
        replace hm0 := (Mo.trL (ks := []) (hm0.mdn []) hs9_2 (MIL.cons (MI.app MI.z (nx39) (Nat.le_refl _)) MIL.nil)).nil
        replace hlm1 := (Mo.trL (ks := []) (hlm1.mdn []) hs9_2 (MIL.cons (MI.app MI.z (nx40) (Nat.le_refl _)) MIL.nil)).nil
        have hz18 := hs9_2.size
        refine LR.nil ?_
        refine hK16 _ _ ?_
        refine CW.region ?_
        refine LR.v (Y.move rfl rfl) (Wd.u rfl) rfl rfl ?_
        refine LR.v (Y.loadN vt.pt rfl Tryd.isAgg29 Tryd.sizeOf29 (fT_len _) rfl) (Wd.u rfl) rfl rfl ?_
        refine LR.z (Z.litw _ ([⟨1 + r33, x.td[i].i.set 0 1⟩]) rfl inf24 rfl rfl rfl (by decide) (by decide) fT_len fT_one (rfl)) (Wd.u rfl) rfl rfl (fun v46 H46 r46 => ?_)
        obtain ⟨nw46, hs46, ob46, hH46⟩ := r46
        have hzs46 : H46.size = H9_2.size + 1 := by rw [hH46]; simp
        have df41 := (DF.new (bf_hl.mono hm0.size) : DF _ (H9_2.size + 1))
        have dj42 : Dj (H0.size + 1) (H9_2.size + 1) := Dj.new va.lt
        have dj43 : Dj (H1.size + 1) (H9_2.size + 1) := Dj.new vr.lt
        have dj44 : Dj k1 (H9_2.size + 1) := Dj.new ow.le
        have dj45 : Dj (HL1.size + 1) (H9_2.size + 1) := Dj.new vt.lt
        have nx46 : Nx 0 H0.size (H9_2.size + 1) := Nx.new hm0.size
        have nx47 : Nx 0 H3_5.size (H9_2.size + 1) := Nx.new hlm1.size
        replace hl := hl.nw hs46
        replace va := va.nw hs46
        replace vr := vr.nw hs46
        replace ow := ow.nw hs46
        replace vt := vt.nw hs46
        replace hm0 := hm0.tr hs46
        replace hlm1 := hlm1.tr hs46
        have hz19 := hs46.size
        refine LR.z (Z.apnd ow nw46.rd rfl inf24 rfl rfl (by simp; omega) (by simp; omega)) (Wd.u rfl) rfl rfl (fun v47 H47 r47 => ?_)
        obtain ⟨k47, ow, hk47, hs47⟩ := r47
        replace hk47 : Nx k1 H46.size k47 := hk47
        replace hs47 := hs47.md
        have df48 := DF.app (df6) (bf_hl.mono hm0.size) hk47
        have dj49 : Dj (H0.size + 1) k47 := Dj.app (dj7) va.lt hk47
        have dj50 : Dj (H1.size + 1) k47 := Dj.app (dj8) vr.lt hk47
        have dj51 : Dj (HL1.size + 1) k47 := Dj.app (dj36.symm) vt.lt hk47
        have dj52 : Dj (H9_2.size + 1) k47 := Dj.app (dj44.symm) nw46.le hk47
        have nx53 : Nx 0 H0.size k47 := Nx.tr (nx9) hk47 hm0.size
        have nx54 : Nx 0 H3_5.size k47 := Nx.tr (nx10) hk47 hlm1.size
        replace hl := hl.upL hs47 (DFL.cons df6 DFL.nil)
        replace va := va.upL hs47 (DL.cons dj7 DL.nil)
        replace vr := vr.upL hs47 (DL.cons dj8 DL.nil)
        replace vt := vt.upL hs47 (DL.cons dj36.symm DL.nil)
        replace nw46 := nw46.upL hs47 (DL.cons dj44.symm DL.nil)
        replace hm0 := (Mo.trL (ks := []) (hm0.mdn []) hs47 (MIL.cons (MI.app MI.z (nx9) (Nat.le_refl _)) MIL.nil)).nil
        replace hlm1 := (Mo.trL (ks := []) (hlm1.mdn []) hs47 (MIL.cons (MI.app MI.z (nx10) (Nat.le_refl _)) MIL.nil)).nil
        have hz20 := hs47.size
        have hle_ow := ow.le
        obtain ⟨s47, rfl⟩ : ∃ s : SV, v47 = s.v := ⟨toSV v47, ow.sv.symm⟩
        refine LR.v (Y.assign rfl rfl) (Wd.u rfl) rfl rfl ?_
        refine LR.nil ?_
        refine hK13 _ _ ?_
        refine hK12 _ _ ?_
        refine CW.region ?_
        refine LR.v (Y.move rfl rfl) (Wd.u rfl) rfl rfl ?_
        refine LR.v (Y.addi rfl rfl rfl (by omega)) (Wd.u rfl) rfl rfl ?_
        refine LR.v (Y.assign rfl rfl) (Wd.u rfl) rfl rfl ?_
        refine LR.nil ?_
        refine QN.sub (hN9 (i + 1, s47, k47, l ++ [⟨1 + r33, x.td[i].i.set 0 1⟩]) _ ?_ ?_) ⟨rfl, rfl, rfl, (iv (by omega)), trivial⟩
        · exact ⟨⟨by omega, by omega⟩, ow, (by simp; omega), (by
          intro t ht
          rcases List.mem_append.1 ht with h | h
          · exact hg t h
          · rw [List.mem_singleton.1 h]; exact ⟨⟨by show 1 ≤ 1 + r33; omega, by show 1 + r33 ≤ 3; omega⟩, by show (x.td[i].i.set 0 1).length = 32; rw [List.length_set]; exact hti, set_nz hti⟩), nx54, hlm1⟩
        · first | omega | (simp only; omega) | (simp; omega)
    ·
      refine CW.exit (hE10 (.exit 0) nofun _ _ (hE9 (.exit 0) nofun _ _ (hX8 _ _ ?_)))
      refine hK6 _ _ ?_
      refine CW.seq (fun K17 hK17 hE17 => ?_)
      refine CW.seq (fun K18 hK18 hE18 => ?_)
      refine CW.region ?_
      refine LR.v (Y.move rfl rfl) (Wd.u rfl) rfl rfl ?_
      refine LR.v (Y.len ow.rd rfl Tryd.runUnderlying24 rfl) (Wd.u rfl) rfl rfl ?_
      refine LR.v (Y.eql rfl rfl rfl) (Wd.u rfl) rfl rfl ?_
      refine LR.nil ?_
      refine hK18 _ _ ?_
      refine CW.condp rfl (fun c50 => ?_) (fun c50 => ?_)
      ·
        refine CW.region ?_
        refine LR.v (Y.build (v := idV (idn 1)) rfl rfl (by intro w; kernel_rfl)) (Wd.u rfl) rfl rfl ?_
        refine LR.v (Y.build (v := tv_ ⟨1, idn 1⟩) rfl rfl (by intro w; kernel_rfl)) (Wd.u rfl) rfl rfl ?_
        refine LR.z (Z.litw _ ([⟨1, idn 1⟩]) rfl inf24 rfl rfl rfl (by decide) (by decide) fT_len fT_one (rfl)) (Wd.u rfl) rfl rfl (fun v53 H53 r53 => ?_)
        obtain ⟨ow, hs53, ob53, hH53⟩ := r53
        have hzs53 : H53.size = HL1.size + 1 := by rw [hH53]; simp
        have df55 := (DF.new (bf_hl.mono hm0.size) : DF _ (HL1.size + 1))
        have dj56 : Dj (H0.size + 1) (HL1.size + 1) := Dj.new va.lt
        have dj57 : Dj (H1.size + 1) (HL1.size + 1) := Dj.new vr.lt
        have nx58 : Nx 0 H0.size (HL1.size + 1) := Nx.new hm0.size
        replace hl := hl.nw hs53
        replace va := va.nw hs53
        replace vr := vr.nw hs53
        replace hm0 := hm0.tr hs53
        have hz21 := hs53.size
        obtain ⟨vl, rfl⟩ : ∃ s : SV, v53 = s.v := ⟨toSV v53, ow.sv.symm⟩
        obtain ⟨l, el⟩ : ∃ l : List Td, l = [⟨1, idn 1⟩] := ⟨_, rfl⟩
        rw [← el] at ow
        have hl1 : 1 ≤ l.length ∧ l.length ≤ 20 := by rw [el]; decide
        have hg : ∀ t ∈ l, okT t := by rw [el]; intro t ht; rw [List.mem_singleton.1 ht]; exact ⟨by decide, idn_len _, by decide⟩
        refine LR.v (Y.assign rfl rfl) (Wd.u rfl) rfl rfl ?_
        refine LR.nil ?_
        refine hK17 _ _ ?_
        refine CW.seq (fun K19 hK19 hE19 => ?_)
        refine CW.region ?_
        refine LR.v (Y.move rfl rfl) (Wd.u rfl) rfl rfl ?_
        refine LR.v (Y.fieldAddr va.pt rfl Tryd.runUnderlying26 rfl rfl Tryd.sizeOf24 (by decide) rfl) (Wd.u rfl) rfl rfl ?_
        refine LR.s (S.var1 va 66 (fQ { x with k := 1 + r8, br := [98], og := x.og.set 0 1, cu := x.cu.set 0 1, tv := vl, td := l }) rfl rfl rfl (rfl) Tryd.sizeOf24 (by simp [fQ_len]) (q_tv _ vl l)) (Wd.u rfl) rfl (fun H13_2 r13_2 => ?_)
        obtain ⟨va, hs13_2⟩ := r13_2
        replace hs13_2 := hs13_2.md1
        replace hl := hl.upL hs13_2 (DFL.cons df1 DFL.nil)
        replace vr := vr.upL hs13_2 (DL.cons dj4.symm DL.nil)
        replace ow := ow.upL hs13_2 (DL.cons dj56.symm DL.nil)
        replace hm0 := (Mo.trL (ks := []) (hm0.mdn []) hs13_2 (MIL.cons (MI.app MI.z (nx2) (Nat.le_refl _)) MIL.nil)).nil
        have hz22 := hs13_2.size
        refine LR.nil ?_
        refine hK19 _ _ ?_
        refine CW.seq (fun K20 hK20 hE20 => ?_)
        refine CW.region ?_
        refine LR.v (Y.fieldAddr va.pt rfl Tryd.runUnderlying26 rfl rfl Tryd.sizeOf3 (by decide) rfl) (Wd.u rfl) rfl rfl ?_
        refine LR.v (Y.cast (v2 := .int .i64 x.dn) (Y.load1 va.pt.q67 rfl Tryd.isAgg3 rfl) (rfl)) (Wd.u rfl) rfl rfl ?_
        refine LR.v (Y.move rfl rfl) (Wd.u rfl) rfl rfl ?_
        refine LR.v (Y.len ow.rd rfl Tryd.runUnderlying24 rfl) (Wd.u rfl) rfl rfl ?_
        -- call selvage/selvagelaw20.within
        refine LR.call rfl Tryd.call25 rfl (Wd.u rfl) rfl rfl (within_ct x.dn l.length w0 _ (by omega)) (fun v60 H60 r60 => ?_)
        obtain ⟨r60, rfl, hr60, hs60⟩ := r60
        replace hl := hl.nw hs60
        replace va := va.nw hs60
        replace vr := vr.nw hs60
        replace ow := ow.nw hs60
        replace hm0 := hm0.tr hs60
        have hz23 := hs60.size
        refine LR.v (Y.fieldAddr va.pt rfl Tryd.runUnderlying26 rfl rfl Tryd.sizeOf3 (by decide) rfl) (Wd.u rfl) rfl rfl ?_
        refine LR.s (S.var1 va 67 (fQ { x with k := 1 + r8, br := [98], og := x.og.set 0 1, cu := x.cu.set 0 1, tv := vl, td := l, dn := r60 }) rfl rfl rfl (rfl) Tryd.sizeOf3 (by simp [fQ_len]) (q_dn _ _)) (Wd.u rfl) rfl (fun H14_6 r14_6 => ?_)
        obtain ⟨va, hs14_6⟩ := r14_6
        replace hs14_6 := hs14_6.md1
        replace hl := hl.upL hs14_6 (DFL.cons df1 DFL.nil)
        replace vr := vr.upL hs14_6 (DL.cons dj4.symm DL.nil)
        replace ow := ow.upL hs14_6 (DL.cons dj56.symm DL.nil)
        replace hm0 := (Mo.trL (ks := []) (hm0.mdn []) hs14_6 (MIL.cons (MI.app MI.z (nx2) (Nat.le_refl _)) MIL.nil)).nil
        have hz24 := hs14_6.size
        refine LR.nil ?_
        refine hK20 _ _ ?_
        refine CW.seq (fun K21 hK21 hE21 => ?_)
        refine CW.region ?_
        refine LR.v (Y.fieldAddr va.pt rfl Tryd.runUnderlying26 rfl rfl Tryd.sizeOf3 (by decide) rfl) (Wd.u rfl) rfl rfl ?_
        refine LR.v (Y.cast (v2 := .int .i64 x.md) (Y.load1 (va.pt.q67.drop 1) rfl Tryd.isAgg3 rfl) (rfl)) (Wd.u rfl) rfl rfl ?_
        refine LR.v (Y.fieldAddr va.pt rfl Tryd.runUnderlying26 rfl rfl Tryd.sizeOf3 (by decide) rfl) (Wd.u rfl) rfl rfl ?_
        refine LR.v (Y.cast (v2 := .int .i64 r60) (Y.load1 va.pt.q67 rfl Tryd.isAgg3 rfl) (rfl)) (Wd.u rfl) rfl rfl ?_
        refine LR.v (Y.addi rfl rfl rfl (by omega)) (Wd.u rfl) rfl rfl ?_
        -- call selvage/selvagelaw20.within
        refine LR.call rfl Tryd.call25 rfl (Wd.u rfl) rfl rfl (within_ct x.md (r60 + 1) w0 _ (by omega)) (fun v67 H67 r67 => ?_)
        obtain ⟨r67, rfl, hr67, hs67⟩ := r67
        replace hl := hl.nw hs67
        replace va := va.nw hs67
        replace vr := vr.nw hs67
        replace ow := ow.nw hs67
        replace hm0 := hm0.tr hs67
        have hz25 := hs67.size
        refine LR.v (Y.fieldAddr va.pt rfl Tryd.runUnderlying26 rfl rfl Tryd.sizeOf3 (by decide) rfl) (Wd.u rfl) rfl rfl ?_
        refine LR.s (S.var1 va 68 (fQ { x with k := 1 + r8, br := [98], og := x.og.set 0 1, cu := x.cu.set 0 1, tv := vl, td := l, dn := r60, md := r67 }) rfl rfl rfl (rfl) Tryd.sizeOf3 (by simp [fQ_len]) (q_md _ _)) (Wd.u rfl) rfl (fun H15_7 r15_7 => ?_)
        obtain ⟨va, hs15_7⟩ := r15_7
        replace hs15_7 := hs15_7.md1
        replace hl := hl.upL hs15_7 (DFL.cons df1 DFL.nil)
        replace vr := vr.upL hs15_7 (DL.cons dj4.symm DL.nil)
        replace ow := ow.upL hs15_7 (DL.cons dj56.symm DL.nil)
        replace hm0 := (Mo.trL (ks := []) (hm0.mdn []) hs15_7 (MIL.cons (MI.app MI.z (nx2) (Nat.le_refl _)) MIL.nil)).nil
        have hz26 := hs15_7.size
        refine LR.nil ?_
        refine hK21 _ _ ?_
        refine CW.seq (fun K22 hK22 hE22 => ?_)
        refine CW.region ?_
        refine LR.v (Y.loadN va.pt rfl Tryd.isAgg26 Tryd.sizeOf26 (fQ_len _) rfl) (Wd.u rfl) rfl rfl ?_
        refine LR.s (S.var vr (_) (fQ { x with k := 1 + r8, br := [98], og := x.og.set 0 1, cu := x.cu.set 0 1, tv := vl, td := l, dn := r60, md := r67 }) rfl rfl rfl rfl (fQ_one { x with k := 1 + r8, br := [98], og := x.og.set 0 1, cu := x.cu.set 0 1, tv := vl, td := l, dn := r60, md := r67 }) Tryd.sizeOf26 (fQ_len _) (by first | decide | simp [fQ_len]) ((splice_all2 (by first | exact (fQ_len _).symm | exact (fQ_len _).trans (fQ_len _).symm)))) (Wd.u rfl) rfl (fun H16_1 r16_1 => ?_)
        obtain ⟨vr, hs16_1⟩ := r16_1
        replace hs16_1 := hs16_1.md1
        replace hl := hl.upL hs16_1 (DFL.cons df3 DFL.nil)
        replace va := va.upL hs16_1 (DL.cons dj4 DL.nil)
        replace ow := ow.upL hs16_1 (DL.cons dj57.symm DL.nil)
        replace hm0 := (Mo.trL (ks := []) (hm0.mdn []) hs16_1 (MIL.cons (MI.app MI.z (nx5) (Nat.le_refl _)) MIL.nil)).nil
        have hz27 := hs16_1.size
        refine LR.nil ?_
        refine hK22 _ _ ?_
        refine CW.ret (hret .ret (.inr rfl) _ _ _ (resC rfl rfl vr.pt Tryd.isAgg26 Tryd.sizeOf26 (fQ_len _)) ?_)
        exact ⟨{ x with k := 1 + r8, br := [98], og := x.og.set 0 1, cu := x.cu.set 0 1, tv := vl, td := l, dn := r60, md := r67 }, (HL1.size + 1), rfl, ow, nx58, ⟨by show 1 + r8 = 1 ∨ 1 + r8 = 2; omega, rfl, set_nz hw.ho, set_nz hw.hc, by show (x.og.set 0 1).length = 32; rw [List.length_set]; exact hw.ho, by show (x.cu.set 0 1).length = 32; rw [List.length_set]; exact hw.hc, hg, hl1.2, hr60, by show 0 ≤ r67 ∧ r67 ≤ r60; omega⟩, hm0⟩
      ·
        have hl1 : 1 ≤ l.length ∧ l.length ≤ 20 := by omega
        refine CW.skip ?_
        refine hK17 _ _ ?_
        refine CW.seq (fun K23 hK23 hE23 => ?_)
        refine CW.region ?_
        refine LR.v (Y.move rfl rfl) (Wd.u rfl) rfl rfl ?_
        refine LR.v (Y.fieldAddr va.pt rfl Tryd.runUnderlying26 rfl rfl Tryd.sizeOf24 (by decide) rfl) (Wd.u rfl) rfl rfl ?_
        refine LR.s (S.var1 va 66 (fQ { x with k := 1 + r8, br := [98], og := x.og.set 0 1, cu := x.cu.set 0 1, tv := vl, td := l }) rfl rfl rfl (rfl) Tryd.sizeOf24 (by simp [fQ_len]) (q_tv _ vl l)) (Wd.u rfl) rfl (fun H13_2 r13_2 => ?_)
        obtain ⟨va, hs13_2⟩ := r13_2
        replace hs13_2 := hs13_2.md1
        replace hl := hl.upL hs13_2 (DFL.cons df1 DFL.nil)
        replace vr := vr.upL hs13_2 (DL.cons dj4.symm DL.nil)
        replace ow := ow.upL hs13_2 (DL.cons dj7.symm DL.nil)
        replace hm0 := (Mo.trL (ks := []) (hm0.mdn []) hs13_2 (MIL.cons (MI.app MI.z (nx2) (Nat.le_refl _)) MIL.nil)).nil
        have hz28 := hs13_2.size
        refine LR.nil ?_
        refine hK23 _ _ ?_
        refine CW.seq (fun K24 hK24 hE24 => ?_)
        refine CW.region ?_
        refine LR.v (Y.fieldAddr va.pt rfl Tryd.runUnderlying26 rfl rfl Tryd.sizeOf3 (by decide) rfl) (Wd.u rfl) rfl rfl ?_
        refine LR.v (Y.cast (v2 := .int .i64 x.dn) (Y.load1 va.pt.q67 rfl Tryd.isAgg3 rfl) (rfl)) (Wd.u rfl) rfl rfl ?_
        refine LR.v (Y.move rfl rfl) (Wd.u rfl) rfl rfl ?_
        refine LR.v (Y.len ow.rd rfl Tryd.runUnderlying24 rfl) (Wd.u rfl) rfl rfl ?_
        -- call selvage/selvagelaw20.within
        refine LR.call rfl Tryd.call25 rfl (Wd.u rfl) rfl rfl (within_ct x.dn l.length w0 _ (by omega)) (fun v60 H60 r60 => ?_)
        obtain ⟨r60, rfl, hr60, hs60⟩ := r60
        replace hl := hl.nw hs60
        replace va := va.nw hs60
        replace vr := vr.nw hs60
        replace ow := ow.nw hs60
        replace hm0 := hm0.tr hs60
        have hz29 := hs60.size
        refine LR.v (Y.fieldAddr va.pt rfl Tryd.runUnderlying26 rfl rfl Tryd.sizeOf3 (by decide) rfl) (Wd.u rfl) rfl rfl ?_
        refine LR.s (S.var1 va 67 (fQ { x with k := 1 + r8, br := [98], og := x.og.set 0 1, cu := x.cu.set 0 1, tv := vl, td := l, dn := r60 }) rfl rfl rfl (rfl) Tryd.sizeOf3 (by simp [fQ_len]) (q_dn _ _)) (Wd.u rfl) rfl (fun H14_6 r14_6 => ?_)
        obtain ⟨va, hs14_6⟩ := r14_6
        replace hs14_6 := hs14_6.md1
        replace hl := hl.upL hs14_6 (DFL.cons df1 DFL.nil)
        replace vr := vr.upL hs14_6 (DL.cons dj4.symm DL.nil)
        replace ow := ow.upL hs14_6 (DL.cons dj7.symm DL.nil)
        replace hm0 := (Mo.trL (ks := []) (hm0.mdn []) hs14_6 (MIL.cons (MI.app MI.z (nx2) (Nat.le_refl _)) MIL.nil)).nil
        have hz30 := hs14_6.size
        refine LR.nil ?_
        refine hK24 _ _ ?_
        refine CW.seq (fun K25 hK25 hE25 => ?_)
        refine CW.region ?_
        refine LR.v (Y.fieldAddr va.pt rfl Tryd.runUnderlying26 rfl rfl Tryd.sizeOf3 (by decide) rfl) (Wd.u rfl) rfl rfl ?_
        refine LR.v (Y.cast (v2 := .int .i64 x.md) (Y.load1 (va.pt.q67.drop 1) rfl Tryd.isAgg3 rfl) (rfl)) (Wd.u rfl) rfl rfl ?_
        refine LR.v (Y.fieldAddr va.pt rfl Tryd.runUnderlying26 rfl rfl Tryd.sizeOf3 (by decide) rfl) (Wd.u rfl) rfl rfl ?_
        refine LR.v (Y.cast (v2 := .int .i64 r60) (Y.load1 va.pt.q67 rfl Tryd.isAgg3 rfl) (rfl)) (Wd.u rfl) rfl rfl ?_
        refine LR.v (Y.addi rfl rfl rfl (by omega)) (Wd.u rfl) rfl rfl ?_
        -- call selvage/selvagelaw20.within
        refine LR.call rfl Tryd.call25 rfl (Wd.u rfl) rfl rfl (within_ct x.md (r60 + 1) w0 _ (by omega)) (fun v67 H67 r67 => ?_)
        obtain ⟨r67, rfl, hr67, hs67⟩ := r67
        replace hl := hl.nw hs67
        replace va := va.nw hs67
        replace vr := vr.nw hs67
        replace ow := ow.nw hs67
        replace hm0 := hm0.tr hs67
        have hz31 := hs67.size
        refine LR.v (Y.fieldAddr va.pt rfl Tryd.runUnderlying26 rfl rfl Tryd.sizeOf3 (by decide) rfl) (Wd.u rfl) rfl rfl ?_
        refine LR.s (S.var1 va 68 (fQ { x with k := 1 + r8, br := [98], og := x.og.set 0 1, cu := x.cu.set 0 1, tv := vl, td := l, dn := r60, md := r67 }) rfl rfl rfl (rfl) Tryd.sizeOf3 (by simp [fQ_len]) (q_md _ _)) (Wd.u rfl) rfl (fun H15_7 r15_7 => ?_)
        obtain ⟨va, hs15_7⟩ := r15_7
        replace hs15_7 := hs15_7.md1
        replace hl := hl.upL hs15_7 (DFL.cons df1 DFL.nil)
        replace vr := vr.upL hs15_7 (DL.cons dj4.symm DL.nil)
        replace ow := ow.upL hs15_7 (DL.cons dj7.symm DL.nil)
        replace hm0 := (Mo.trL (ks := []) (hm0.mdn []) hs15_7 (MIL.cons (MI.app MI.z (nx2) (Nat.le_refl _)) MIL.nil)).nil
        have hz32 := hs15_7.size
        refine LR.nil ?_
        refine hK25 _ _ ?_
        refine CW.seq (fun K26 hK26 hE26 => ?_)
        refine CW.region ?_
        refine LR.v (Y.loadN va.pt rfl Tryd.isAgg26 Tryd.sizeOf26 (fQ_len _) rfl) (Wd.u rfl) rfl rfl ?_
        refine LR.s (S.var vr (_) (fQ { x with k := 1 + r8, br := [98], og := x.og.set 0 1, cu := x.cu.set 0 1, tv := vl, td := l, dn := r60, md := r67 }) rfl rfl rfl rfl (fQ_one { x with k := 1 + r8, br := [98], og := x.og.set 0 1, cu := x.cu.set 0 1, tv := vl, td := l, dn := r60, md := r67 }) Tryd.sizeOf26 (fQ_len _) (by first | decide | simp [fQ_len]) ((splice_all2 (by first | exact (fQ_len _).symm | exact (fQ_len _).trans (fQ_len _).symm)))) (Wd.u rfl) rfl (fun H16_1 r16_1 => ?_)
        obtain ⟨vr, hs16_1⟩ := r16_1
        replace hs16_1 := hs16_1.md1
        replace hl := hl.upL hs16_1 (DFL.cons df3 DFL.nil)
        replace va := va.upL hs16_1 (DL.cons dj4 DL.nil)
        replace ow := ow.upL hs16_1 (DL.cons dj8.symm DL.nil)
        replace hm0 := (Mo.trL (ks := []) (hm0.mdn []) hs16_1 (MIL.cons (MI.app MI.z (nx5) (Nat.le_refl _)) MIL.nil)).nil
        have hz33 := hs16_1.size
        refine LR.nil ?_
        refine hK26 _ _ ?_
        refine CW.ret (hret .ret (.inr rfl) _ _ _ (resC rfl rfl vr.pt Tryd.isAgg26 Tryd.sizeOf26 (fQ_len _)) ?_)
        exact ⟨{ x with k := 1 + r8, br := [98], og := x.og.set 0 1, cu := x.cu.set 0 1, tv := vl, td := l, dn := r60, md := r67 }, k1, rfl, ow, nx9, ⟨by show 1 + r8 = 1 ∨ 1 + r8 = 2; omega, rfl, set_nz hw.ho, set_nz hw.hc, by show (x.og.set 0 1).length = 32; rw [List.length_set]; exact hw.ho, by show (x.cu.set 0 1).length = 32; rw [List.length_set]; exact hw.hc, hg, hl1.2, hr60, by show 0 ≤ r67 ∧ r67 ≤ r60; omega⟩, hm0⟩
  ·
    refine LR.gs rfl rfl rfl rfl rfl rfl ?_
    refine LR.gs rfl rfl rfl rfl rfl rfl ?_
    refine LR.v (Y.pick_f rfl rfl rfl) (Wd.u rfl) rfl rfl ?_
    refine LR.nil ?_
    refine hK11 _ _ ?_
    refine CW.cond_f rfl ?_
    refine CW.exit (hE10 (.exit 0) nofun _ _ (hE9 (.exit 0) nofun _ _ (hX8 _ _ ?_)))
    refine hK6 _ _ ?_
    refine CW.seq (fun K27 hK27 hE27 => ?_)
    refine CW.seq (fun K28 hK28 hE28 => ?_)
    refine CW.region ?_
    refine LR.v (Y.move rfl rfl) (Wd.u rfl) rfl rfl ?_
    refine LR.v (Y.len ow.rd rfl Tryd.runUnderlying24 rfl) (Wd.u rfl) rfl rfl ?_
    refine LR.v (Y.eql rfl rfl rfl) (Wd.u rfl) rfl rfl ?_
    refine LR.nil ?_
    refine hK28 _ _ ?_
    refine CW.condp rfl (fun c50 => ?_) (fun c50 => ?_)
    ·
      refine CW.region ?_
      refine LR.v (Y.build (v := idV (idn 1)) rfl rfl (by intro w; kernel_rfl)) (Wd.u rfl) rfl rfl ?_
      refine LR.v (Y.build (v := tv_ ⟨1, idn 1⟩) rfl rfl (by intro w; kernel_rfl)) (Wd.u rfl) rfl rfl ?_
      refine LR.z (Z.litw _ ([⟨1, idn 1⟩]) rfl inf24 rfl rfl rfl (by decide) (by decide) fT_len fT_one (rfl)) (Wd.u rfl) rfl rfl (fun v53 H53 r53 => ?_)
      obtain ⟨ow, hs53, ob53, hH53⟩ := r53
      have hzs53 : H53.size = HL1.size + 1 := by rw [hH53]; simp
      have df59 := (DF.new (bf_hl.mono hm0.size) : DF _ (HL1.size + 1))
      have dj60 : Dj (H0.size + 1) (HL1.size + 1) := Dj.new va.lt
      have dj61 : Dj (H1.size + 1) (HL1.size + 1) := Dj.new vr.lt
      have nx62 : Nx 0 H0.size (HL1.size + 1) := Nx.new hm0.size
      replace hl := hl.nw hs53
      replace va := va.nw hs53
      replace vr := vr.nw hs53
      replace hm0 := hm0.tr hs53
      have hz34 := hs53.size
      obtain ⟨vl, rfl⟩ : ∃ s : SV, v53 = s.v := ⟨toSV v53, ow.sv.symm⟩
      obtain ⟨l, el⟩ : ∃ l : List Td, l = [⟨1, idn 1⟩] := ⟨_, rfl⟩
      rw [← el] at ow
      have hl1 : 1 ≤ l.length ∧ l.length ≤ 20 := by rw [el]; decide
      have hg : ∀ t ∈ l, okT t := by rw [el]; intro t ht; rw [List.mem_singleton.1 ht]; exact ⟨by decide, idn_len _, by decide⟩
      refine LR.v (Y.assign rfl rfl) (Wd.u rfl) rfl rfl ?_
      refine LR.nil ?_
      refine hK27 _ _ ?_
      refine CW.seq (fun K29 hK29 hE29 => ?_)
      refine CW.region ?_
      refine LR.v (Y.move rfl rfl) (Wd.u rfl) rfl rfl ?_
      refine LR.v (Y.fieldAddr va.pt rfl Tryd.runUnderlying26 rfl rfl Tryd.sizeOf24 (by decide) rfl) (Wd.u rfl) rfl rfl ?_
      refine LR.s (S.var1 va 66 (fQ { x with k := 1 + r8, br := [98], og := x.og.set 0 1, cu := x.cu.set 0 1, tv := vl, td := l }) rfl rfl rfl (rfl) Tryd.sizeOf24 (by simp [fQ_len]) (q_tv _ vl l)) (Wd.u rfl) rfl (fun H13_2 r13_2 => ?_)
      obtain ⟨va, hs13_2⟩ := r13_2
      replace hs13_2 := hs13_2.md1
      replace hl := hl.upL hs13_2 (DFL.cons df1 DFL.nil)
      replace vr := vr.upL hs13_2 (DL.cons dj4.symm DL.nil)
      replace ow := ow.upL hs13_2 (DL.cons dj60.symm DL.nil)
      replace hm0 := (Mo.trL (ks := []) (hm0.mdn []) hs13_2 (MIL.cons (MI.app MI.z (nx2) (Nat.le_refl _)) MIL.nil)).nil
      have hz35 := hs13_2.size
      refine LR.nil ?_
      refine hK29 _ _ ?_
      refine CW.seq (fun K30 hK30 hE30 => ?_)
      refine CW.region ?_
      refine LR.v (Y.fieldAddr va.pt rfl Tryd.runUnderlying26 rfl rfl Tryd.sizeOf3 (by decide) rfl) (Wd.u rfl) rfl rfl ?_
      refine LR.v (Y.cast (v2 := .int .i64 x.dn) (Y.load1 va.pt.q67 rfl Tryd.isAgg3 rfl) (rfl)) (Wd.u rfl) rfl rfl ?_
      refine LR.v (Y.move rfl rfl) (Wd.u rfl) rfl rfl ?_
      refine LR.v (Y.len ow.rd rfl Tryd.runUnderlying24 rfl) (Wd.u rfl) rfl rfl ?_
      -- call selvage/selvagelaw20.within
      refine LR.call rfl Tryd.call25 rfl (Wd.u rfl) rfl rfl (within_ct x.dn l.length w0 _ (by omega)) (fun v60 H60 r60 => ?_)
      obtain ⟨r60, rfl, hr60, hs60⟩ := r60
      replace hl := hl.nw hs60
      replace va := va.nw hs60
      replace vr := vr.nw hs60
      replace ow := ow.nw hs60
      replace hm0 := hm0.tr hs60
      have hz36 := hs60.size
      refine LR.v (Y.fieldAddr va.pt rfl Tryd.runUnderlying26 rfl rfl Tryd.sizeOf3 (by decide) rfl) (Wd.u rfl) rfl rfl ?_
      refine LR.s (S.var1 va 67 (fQ { x with k := 1 + r8, br := [98], og := x.og.set 0 1, cu := x.cu.set 0 1, tv := vl, td := l, dn := r60 }) rfl rfl rfl (rfl) Tryd.sizeOf3 (by simp [fQ_len]) (q_dn _ _)) (Wd.u rfl) rfl (fun H14_6 r14_6 => ?_)
      obtain ⟨va, hs14_6⟩ := r14_6
      replace hs14_6 := hs14_6.md1
      replace hl := hl.upL hs14_6 (DFL.cons df1 DFL.nil)
      replace vr := vr.upL hs14_6 (DL.cons dj4.symm DL.nil)
      replace ow := ow.upL hs14_6 (DL.cons dj60.symm DL.nil)
      replace hm0 := (Mo.trL (ks := []) (hm0.mdn []) hs14_6 (MIL.cons (MI.app MI.z (nx2) (Nat.le_refl _)) MIL.nil)).nil
      have hz37 := hs14_6.size
      refine LR.nil ?_
      refine hK30 _ _ ?_
      refine CW.seq (fun K31 hK31 hE31 => ?_)
      refine CW.region ?_
      refine LR.v (Y.fieldAddr va.pt rfl Tryd.runUnderlying26 rfl rfl Tryd.sizeOf3 (by decide) rfl) (Wd.u rfl) rfl rfl ?_
      refine LR.v (Y.cast (v2 := .int .i64 x.md) (Y.load1 (va.pt.q67.drop 1) rfl Tryd.isAgg3 rfl) (rfl)) (Wd.u rfl) rfl rfl ?_
      refine LR.v (Y.fieldAddr va.pt rfl Tryd.runUnderlying26 rfl rfl Tryd.sizeOf3 (by decide) rfl) (Wd.u rfl) rfl rfl ?_
      refine LR.v (Y.cast (v2 := .int .i64 r60) (Y.load1 va.pt.q67 rfl Tryd.isAgg3 rfl) (rfl)) (Wd.u rfl) rfl rfl ?_
      refine LR.v (Y.addi rfl rfl rfl (by omega)) (Wd.u rfl) rfl rfl ?_
      -- call selvage/selvagelaw20.within
      refine LR.call rfl Tryd.call25 rfl (Wd.u rfl) rfl rfl (within_ct x.md (r60 + 1) w0 _ (by omega)) (fun v67 H67 r67 => ?_)
      obtain ⟨r67, rfl, hr67, hs67⟩ := r67
      replace hl := hl.nw hs67
      replace va := va.nw hs67
      replace vr := vr.nw hs67
      replace ow := ow.nw hs67
      replace hm0 := hm0.tr hs67
      have hz38 := hs67.size
      refine LR.v (Y.fieldAddr va.pt rfl Tryd.runUnderlying26 rfl rfl Tryd.sizeOf3 (by decide) rfl) (Wd.u rfl) rfl rfl ?_
      refine LR.s (S.var1 va 68 (fQ { x with k := 1 + r8, br := [98], og := x.og.set 0 1, cu := x.cu.set 0 1, tv := vl, td := l, dn := r60, md := r67 }) rfl rfl rfl (rfl) Tryd.sizeOf3 (by simp [fQ_len]) (q_md _ _)) (Wd.u rfl) rfl (fun H15_7 r15_7 => ?_)
      obtain ⟨va, hs15_7⟩ := r15_7
      replace hs15_7 := hs15_7.md1
      replace hl := hl.upL hs15_7 (DFL.cons df1 DFL.nil)
      replace vr := vr.upL hs15_7 (DL.cons dj4.symm DL.nil)
      replace ow := ow.upL hs15_7 (DL.cons dj60.symm DL.nil)
      replace hm0 := (Mo.trL (ks := []) (hm0.mdn []) hs15_7 (MIL.cons (MI.app MI.z (nx2) (Nat.le_refl _)) MIL.nil)).nil
      have hz39 := hs15_7.size
      refine LR.nil ?_
      refine hK31 _ _ ?_
      refine CW.seq (fun K32 hK32 hE32 => ?_)
      refine CW.region ?_
      refine LR.v (Y.loadN va.pt rfl Tryd.isAgg26 Tryd.sizeOf26 (fQ_len _) rfl) (Wd.u rfl) rfl rfl ?_
      refine LR.s (S.var vr (_) (fQ { x with k := 1 + r8, br := [98], og := x.og.set 0 1, cu := x.cu.set 0 1, tv := vl, td := l, dn := r60, md := r67 }) rfl rfl rfl rfl (fQ_one { x with k := 1 + r8, br := [98], og := x.og.set 0 1, cu := x.cu.set 0 1, tv := vl, td := l, dn := r60, md := r67 }) Tryd.sizeOf26 (fQ_len _) (by first | decide | simp [fQ_len]) ((splice_all2 (by first | exact (fQ_len _).symm | exact (fQ_len _).trans (fQ_len _).symm)))) (Wd.u rfl) rfl (fun H16_1 r16_1 => ?_)
      obtain ⟨vr, hs16_1⟩ := r16_1
      replace hs16_1 := hs16_1.md1
      replace hl := hl.upL hs16_1 (DFL.cons df3 DFL.nil)
      replace va := va.upL hs16_1 (DL.cons dj4 DL.nil)
      replace ow := ow.upL hs16_1 (DL.cons dj61.symm DL.nil)
      replace hm0 := (Mo.trL (ks := []) (hm0.mdn []) hs16_1 (MIL.cons (MI.app MI.z (nx5) (Nat.le_refl _)) MIL.nil)).nil
      have hz40 := hs16_1.size
      refine LR.nil ?_
      refine hK32 _ _ ?_
      refine CW.ret (hret .ret (.inr rfl) _ _ _ (resC rfl rfl vr.pt Tryd.isAgg26 Tryd.sizeOf26 (fQ_len _)) ?_)
      exact ⟨{ x with k := 1 + r8, br := [98], og := x.og.set 0 1, cu := x.cu.set 0 1, tv := vl, td := l, dn := r60, md := r67 }, (HL1.size + 1), rfl, ow, nx62, ⟨by show 1 + r8 = 1 ∨ 1 + r8 = 2; omega, rfl, set_nz hw.ho, set_nz hw.hc, by show (x.og.set 0 1).length = 32; rw [List.length_set]; exact hw.ho, by show (x.cu.set 0 1).length = 32; rw [List.length_set]; exact hw.hc, hg, hl1.2, hr60, by show 0 ≤ r67 ∧ r67 ≤ r60; omega⟩, hm0⟩
    ·
      have hl1 : 1 ≤ l.length ∧ l.length ≤ 20 := by omega
      refine CW.skip ?_
      refine hK27 _ _ ?_
      refine CW.seq (fun K33 hK33 hE33 => ?_)
      refine CW.region ?_
      refine LR.v (Y.move rfl rfl) (Wd.u rfl) rfl rfl ?_
      refine LR.v (Y.fieldAddr va.pt rfl Tryd.runUnderlying26 rfl rfl Tryd.sizeOf24 (by decide) rfl) (Wd.u rfl) rfl rfl ?_
      refine LR.s (S.var1 va 66 (fQ { x with k := 1 + r8, br := [98], og := x.og.set 0 1, cu := x.cu.set 0 1, tv := vl, td := l }) rfl rfl rfl (rfl) Tryd.sizeOf24 (by simp [fQ_len]) (q_tv _ vl l)) (Wd.u rfl) rfl (fun H13_2 r13_2 => ?_)
      obtain ⟨va, hs13_2⟩ := r13_2
      replace hs13_2 := hs13_2.md1
      replace hl := hl.upL hs13_2 (DFL.cons df1 DFL.nil)
      replace vr := vr.upL hs13_2 (DL.cons dj4.symm DL.nil)
      replace ow := ow.upL hs13_2 (DL.cons dj7.symm DL.nil)
      replace hm0 := (Mo.trL (ks := []) (hm0.mdn []) hs13_2 (MIL.cons (MI.app MI.z (nx2) (Nat.le_refl _)) MIL.nil)).nil
      have hz41 := hs13_2.size
      refine LR.nil ?_
      refine hK33 _ _ ?_
      refine CW.seq (fun K34 hK34 hE34 => ?_)
      refine CW.region ?_
      refine LR.v (Y.fieldAddr va.pt rfl Tryd.runUnderlying26 rfl rfl Tryd.sizeOf3 (by decide) rfl) (Wd.u rfl) rfl rfl ?_
      refine LR.v (Y.cast (v2 := .int .i64 x.dn) (Y.load1 va.pt.q67 rfl Tryd.isAgg3 rfl) (rfl)) (Wd.u rfl) rfl rfl ?_
      refine LR.v (Y.move rfl rfl) (Wd.u rfl) rfl rfl ?_
      refine LR.v (Y.len ow.rd rfl Tryd.runUnderlying24 rfl) (Wd.u rfl) rfl rfl ?_
      -- call selvage/selvagelaw20.within
      refine LR.call rfl Tryd.call25 rfl (Wd.u rfl) rfl rfl (within_ct x.dn l.length w0 _ (by omega)) (fun v60 H60 r60 => ?_)
      obtain ⟨r60, rfl, hr60, hs60⟩ := r60
      replace hl := hl.nw hs60
      replace va := va.nw hs60
      replace vr := vr.nw hs60
      replace ow := ow.nw hs60
      replace hm0 := hm0.tr hs60
      have hz42 := hs60.size
      refine LR.v (Y.fieldAddr va.pt rfl Tryd.runUnderlying26 rfl rfl Tryd.sizeOf3 (by decide) rfl) (Wd.u rfl) rfl rfl ?_
      refine LR.s (S.var1 va 67 (fQ { x with k := 1 + r8, br := [98], og := x.og.set 0 1, cu := x.cu.set 0 1, tv := vl, td := l, dn := r60 }) rfl rfl rfl (rfl) Tryd.sizeOf3 (by simp [fQ_len]) (q_dn _ _)) (Wd.u rfl) rfl (fun H14_6 r14_6 => ?_)
      obtain ⟨va, hs14_6⟩ := r14_6
      replace hs14_6 := hs14_6.md1
      replace hl := hl.upL hs14_6 (DFL.cons df1 DFL.nil)
      replace vr := vr.upL hs14_6 (DL.cons dj4.symm DL.nil)
      replace ow := ow.upL hs14_6 (DL.cons dj7.symm DL.nil)
      replace hm0 := (Mo.trL (ks := []) (hm0.mdn []) hs14_6 (MIL.cons (MI.app MI.z (nx2) (Nat.le_refl _)) MIL.nil)).nil
      have hz43 := hs14_6.size
      refine LR.nil ?_
      refine hK34 _ _ ?_
      refine CW.seq (fun K35 hK35 hE35 => ?_)
      refine CW.region ?_
      refine LR.v (Y.fieldAddr va.pt rfl Tryd.runUnderlying26 rfl rfl Tryd.sizeOf3 (by decide) rfl) (Wd.u rfl) rfl rfl ?_
      refine LR.v (Y.cast (v2 := .int .i64 x.md) (Y.load1 (va.pt.q67.drop 1) rfl Tryd.isAgg3 rfl) (rfl)) (Wd.u rfl) rfl rfl ?_
      refine LR.v (Y.fieldAddr va.pt rfl Tryd.runUnderlying26 rfl rfl Tryd.sizeOf3 (by decide) rfl) (Wd.u rfl) rfl rfl ?_
      refine LR.v (Y.cast (v2 := .int .i64 r60) (Y.load1 va.pt.q67 rfl Tryd.isAgg3 rfl) (rfl)) (Wd.u rfl) rfl rfl ?_
      refine LR.v (Y.addi rfl rfl rfl (by omega)) (Wd.u rfl) rfl rfl ?_
      -- call selvage/selvagelaw20.within
      refine LR.call rfl Tryd.call25 rfl (Wd.u rfl) rfl rfl (within_ct x.md (r60 + 1) w0 _ (by omega)) (fun v67 H67 r67 => ?_)
      obtain ⟨r67, rfl, hr67, hs67⟩ := r67
      replace hl := hl.nw hs67
      replace va := va.nw hs67
      replace vr := vr.nw hs67
      replace ow := ow.nw hs67
      replace hm0 := hm0.tr hs67
      have hz44 := hs67.size
      refine LR.v (Y.fieldAddr va.pt rfl Tryd.runUnderlying26 rfl rfl Tryd.sizeOf3 (by decide) rfl) (Wd.u rfl) rfl rfl ?_
      refine LR.s (S.var1 va 68 (fQ { x with k := 1 + r8, br := [98], og := x.og.set 0 1, cu := x.cu.set 0 1, tv := vl, td := l, dn := r60, md := r67 }) rfl rfl rfl (rfl) Tryd.sizeOf3 (by simp [fQ_len]) (q_md _ _)) (Wd.u rfl) rfl (fun H15_7 r15_7 => ?_)
      obtain ⟨va, hs15_7⟩ := r15_7
      replace hs15_7 := hs15_7.md1
      replace hl := hl.upL hs15_7 (DFL.cons df1 DFL.nil)
      replace vr := vr.upL hs15_7 (DL.cons dj4.symm DL.nil)
      replace ow := ow.upL hs15_7 (DL.cons dj7.symm DL.nil)
      replace hm0 := (Mo.trL (ks := []) (hm0.mdn []) hs15_7 (MIL.cons (MI.app MI.z (nx2) (Nat.le_refl _)) MIL.nil)).nil
      have hz45 := hs15_7.size
      refine LR.nil ?_
      refine hK35 _ _ ?_
      refine CW.seq (fun K36 hK36 hE36 => ?_)
      refine CW.region ?_
      refine LR.v (Y.loadN va.pt rfl Tryd.isAgg26 Tryd.sizeOf26 (fQ_len _) rfl) (Wd.u rfl) rfl rfl ?_
      refine LR.s (S.var vr (_) (fQ { x with k := 1 + r8, br := [98], og := x.og.set 0 1, cu := x.cu.set 0 1, tv := vl, td := l, dn := r60, md := r67 }) rfl rfl rfl rfl (fQ_one { x with k := 1 + r8, br := [98], og := x.og.set 0 1, cu := x.cu.set 0 1, tv := vl, td := l, dn := r60, md := r67 }) Tryd.sizeOf26 (fQ_len _) (by first | decide | simp [fQ_len]) ((splice_all2 (by first | exact (fQ_len _).symm | exact (fQ_len _).trans (fQ_len _).symm)))) (Wd.u rfl) rfl (fun H16_1 r16_1 => ?_)
      obtain ⟨vr, hs16_1⟩ := r16_1
      replace hs16_1 := hs16_1.md1
      replace hl := hl.upL hs16_1 (DFL.cons df3 DFL.nil)
      replace va := va.upL hs16_1 (DL.cons dj4 DL.nil)
      replace ow := ow.upL hs16_1 (DL.cons dj8.symm DL.nil)
      replace hm0 := (Mo.trL (ks := []) (hm0.mdn []) hs16_1 (MIL.cons (MI.app MI.z (nx5) (Nat.le_refl _)) MIL.nil)).nil
      have hz46 := hs16_1.size
      refine LR.nil ?_
      refine hK36 _ _ ?_
      refine CW.ret (hret .ret (.inr rfl) _ _ _ (resC rfl rfl vr.pt Tryd.isAgg26 Tryd.sizeOf26 (fQ_len _)) ?_)
      exact ⟨{ x with k := 1 + r8, br := [98], og := x.og.set 0 1, cu := x.cu.set 0 1, tv := vl, td := l, dn := r60, md := r67 }, k1, rfl, ow, nx9, ⟨by show 1 + r8 = 1 ∨ 1 + r8 = 2; omega, rfl, set_nz hw.ho, set_nz hw.hc, by show (x.og.set 0 1).length = 32; rw [List.length_set]; exact hw.ho, by show (x.cu.set 0 1).length = 32; rw [List.length_set]; exact hw.hc, hg, hl1.2, hr60, by show 0 ≤ r67 ∧ r67 ≤ r60; omega⟩, hm0⟩

end Go.Proofs.YtabopjdbgkhacaaDoor.SeqO
