/-
  Sequences: a transaction that bears one alone is written, and checked.
-/
import Derived.Test.YtabopjdbgkhacaaDoorSeqD
namespace Go.Proofs.YtabopjdbgkhacaaDoor.SeqE
open Go.Proofs.YtabopjdbgkhacaaDoor.E Go.RowKit Go.Proofs.YtabopjdbgkhacaaDoor.NamA Go.Proofs.YtabopjdbgkhacaaDoor.NamB Go.Proofs.YtabopjdbgkhacaaDoor.NamC Go.Proofs.YtabopjdbgkhacaaDoor.NamD Go.Proofs.YtabopjdbgkhacaaDoor.SeqA Go.Proofs.YtabopjdbgkhacaaDoor.SeqB Go.Proofs.YtabopjdbgkhacaaDoor.SeqC Go.Proofs.YtabopjdbgkhacaaDoor.SeqD Go.Proofs.YtabopjdbgkhacaaDoor.Num
set_option maxRecDepth 20000
set_option linter.unusedVariables false
set_option linter.unusedSimpArgs false
set_option linter.unusedSectionVars false
set_option maxRecDepth 100000 in
theorem inf57 : Inf Tryd.prog 57 5 1 1 := ⟨Tryd.underlying57, _, _, rfl, rfl, rfl, rfl, rfl⟩

theorem wnumL {bw k : Nat} {s : SV} {xs : List UInt8} (n : Nat) {x : UInt64} (w0 : World) (H0 : Heap) (hwv : Var 90 H0 bw [s.v, .int .i64 0, .int .i64 0]) (ow : Ow k 5 H0 fB 1 s.v xs) (hd : Dj (bw + 1) k) (hn : n ≤ 8) (hx : xs.length ≤ 1099511627776) :
    Ct Tryd.prog w0 51 #[.pointer (some ⟨bw, 0, none⟩), .int .i64 n, .int .u64 x.toNat] H0 (fun r H2 => ∃ s2 : SV, ∃ k2 : Nat, ∃ ys : List UInt8, r = .tuple #[] ∧ (Var 90 H2 bw [s2.v, .int .i64 0, .int .i64 0]) ∧ (Ow k2 5 H2 fB 1 s2.v ys) ∧ (Nx k H0.size k2) ∧ (Dj (bw + 1) k2) ∧ (ys.length = xs.length + n) ∧ Mo (Ms [(bw + 1), k]) H0 H2) := by
  refine (wnum_ct bw k s xs n x w0 H0 hwv ow hd hn hx).mono ?_
  rintro r H2 ⟨s2, k2, rfl, h1, h2, h3, h4, h5⟩
  exact ⟨s2, k2, _, rfl, h1, h2, h3, h4, by rw [List.length_append, numL_len], h5⟩

theorem wtext_ct (bw k : Nat) (s : SV) (xs : List UInt8) (n : Nat) (t : List UInt8) (w0 : World) (H0 : Heap)
    (hwv : Var 90 H0 bw [s.v, .int .i64 0, .int .i64 0]) (ow : Ow k 5 H0 fB 1 s.v xs) (hd : Dj (bw + 1) k) (hx : xs.length ≤ 1099511627776) (hn : n ≤ 8) (ht : t.length ≤ 1099511627776) :
    Ct Tryd.prog w0 53 #[.pointer (some ⟨bw, 0, none⟩), .int .i64 n, Str t] H0 (fun r H2 => ∃ s2 : SV, ∃ k2 : Nat, ∃ ys : List UInt8, r = .tuple #[] ∧ (Var 90 H2 bw [s2.v, .int .i64 0, .int .i64 0]) ∧ (Ow k2 5 H2 fB 1 s2.v ys) ∧ (Nx k H0.size k2) ∧ (Dj (bw + 1) k2) ∧ (ys.length = xs.length + n + t.length) ∧ Mo (Ms [(bw + 1), k]) H0 H2) := by
  refine Ct.enter (args := [.pointer (some ⟨bw, 0, none⟩), .int .i64 n, Str t]) Tryd.func53 rfl rfl rfl ?_
  intro Q0 hret
  have hm0 : Mo (Ms [(bw + 1), k]) H0 H0 := Mo.refl _ _
  have nx_hm0_hwv := Nx.refl (bw + 1) H0.size
  have hlt_hwv := hwv.lt
  have nx_hm0_ow := Nx.refl k H0.size
  have hle_ow := ow.le
  refine CW.seq (fun K1 hK1 hE1 => ?_)
  refine CW.region ?_
  refine LR.v (Y.move rfl rfl) (Wd.u rfl) rfl rfl ?_
  refine LR.v (Y.move rfl rfl) (Wd.u rfl) rfl rfl ?_
  refine LR.v (Y.move rfl rfl) (Wd.u rfl) rfl rfl ?_
  refine LR.v (Y.slen rfl Tryd.runUnderlying9 rfl) (Wd.u rfl) rfl rfl ?_
  refine LR.v (Y.conv_u64 rfl Tryd.runUnderlying3 Tryd.runUnderlying92 rfl) (Wd.u rfl) rfl rfl ?_
  -- call (*selvage/codec.writer).number
  refine LR.call rfl Tryd.call51 rfl (Wd.u rfl) rfl rfl (wnumL n w0 _ hwv ow (hd) hn hx) (fun v11 H11 r11 => ?_)
  have ql1 := hwv.lt
  have ql2 := ow.le
  obtain ⟨s11, k11, y11, rfl, hwv, ow, hk11, hd11, hy11, hs11⟩ := r11
  have dj3 : Dj (bw + 1) k11 := Dj.app (hd) ql1 hk11
  have nx4 : Nx k H0.size k11 := Nx.tr (nx_hm0_ow) hk11 hm0.size
  replace hm0 := hm0.trL hs11 (MIL.cons (MI.app (MI.root (by simp)) (nx_hm0_hwv) (Nat.le_refl _)) (MIL.cons (MI.app (MI.root (by simp)) (nx_hm0_ow) (Nat.le_refl _)) MIL.nil))
  have hz1 := hs11.size
  have hle_ow := ow.le
  refine LR.nil ?_
  refine hK1 _ _ ?_
  refine CW.region ?_
  refine LR.v (Y.move rfl rfl) (Wd.u rfl) rfl rfl ?_
  refine LR.v (Y.move rfl rfl) (Wd.u rfl) rfl rfl ?_
  refine LR.v (Y.nilCheck rfl rfl) (Wd.u rfl) rfl rfl ?_
  refine LR.v (Y.fieldAddr hwv.pt rfl Tryd.runUnderlying90 rfl rfl Tryd.sizeOf88 (by decide) rfl) (Wd.u rfl) rfl rfl ?_
  refine LR.v (Y.fieldAddr hwv.pt rfl Tryd.runUnderlying88 rfl rfl Tryd.sizeOf57 (by decide) rfl) (Wd.u rfl) rfl rfl ?_
  refine LR.v (Y.load1 hwv.pt rfl Tryd.isAgg57 rfl) (Wd.u rfl) rfl rfl ?_
  refine LR.v (Y.move rfl rfl) (Wd.u rfl) rfl rfl ?_
  refine LR.z (Z.apndStr ow rfl inf57 Tryd.underlying9 rfl rfl (by omega)) (Wd.u rfl) rfl rfl (fun v19 H19 r19 => ?_)
  obtain ⟨k19, ow, hk19, hs19⟩ := r19
  replace hk19 : Nx k11 H11.size k19 := hk19
  replace hs19 := hs19.md
  have dj5 : Dj (bw + 1) k19 := Dj.app (hd11) hwv.lt hk19
  have nx6 : Nx k H0.size k19 := Nx.tr (nx4) hk19 hm0.size
  replace hwv := hwv.upL hs19 (DL.cons hd11 DL.nil)
  replace hm0 := hm0.trL hs19 (MIL.cons (MI.app (MI.root (by simp)) (nx4) (Nat.le_refl _)) MIL.nil)
  have hz2 := hs19.size
  have hle_ow := ow.le
  obtain ⟨s19, rfl⟩ : ∃ s : SV, v19 = s.v := ⟨toSV v19, ow.sv.symm⟩
  refine LR.v (Y.nilCheck rfl rfl) (Wd.u rfl) rfl rfl ?_
  refine LR.v (Y.fieldAddr hwv.pt rfl Tryd.runUnderlying90 rfl rfl Tryd.sizeOf88 (by decide) rfl) (Wd.u rfl) rfl rfl ?_
  refine LR.v (Y.fieldAddr hwv.pt rfl Tryd.runUnderlying88 rfl rfl Tryd.sizeOf57 (by decide) rfl) (Wd.u rfl) rfl rfl ?_
  refine LR.s (S.var1 hwv 0 (_) rfl rfl rfl (rfl) Tryd.sizeOf57 (by simp) (rfl)) (Wd.u rfl) rfl (fun H1_11 r1_11 => ?_)
  obtain ⟨hwv, hs1_11⟩ := r1_11
  replace hs1_11 := hs1_11.md1
  replace ow := ow.upL hs1_11 (DL.cons dj5.symm DL.nil)
  replace hm0 := hm0.trL hs1_11 (MIL.cons (MI.app (MI.root (by simp)) (nx_hm0_hwv) (Nat.le_refl _)) MIL.nil)
  have hz3 := hs1_11.size
  refine LR.nil ?_
  refine hret .normal (.inl rfl) _ _ _ (res0 rfl) ?_
  exact ⟨s19, k19, _, rfl, hwv, ow, nx6, (dj5), by rw [List.length_append, hy11], hm0⟩

theorem wid_ct (bw k : Nat) (s : SV) (xs : List UInt8) (i : List UInt8) (w0 : World) (H0 : Heap)
    (hwv : Var 90 H0 bw [s.v, .int .i64 0, .int .i64 0]) (ow : Ow k 5 H0 fB 1 s.v xs) (hd : Dj (bw + 1) k) (hx : xs.length ≤ 1099511627776) (hi : i.length = 32) :
    Ct Tryd.prog w0 54 #[.pointer (some ⟨bw, 0, none⟩), idV i] H0 (fun r H2 => ∃ s2 : SV, ∃ k2 : Nat, ∃ ys : List UInt8, r = .tuple #[] ∧ (Var 90 H2 bw [s2.v, .int .i64 0, .int .i64 0]) ∧ (Ow k2 5 H2 fB 1 s2.v ys) ∧ (Nx k H0.size k2) ∧ (Dj (bw + 1) k2) ∧ (ys.length = xs.length + 32) ∧ Mo (Ms [(bw + 1), k]) H0 H2) := by
  refine Ct.enter (args := [.pointer (some ⟨bw, 0, none⟩), idV i]) Tryd.func54 rfl rfl rfl ?_
  intro Q0 hret
  have hm0 : Mo (Ms [(bw + 1), k]) H0 H0 := Mo.refl _ _
  have nx_hm0_hwv := Nx.refl (bw + 1) H0.size
  have hlt_hwv := hwv.lt
  have nx_hm0_ow := Nx.refl k H0.size
  have hle_ow := ow.le
  refine CW.seq (fun K1 hK1 hE1 => ?_)
  refine CW.region ?_
  refine LR.z (Z.boxv rfl rfl) (Wd.u rfl) rfl rfl (fun v3 H3 r3 => ?_)
  obtain ⟨rfl, vi, hs3, ob3, hH3⟩ := r3
  have hzs3 : H3.size = H0.size + 1 := by rw [hH3]; simp
  have dj1 : Dj (bw + 1) (H0.size + 1) := Dj.new hwv.lt
  have dj2 : Dj k (H0.size + 1) := Dj.new ow.le
  have nx3 : Nx 0 H0.size (H0.size + 1) := Nx.new hm0.size
  replace hwv := hwv.nw hs3
  replace ow := ow.nw hs3
  replace hm0 := hm0.trN hs3
  have hz1 := hs3.size
  replace vi : Var 23 H3 H0.size (i.map V8) := vi
  refine LR.nil ?_
  refine hK1 _ _ ?_
  refine CW.region_any (fun Hq => Mo (Ms [k]) H3 Hq) [8, 9, 10, 11] rfl ?_
  have hq1 : Mo (Ms [k]) H3 H3 := Mo.refl _ _
  have nx4 := Nx.refl k H3.size
  refine LH.take 0 (by kernel_rfl) rfl (by kernel_rfl) (by kernel_rfl) (by kernel_rfl) (fun Hq hq => Y.move rfl rfl) (Wd.u rfl) rfl rfl hq1 ?_
  refine LH.take 1 (by kernel_rfl) rfl (by kernel_rfl) (by kernel_rfl) (by kernel_rfl) (fun Hq hq => Y.move rfl rfl) (Wd.u rfl) rfl rfl hq1 ?_
  refine LH.take 2 (by kernel_rfl) rfl (by kernel_rfl) (by kernel_rfl) (by kernel_rfl) (fun Hq hq => Y.nilCheck rfl rfl) (Wd.u rfl) rfl rfl hq1 ?_
  refine LH.take 3 (by kernel_rfl) rfl (by kernel_rfl) (by kernel_rfl) (by kernel_rfl) (fun Hq hq => Y.fieldAddr (hwv.upL hq (DL.cons hd DL.nil)).pt rfl Tryd.runUnderlying90 rfl rfl Tryd.sizeOf88 (by decide) rfl) (Wd.u rfl) rfl rfl hq1 ?_
  refine LH.take 4 (by kernel_rfl) rfl (by kernel_rfl) (by kernel_rfl) (by kernel_rfl) (fun Hq hq => Y.fieldAddr (hwv.upL hq (DL.cons hd DL.nil)).pt rfl Tryd.runUnderlying88 rfl rfl Tryd.sizeOf57 (by decide) rfl) (Wd.u rfl) rfl rfl hq1 ?_
  refine LH.take 5 (by kernel_rfl) rfl (by kernel_rfl) (by kernel_rfl) (by kernel_rfl) (fun Hq hq => Y.load1 (hwv.upL hq (DL.cons hd DL.nil)).pt rfl Tryd.isAgg57 rfl) (Wd.u rfl) rfl rfl hq1 ?_
  refine LH.e (g := fun v => v) 6 (by kernel_rfl) rfl (by kernel_rfl) (by kernel_rfl) (by kernel_rfl) (Y.sliceArrE (F := fun c => c = H0.size) (f := fB) (xs := i) vi.pt rfl vi.lt (hi) (fun i x h => ⟨by simp [h], rfl⟩) (0) (32) rfl (fun w => .inl (Tryd.runUnderlying23 w)) Tryd.sizeOf5 rfl (.inl ⟨rfl, rfl⟩) (.inl ⟨rfl, rfl⟩) (by omega) (by omega) (by decide)) (Wd.u rfl) rfl rfl hq1 (fun v10 rd10 => ?_)
  rw [List.drop_zero, List.take_of_length_le (by omega)] at rd10
  refine LH.one (i := 7) (by kernel_rfl) ?_
  refine LO.z rfl (Z.apnd ow rd10 rfl inf57 rfl rfl (by omega) (by omega)) (Wd.u rfl) rfl rfl (fun v11 H11 r11 => ?_)
  obtain ⟨k11, ow, hk11, hs11⟩ := r11
  replace hk11 : Nx k H3.size k11 := hk11
  replace hs11 := hs11.md
  have dj5 : Dj (bw + 1) k11 := Dj.app (hd) hwv.lt hk11
  have dj6 : Dj (H0.size + 1) k11 := Dj.app (dj2.symm) vi.lt hk11
  have nx7 : Nx k H0.size k11 := Nx.tr (nx_hm0_ow) hk11 hm0.size
  have nx8 : Nx k H3.size k11 := Nx.tr (nx4) hk11 hq1.size
  replace hwv := hwv.upL hs11 (DL.cons hd DL.nil)
  replace vi := vi.upL hs11 (DL.cons dj2.symm DL.nil)
  replace hm0 := hm0.trL hs11 (MIL.cons (MI.app (MI.root (by simp)) (nx_hm0_ow) (Nat.le_refl _)) MIL.nil)
  replace hq1 := hq1.trL hs11 (MIL.cons (MI.app (MI.root (by simp)) (nx4) (Nat.le_refl _)) MIL.nil)
  have hz2 := hs11.size
  have hle_ow := ow.le
  obtain ⟨s11, rfl⟩ : ∃ s : SV, v11 = s.v := ⟨toSV v11, ow.sv.symm⟩
  refine ⟨.inr hq1, LH.narrow (SH2 := fun Hq => Mo (Ms [k11]) H11 Hq) (fun Hq hq => hq1.trL hq (MIL.cons (MI.app (MI.root (by simp)) (nx8) (Nat.le_refl _)) MIL.nil)) ?_⟩
  have hq1 : Mo (Ms [k11]) H11 H11 := Mo.refl _ _
  have nx9 := Nx.refl k11 H11.size
  refine LH.one (i := 8) (by kernel_rfl) ?_
  refine LO.v rfl (Y.nilCheck rfl rfl) (Wd.u rfl) rfl rfl (.inl rfl) ?_
  refine LH.one (i := 9) (by kernel_rfl) ?_
  refine LO.v rfl (Y.fieldAddr hwv.pt rfl Tryd.runUnderlying90 rfl rfl Tryd.sizeOf88 (by decide) rfl) (Wd.u rfl) rfl rfl (.inl rfl) ?_
  refine LH.one (i := 10) (by kernel_rfl) ?_
  refine LO.v rfl (Y.fieldAddr hwv.pt rfl Tryd.runUnderlying88 rfl rfl Tryd.sizeOf57 (by decide) rfl) (Wd.u rfl) rfl rfl (.inl rfl) ?_
  refine LH.one (i := 11) (by kernel_rfl) ?_
  refine LO.s rfl (S.var1 hwv 0 ([s11.v, .int .i64 0, .int .i64 0]) rfl rfl rfl (rfl) Tryd.sizeOf57 (by simp) (rfl)) (Wd.u rfl) rfl (fun H1_11 r1_11 => ?_)
  obtain ⟨hwv, hs1_11⟩ := r1_11
  replace hs1_11 := hs1_11.md1
  replace ow := ow.upL hs1_11 (DL.cons dj5.symm DL.nil)
  replace vi := vi.upL hs1_11 (DL.cons dj1.symm DL.nil)
  replace hm0 := hm0.trL hs1_11 (MIL.cons (MI.app (MI.root (by simp)) (nx_hm0_hwv) (Nat.le_refl _)) MIL.nil)
  -- LOST hq1
  have hz3 := hs1_11.size
  refine ⟨.inl rfl, ?_⟩
  refine LH.done (by kernel_rfl) ?_
  refine hret .normal (.inl rfl) _ _ _ (res0 rfl) ?_
  exact ⟨s11, k11, _, rfl, hwv, ow, nx7, (dj5), by rw [List.length_append, hi], hm0⟩

theorem wdone_ct (bw : Nat) (s : SV) (w0 : World) (H0 : Heap)
    (hwv : Var 90 H0 bw [s.v, .int .i64 0, .int .i64 0]) :
    Ct Tryd.prog w0 56 #[.pointer (some ⟨bw, 0, none⟩)] H0 (fun r H2 => r = .tuple #[s.v, .int .i64 0] ∧ Nw H0 H2) := by
  refine Ct.enter (args := [.pointer (some ⟨bw, 0, none⟩)]) Tryd.func56 rfl rfl rfl ?_
  intro Q0 hret
  have hm0 : Nw H0 H0 := Mo.refl _ _
  have nx_hm0_hwv := Nx.refl (bw + 1) H0.size
  have hlt_hwv := hwv.lt
  refine CW.seq (fun K1 hK1 hE1 => ?_)
  refine CW.region ?_
  refine LR.v (Y.assign rfl rfl) (Wd.u rfl) rfl rfl ?_
  refine LR.v (Y.assign rfl rfl) (Wd.u rfl) rfl rfl ?_
  refine LR.nil ?_
  refine hK1 _ _ ?_
  refine CW.seq (fun K2 hK2 hE2 => ?_)
  refine CW.seq (fun K3 hK3 hE3 => ?_)
  refine CW.region ?_
  refine LR.v (Y.move rfl rfl) (Wd.u rfl) rfl rfl ?_
  refine LR.v (Y.nilCheck rfl rfl) (Wd.u rfl) rfl rfl ?_
  refine LR.v (Y.fieldAddr hwv.pt rfl Tryd.runUnderlying90 rfl rfl Tryd.sizeOf88 (by decide) rfl) (Wd.u rfl) rfl rfl ?_
  refine LR.v (Y.fieldAddr hwv.pt rfl Tryd.runUnderlying88 rfl rfl Tryd.sizeOf32 (by decide) rfl) (Wd.u rfl) rfl rfl ?_
  refine LR.v (Y.load1 (hwv.pt.drop 2) rfl Tryd.isAgg32 rfl) (Wd.u rfl) rfl rfl ?_
  refine LR.v (Y.neq rfl rfl rfl) (Wd.u rfl) rfl rfl ?_
  refine LR.nil ?_
  refine hK3 _ _ ?_
  refine CW.condp rfl (fun c9 => ?_) (fun c9 => ?_)
  ·
    exact absurd rfl c9
  ·
    refine CW.skip ?_
    refine hK2 _ _ ?_
    refine CW.seq (fun K4 hK4 hE4 => ?_)
    refine CW.region ?_
    refine LR.v (Y.move rfl rfl) (Wd.u rfl) rfl rfl ?_
    refine LR.v (Y.nilCheck rfl rfl) (Wd.u rfl) rfl rfl ?_
    refine LR.v (Y.fieldAddr hwv.pt rfl Tryd.runUnderlying90 rfl rfl Tryd.sizeOf88 (by decide) rfl) (Wd.u rfl) rfl rfl ?_
    refine LR.v (Y.fieldAddr hwv.pt rfl Tryd.runUnderlying88 rfl rfl Tryd.sizeOf57 (by decide) rfl) (Wd.u rfl) rfl rfl ?_
    refine LR.v (Y.load1 hwv.pt rfl Tryd.isAgg57 rfl) (Wd.u rfl) rfl rfl ?_
    refine LR.v (Y.assign rfl rfl) (Wd.u rfl) rfl rfl ?_
    refine LR.v (Y.assign rfl rfl) (Wd.u rfl) rfl rfl ?_
    refine LR.nil ?_
    refine hK4 _ _ ?_
    refine CW.ret (hret .ret (.inr rfl) _ _ _ (res2 rfl rfl rfl) ?_)
    exact ⟨rfl, hm0⟩

set_option maxHeartbeats 4000000 in
theorem wseq_ct (bw k : Nat) (s : SV) (xs : List UInt8) (x : Sq) (F : Nat → Prop) (w0 : World) (H0 : Heap)
    (hwv : Var 90 H0 bw [s.v, .int .i64 0, .int .i64 0]) (ow : Ow k 5 H0 fB 1 s.v xs) (hd : Dj (bw + 1) k) (hx : xs.length ≤ 1000) (hl : Rd F H0 fT 33 x.tv.v x.td) (bf_hl : BF F H0.size) (f1 : DF F (bw + 1)) (f2 : DF F k) (hw : SqW x) (he : EncW x) (hk0 : x.k ≠ 0) :
    Ct Tryd.prog w0 55 #[.pointer (some ⟨bw, 0, none⟩), qv x] H0 (fun r H2 => ∃ s2 : SV, ∃ k2 : Nat, ∃ ys : List UInt8, r = .tuple #[] ∧ (Var 90 H2 bw [s2.v, .int .i64 0, .int .i64 0]) ∧ (Ow k2 5 H2 fB 1 s2.v ys) ∧ (Nx k H0.size k2) ∧ (Dj (bw + 1) k2) ∧ (ys.length ≤ xs.length + 4000) ∧ Mo (Ms [(bw + 1), k]) H0 H2) := by
  refine Ct.enter (args := [.pointer (some ⟨bw, 0, none⟩), qv x]) Tryd.func55 rfl rfl rfl ?_
  intro Q0 hret
  have hm0 : Mo (Ms [(bw + 1), k]) H0 H0 := Mo.refl _ _
  have nx_hm0_hwv := Nx.refl (bw + 1) H0.size
  have hlt_hwv := hwv.lt
  have nx_hm0_ow := Nx.refl k H0.size
  have hle_ow := ow.le
  have hll := hl.len
  have e1 := he.k
  have e2 := he.br
  have e3 := he.td
  have e4 := he.dn
  have e5 := he.md
  refine CW.seq (fun K1 hK1 hE1 => ?_)
  refine CW.region ?_
  refine LR.z (Z.boxv rfl rfl) (Wd.u rfl) rfl rfl (fun v3 H3 r3 => ?_)
  obtain ⟨rfl, va, hs3, ob3, hH3⟩ := r3
  have hzs3 : H3.size = H0.size + 1 := by rw [hH3]; simp
  have dj1 : Dj (bw + 1) (H0.size + 1) := Dj.new hwv.lt
  have dj2 : Dj k (H0.size + 1) := Dj.new ow.le
  have df3 := (DF.new (bf_hl.mono hm0.size) : DF _ (H0.size + 1))
  have nx4 : Nx 0 H0.size (H0.size + 1) := Nx.new hm0.size
  replace hwv := hwv.nw hs3
  replace ow := ow.nw hs3
  replace hl := hl.nw hs3
  replace hm0 := hm0.trN hs3
  have hz1 := hs3.size
  replace va : Var 26 H3 H0.size (fQ x) := va
  refine LR.nil ?_
  refine hK1 _ _ ?_
  refine CW.seq (fun K2 hK2 hE2 => ?_)
  refine CW.region ?_
  refine LR.v (Y.move rfl rfl) (Wd.u rfl) rfl rfl ?_
  refine LR.v (Y.fieldAddr va.pt rfl Tryd.runUnderlying26 rfl rfl Tryd.sizeOf3 (by decide) rfl) (Wd.u rfl) rfl rfl ?_
  refine LR.v (Y.cast (v2 := .int .i64 ((x.k).toNat : Nat)) (Y.load1 va.pt rfl Tryd.isAgg3 rfl) (ivv (by omega))) (Wd.u rfl) rfl rfl ?_
  refine LR.v (Y.conv_u64 rfl Tryd.runUnderlying3 Tryd.runUnderlying92 rfl) (Wd.u rfl) rfl rfl ?_
  -- call (*selvage/codec.writer).number
  refine LR.call rfl Tryd.call51 rfl (Wd.u rfl) rfl rfl (wnumL 1 w0 _ hwv ow (hd) (by decide) (by omega)) (fun v10 H10 r10 => ?_)
  have ql5 := hwv.lt
  have ql6 := ow.le
  have ql7 := va.lt
  obtain ⟨s10, k10, y10, rfl, hwv, ow, hk10, hd10, hy10, hs10⟩ := r10
  have dj8 : Dj (bw + 1) k10 := Dj.app (hd) ql5 hk10
  have df9 := DF.app (f2) (bf_hl.mono hm0.size) hk10
  have dj10 : Dj (H0.size + 1) k10 := Dj.app (dj2.symm) ql7 hk10
  have nx11 : Nx k H0.size k10 := Nx.tr (nx_hm0_ow) hk10 hm0.size
  replace hl := hl.upL hs10 (DFL.cons f1 (DFL.cons f2 DFL.nil))
  replace va := va.upL hs10 (DL.cons dj1.symm (DL.cons dj2.symm DL.nil))
  replace hm0 := hm0.trL hs10 (MIL.cons (MI.app (MI.root (by simp)) (nx_hm0_hwv) (Nat.le_refl _)) (MIL.cons (MI.app (MI.root (by simp)) (nx_hm0_ow) (Nat.le_refl _)) MIL.nil))
  have hz2 := hs10.size
  have hle_ow := ow.le
  refine LR.nil ?_
  refine hK2 _ _ ?_
  refine CW.seq (fun K3 hK3 hE3 => ?_)
  refine CW.seq (fun K4 hK4 hE4 => ?_)
  refine CW.region ?_
  refine LR.v (Y.fieldAddr va.pt rfl Tryd.runUnderlying26 rfl rfl Tryd.sizeOf3 (by decide) rfl) (Wd.u rfl) rfl rfl ?_
  refine LR.v (Y.load1 va.pt rfl Tryd.isAgg3 rfl) (Wd.u rfl) rfl rfl ?_
  refine LR.v (Y.eql rfl rfl rfl) (Wd.u rfl) rfl rfl ?_
  refine LR.nil ?_
  refine hK4 _ _ ?_
  refine CW.condp rfl (fun c13 => ?_) (fun c13 => ?_)
  ·
    omega
  ·
    refine CW.skip ?_
    refine hK3 _ _ ?_
    refine CW.seq (fun K5 hK5 hE5 => ?_)
    refine CW.region ?_
    refine LR.v (Y.move rfl rfl) (Wd.u rfl) rfl rfl ?_
    refine LR.v (Y.fieldAddr va.pt rfl Tryd.runUnderlying26 rfl rfl Tryd.sizeOf9 (by decide) rfl) (Wd.u rfl) rfl rfl ?_
    refine LR.v (Y.load1 (va.pt.drop 1) rfl Tryd.isAgg9 rfl) (Wd.u rfl) rfl rfl ?_
    -- call (*selvage/codec.writer).text
    refine LR.call rfl Tryd.call53 rfl (Wd.u rfl) rfl rfl (wtext_ct _ _ _ _ 1 x.br w0 _ hwv ow (hd10) (by omega) (by decide) (by omega)) (fun v17 H17 r17 => ?_)
    have ql12 := hwv.lt
    have ql13 := ow.le
    have ql14 := va.lt
    obtain ⟨s17, k17, y17, rfl, hwv, ow, hk17, hd17, hy17, hs17⟩ := r17
    have dj15 : Dj (bw + 1) k17 := Dj.app (hd10) ql12 hk17
    have df16 := DF.app (df9) (bf_hl.mono hm0.size) hk17
    have dj17 : Dj (H0.size + 1) k17 := Dj.app (dj10) ql14 hk17
    have nx18 : Nx k H0.size k17 := Nx.tr (nx11) hk17 hm0.size
    replace hl := hl.upL hs17 (DFL.cons f1 (DFL.cons df9 DFL.nil))
    replace va := va.upL hs17 (DL.cons dj1.symm (DL.cons dj10 DL.nil))
    replace hm0 := hm0.trL hs17 (MIL.cons (MI.app (MI.root (by simp)) (nx_hm0_hwv) (Nat.le_refl _)) (MIL.cons (MI.app (MI.root (by simp)) (nx11) (Nat.le_refl _)) MIL.nil))
    have hz3 := hs17.size
    have hle_ow := ow.le
    refine LR.nil ?_
    refine hK5 _ _ ?_
    refine CW.seq (fun K6 hK6 hE6 => ?_)
    refine CW.region ?_
    refine LR.v (Y.move rfl rfl) (Wd.u rfl) rfl rfl ?_
    refine LR.v (Y.fieldAddr va.pt rfl Tryd.runUnderlying26 rfl rfl Tryd.sizeOf23 (by decide) rfl) (Wd.u rfl) rfl rfl ?_
    refine LR.v (Y.cast (v2 := idV x.og) (Y.loadN ((va.pt.drop 2).take 32) rfl Tryd.isAgg23 Tryd.sizeOf23 (by simp [fQ_len]) rfl) (congrArg (fun z : List Value => Value.agg z.toArray) ((fQ_og _).trans (kc_eq hw.ho)))) (Wd.u rfl) rfl rfl ?_
    -- call (*selvage/codec.writer).id
    refine LR.call rfl Tryd.call54 rfl (Wd.u rfl) rfl rfl (wid_ct _ _ _ _ x.og w0 _ hwv ow (hd17) (by omega) hw.ho) (fun v21 H21 r21 => ?_)
    have ql19 := hwv.lt
    have ql20 := ow.le
    have ql21 := va.lt
    obtain ⟨s21, k21, y21, rfl, hwv, ow, hk21, hd21, hy21, hs21⟩ := r21
    have dj22 : Dj (bw + 1) k21 := Dj.app (hd17) ql19 hk21
    have df23 := DF.app (df16) (bf_hl.mono hm0.size) hk21
    have dj24 : Dj (H0.size + 1) k21 := Dj.app (dj17) ql21 hk21
    have nx25 : Nx k H0.size k21 := Nx.tr (nx18) hk21 hm0.size
    replace hl := hl.upL hs21 (DFL.cons f1 (DFL.cons df16 DFL.nil))
    replace va := va.upL hs21 (DL.cons dj1.symm (DL.cons dj17 DL.nil))
    replace hm0 := hm0.trL hs21 (MIL.cons (MI.app (MI.root (by simp)) (nx_hm0_hwv) (Nat.le_refl _)) (MIL.cons (MI.app (MI.root (by simp)) (nx18) (Nat.le_refl _)) MIL.nil))
    have hz4 := hs21.size
    have hle_ow := ow.le
    refine LR.nil ?_
    refine hK6 _ _ ?_
    refine CW.seq (fun K7 hK7 hE7 => ?_)
    refine CW.region ?_
    refine LR.v (Y.move rfl rfl) (Wd.u rfl) rfl rfl ?_
    refine LR.v (Y.fieldAddr va.pt rfl Tryd.runUnderlying26 rfl rfl Tryd.sizeOf23 (by decide) rfl) (Wd.u rfl) rfl rfl ?_
    refine LR.v (Y.cast (v2 := idV x.cu) (Y.loadN ((va.pt.drop 34).take 32) rfl Tryd.isAgg23 Tryd.sizeOf23 (by simp [fQ_len]) rfl) (congrArg (fun z : List Value => Value.agg z.toArray) ((fQ_cu _).trans (kc_eq hw.hc)))) (Wd.u rfl) rfl rfl ?_
    -- call (*selvage/codec.writer).id
    refine LR.call rfl Tryd.call54 rfl (Wd.u rfl) rfl rfl (wid_ct _ _ _ _ x.cu w0 _ hwv ow (hd21) (by omega) hw.hc) (fun v25 H25 r25 => ?_)
    have ql26 := hwv.lt
    have ql27 := ow.le
    have ql28 := va.lt
    obtain ⟨s25, k25, y25, rfl, hwv, ow, hk25, hd25, hy25, hs25⟩ := r25
    have dj29 : Dj (bw + 1) k25 := Dj.app (hd21) ql26 hk25
    have df30 := DF.app (df23) (bf_hl.mono hm0.size) hk25
    have dj31 : Dj (H0.size + 1) k25 := Dj.app (dj24) ql28 hk25
    have nx32 : Nx k H0.size k25 := Nx.tr (nx25) hk25 hm0.size
    replace hl := hl.upL hs25 (DFL.cons f1 (DFL.cons df23 DFL.nil))
    replace va := va.upL hs25 (DL.cons dj1.symm (DL.cons dj24 DL.nil))
    replace hm0 := hm0.trL hs25 (MIL.cons (MI.app (MI.root (by simp)) (nx_hm0_hwv) (Nat.le_refl _)) (MIL.cons (MI.app (MI.root (by simp)) (nx25) (Nat.le_refl _)) MIL.nil))
    have hz5 := hs25.size
    have hle_ow := ow.le
    refine LR.nil ?_
    refine hK7 _ _ ?_
    refine CW.seq (fun K8 hK8 hE8 => ?_)
    refine CW.region ?_
    refine LR.v (Y.move rfl rfl) (Wd.u rfl) rfl rfl ?_
    refine LR.v (Y.fieldAddr va.pt rfl Tryd.runUnderlying26 rfl rfl Tryd.sizeOf24 (by decide) rfl) (Wd.u rfl) rfl rfl ?_
    refine LR.v (Y.load1 va.pt.q66 rfl Tryd.isAgg24 rfl) (Wd.u rfl) rfl rfl ?_
    refine LR.v (Y.len hl rfl Tryd.runUnderlying24 rfl) (Wd.u rfl) rfl rfl ?_
    refine LR.v (Y.conv_u64 rfl Tryd.runUnderlying3 Tryd.runUnderlying92 rfl) (Wd.u rfl) rfl rfl ?_
    -- call (*selvage/codec.writer).number
    refine LR.call rfl Tryd.call51 rfl (Wd.u rfl) rfl rfl (wnumL 2 w0 _ hwv ow (hd25) (by decide) (by omega)) (fun v31 H31 r31 => ?_)
    have ql33 := hwv.lt
    have ql34 := ow.le
    have ql35 := va.lt
    obtain ⟨s31, k31, y31, rfl, hwv, ow, hk31, hd31, hy31, hs31⟩ := r31
    have dj36 : Dj (bw + 1) k31 := Dj.app (hd25) ql33 hk31
    have df37 := DF.app (df30) (bf_hl.mono hm0.size) hk31
    have dj38 : Dj (H0.size + 1) k31 := Dj.app (dj31) ql35 hk31
    have nx39 : Nx k H0.size k31 := Nx.tr (nx32) hk31 hm0.size
    replace hl := hl.upL hs31 (DFL.cons f1 (DFL.cons df30 DFL.nil))
    replace va := va.upL hs31 (DL.cons dj1.symm (DL.cons dj31 DL.nil))
    replace hm0 := hm0.trL hs31 (MIL.cons (MI.app (MI.root (by simp)) (nx_hm0_hwv) (Nat.le_refl _)) (MIL.cons (MI.app (MI.root (by simp)) (nx32) (Nat.le_refl _)) MIL.nil))
    have hz6 := hs31.size
    have hle_ow := ow.le
    refine LR.nil ?_
    refine hK8 _ _ ?_
    refine CW.seq (fun K9 hK9 hE9 => ?_)
    refine CW.seq (fun K10 hK10 hE10 => ?_)
    refine CW.region ?_
    refine LR.v (Y.fieldAddr va.pt rfl Tryd.runUnderlying26 rfl rfl Tryd.sizeOf24 (by decide) rfl) (Wd.u rfl) rfl rfl ?_
    refine LR.v (Y.load1 va.pt.q66 rfl Tryd.isAgg24 rfl) (Wd.u rfl) rfl rfl ?_
    refine LR.v (Y.len hl rfl Tryd.runUnderlying24 rfl) (Wd.u rfl) rfl rfl ?_
    refine LR.v (Y.move rfl rfl) (Wd.u rfl) rfl rfl ?_
    refine LR.nil ?_
    refine hK10 _ _ ?_
    refine CW.block (fun K11 hK11 hX11 hE11 => ?_)
    refine CW.loop (fun (s_ : (Nat) × (SV) × (Nat) × (List UInt8)) => match s_ with | (i, s1, k1, ys) => [(0, .pointer (some ⟨bw, 0, none⟩)), (3, .pointer (some ⟨H0.size, 0, none⟩)), (33, x.tv.v), (34, .int .i64 x.td.length), (35, .int .i64 i)])
      (fun (s_ : (Nat) × (SV) × (Nat) × (List UInt8)) (H : Heap) => match s_ with | (i, s1, k1, ys) => (i ≤ x.td.length) ∧ (Var 90 H bw [s1.v, .int .i64 0, .int .i64 0]) ∧ (Ow k1 5 H fB 1 s1.v ys) ∧ (ys.length ≤ xs.length + 400 + 33 * i) ∧ (Nx k31 H31.size k1) ∧ (Dj (bw + 1) k1) ∧ Mo (Ms [(bw + 1), k31]) H31 H)
      (fun (s_ : (Nat) × (SV) × (Nat) × (List UInt8)) => match s_ with | (i, s1, k1, ys) => x.td.length - i) (0, s31, k31, y31) ⟨rfl, rfl, rfl, rfl, rfl, trivial⟩ ?_ ?_
    ·
      exact ⟨(by omega), hwv, ow, (by omega), Nx.refl _ _, hd31, Mo.refl _ _⟩
    rintro ⟨i, s1, k1, ys⟩ HL1 hI1 K12 hN12 hE12
    obtain ⟨hi, hwv, ow, hys, nxl_ow, dj_hwv_ow, hlm1⟩ := hI1
    have df40 := DF.app (df37) (bf_hl.mono hm0.size) nxl_ow
    have dj41 : Dj (H0.size + 1) k1 := Dj.app (dj38) va.lt nxl_ow
    have nx42 : Nx k H0.size k1 := Nx.tr (nx39) nxl_ow hm0.size
    replace hl := hl.upL hlm1 (DFL.cons f1 (DFL.cons df37 DFL.nil))
    replace va := va.upL hlm1 (DL.cons dj1.symm (DL.cons dj38 DL.nil))
    replace hm0 := hm0.trL hlm1 (MIL.cons (MI.app (MI.root (by simp)) (nx_hm0_hwv) (Nat.le_refl _)) (MIL.cons (MI.app (MI.root (by simp)) (nx39) (Nat.le_refl _)) MIL.nil))
    have hz7 := hlm1.size
    have hle_ow := ow.le
    have dj43 := dj_hwv_ow
    have nx_hlm1_hwv := Nx.refl (bw + 1) H31.size
    have nx44 := nxl_ow
    refine CW.seq (fun K13 hK13 hE13 => ?_)
    refine CW.region ?_
    refine LR.v (Y.lss rfl rfl rfl) (Wd.u rfl) rfl rfl ?_
    refine LR.nil ?_
    refine hK13 _ _ ?_
    refine CW.seq (fun K14 hK14 hE14 => ?_)
    refine CW.condp rfl (fun c36 => ?_) (fun c36 => ?_)
    ·
      refine CW.skip ?_
      refine hK14 _ _ ?_
      refine CW.seq (fun K15 hK15 hE15 => ?_)
      refine CW.block (fun K16 hK16 hX16 hE16 => ?_)
      refine CW.seq (fun K17 hK17 hE17 => ?_)
      refine CW.region ?_
      have hil : i < x.td.length := by omega
      have hti := hw.ht x.td[i] (List.getElem_mem hil)
      have hdi := he.dd x.td[i] (List.getElem_mem hil)
      refine LR.e (g := fun ad => .pointer (some ad)) (Y.indexAddrF hl (i) rfl Tryd.runUnderlying24 Tryd.sizeOf29 rfl rfl (by first | rfl | omega) (by first | omega | (simp; omega) | (simp; done))) (Wd.u rfl) rfl rfl (fun ad37 pt37 => ?_)
      have bf_pt37 := bf_hl
      refine LR.v (Y.loadN pt37.pt rfl Tryd.isAgg29 Tryd.sizeOf29 (fT_len _) rfl) (Wd.u rfl) rfl rfl ?_
      refine LR.z (Z.allocv rfl Tryd.zeroValue29) (Wd.u rfl) rfl rfl (fun v5 H5 r5 => ?_)
      obtain ⟨rfl, vt, hs5, ob5, hH5⟩ := r5
      have hzs5 : H5.size = HL1.size + 1 := by rw [hH5]; simp
      have dj45 : Dj k1 (HL1.size + 1) := Dj.new ow.le
      have df46 := (DF.new (bf_hl.mono hm0.size) : DF _ (HL1.size + 1))
      have dj47 : Dj (H0.size + 1) (HL1.size + 1) := Dj.new va.lt
      have dj48 : Dj (bw + 1) (HL1.size + 1) := Dj.new hwv.lt
      have df49 := (DF.new (bf_pt37.mono hm0.size) : DF _ (HL1.size + 1))
      have nx50 : Nx 0 H0.size (HL1.size + 1) := Nx.new hm0.size
      have nx51 : Nx 0 H31.size (HL1.size + 1) := Nx.new hlm1.size
      replace ow := ow.nw hs5
      replace hl := hl.nw hs5
      replace va := va.nw hs5
      replace hwv := hwv.nw hs5
      replace pt37 := pt37.nw hs5
      replace hm0 := hm0.trN hs5
      replace hlm1 := hlm1.trN hs5
      have hz8 := hs5.size
      refine LR.s (S.var vt (_) (fT x.td[i]) rfl rfl rfl rfl (fT_one x.td[i]) Tryd.sizeOf29 (fT_len _) (by decide) ((splice_all2 (fT_len _).symm))) (Wd.u rfl) rfl (fun H9_3 r9_3 => ?_)
      obtain ⟨vt, hs9_3⟩ := r9_3
      replace hs9_3 := hs9_3.md1
      replace ow := ow.upL hs9_3 (DL.cons dj45 DL.nil)
      replace hl := hl.upL hs9_3 (DFL.cons df46 DFL.nil)
      replace va := va.upL hs9_3 (DL.cons dj47 DL.nil)
      replace hwv := hwv.upL hs9_3 (DL.cons dj48 DL.nil)
      replace pt37 := pt37.upL hs9_3 (DFL.cons df49 DFL.nil)
      replace hm0 := hm0.trL hs9_3 (MIL.cons (MI.app MI.z (nx50) (Nat.le_refl _)) MIL.nil)
      replace hlm1 := hlm1.trL hs9_3 (MIL.cons (MI.app MI.z (nx51) (Nat.le_refl _)) MIL.nil)
      have hz9 := hs9_3.size
      refine LR.nil ?_
      refine hK17 _ _ ?_
      refine CW.seq (fun K18 hK18 hE18 => ?_)
      refine CW.region ?_
      refine LR.v (Y.move rfl rfl) (Wd.u rfl) rfl rfl ?_
      refine LR.v (Y.fieldAddr vt.pt rfl Tryd.runUnderlying29 rfl rfl Tryd.sizeOf3 (by decide) rfl) (Wd.u rfl) rfl rfl ?_
      refine LR.v (Y.cast (v2 := .int .i64 ((x.td[i].d).toNat : Nat)) (Y.load1 vt.pt rfl Tryd.isAgg3 rfl) (ivv (by omega))) (Wd.u rfl) rfl rfl ?_
      refine LR.v (Y.conv_u64 rfl Tryd.runUnderlying3 Tryd.runUnderlying92 rfl) (Wd.u rfl) rfl rfl ?_
      -- call (*selvage/codec.writer).number
      refine LR.call rfl Tryd.call51 rfl (Wd.u rfl) rfl rfl (wnumL 1 w0 _ hwv ow (dj43) (by decide) (by omega)) (fun v43 H43 r43 => ?_)
      have ql52 := ow.le
      have ql53 := va.lt
      have ql54 := hwv.lt
      have ql55 := vt.lt
      obtain ⟨s43, k43, y43, rfl, hwv, ow, hk43, hd43, hy43, hs43⟩ := r43
      have df56 := DF.app (df40) (bf_hl.mono hm0.size) hk43
      have dj57 : Dj (H0.size + 1) k43 := Dj.app (dj41) ql53 hk43
      have dj58 : Dj (bw + 1) k43 := Dj.app (dj43) ql54 hk43
      have dj59 : Dj (HL1.size + 1) k43 := Dj.app (dj45.symm) ql55 hk43
      have nx60 : Nx k H0.size k43 := Nx.tr (nx42) hk43 hm0.size
      have nx61 : Nx k31 H31.size k43 := Nx.tr (nx44) hk43 hlm1.size
      replace hl := hl.upL hs43 (DFL.cons f1 (DFL.cons df40 DFL.nil))
      replace va := va.upL hs43 (DL.cons dj1.symm (DL.cons dj41 DL.nil))
      replace vt := vt.upL hs43 (DL.cons dj48.symm (DL.cons dj45.symm DL.nil))
      replace hm0 := hm0.trL hs43 (MIL.cons (MI.app (MI.root (by simp)) (nx_hm0_hwv) (Nat.le_refl _)) (MIL.cons (MI.app (MI.root (by simp)) (nx42) (Nat.le_refl _)) MIL.nil))
      replace hlm1 := hlm1.trL hs43 (MIL.cons (MI.app (MI.root (by simp)) (nx_hlm1_hwv) (Nat.le_refl _)) (MIL.cons (MI.app (MI.root (by simp)) (nx44) (Nat.le_refl _)) MIL.nil))
      have hz10 := hs43.size
      have hle_ow := ow.le
      refine LR.nil ?_
      refine hK18 _ _ ?_
      refine CW.region ?_
      refine LR.v (Y.move rfl rfl) (Wd.u rfl) rfl rfl ?_
      refine LR.v (Y.fieldAddr vt.pt rfl Tryd.runUnderlying29 rfl rfl Tryd.sizeOf23 (by decide) rfl) (Wd.u rfl) rfl rfl ?_
      refine LR.v (Y.cast (v2 := idV x.td[i].i) (Y.loadN ((vt.pt.drop 1).take 32) rfl Tryd.isAgg23 Tryd.sizeOf23 (by simp [fT]) rfl) (congrArg (fun z : List Value => Value.agg z.toArray) (show (kc x.td[i].i).take 32 = _ from by rw [List.take_of_length_le (by simp), kc_eq hti]))) (Wd.u rfl) rfl rfl ?_
      -- call (*selvage/codec.writer).id
      refine LR.call rfl Tryd.call54 rfl (Wd.u rfl) rfl rfl (wid_ct _ _ _ _ x.td[i].i w0 _ hwv ow (hd43) (by omega) hti) (fun v47 H47 r47 => ?_)
      have ql62 := ow.le
      have ql63 := va.lt
      have ql64 := hwv.lt
      have ql65 := vt.lt
      obtain ⟨s47, k47, y47, rfl, hwv, ow, hk47, hd47, hy47, hs47⟩ := r47
      have df66 := DF.app (df56) (bf_hl.mono hm0.size) hk47
      have dj67 : Dj (H0.size + 1) k47 := Dj.app (dj57) ql63 hk47
      have dj68 : Dj (bw + 1) k47 := Dj.app (hd43) ql64 hk47
      have dj69 : Dj (HL1.size + 1) k47 := Dj.app (dj59) ql65 hk47
      have nx70 : Nx k H0.size k47 := Nx.tr (nx60) hk47 hm0.size
      have nx71 : Nx k31 H31.size k47 := Nx.tr (nx61) hk47 hlm1.size
      replace hl := hl.upL hs47 (DFL.cons f1 (DFL.cons df56 DFL.nil))
      replace va := va.upL hs47 (DL.cons dj1.symm (DL.cons dj57 DL.nil))
      replace vt := vt.upL hs47 (DL.cons dj48.symm (DL.cons dj59 DL.nil))
      replace hm0 := hm0.trL hs47 (MIL.cons (MI.app (MI.root (by simp)) (nx_hm0_hwv) (Nat.le_refl _)) (MIL.cons (MI.app (MI.root (by simp)) (nx60) (Nat.le_refl _)) MIL.nil))
      replace hlm1 := hlm1.trL hs47 (MIL.cons (MI.app (MI.root (by simp)) (nx_hlm1_hwv) (Nat.le_refl _)) (MIL.cons (MI.app (MI.root (by simp)) (nx61) (Nat.le_refl _)) MIL.nil))
      have hz11 := hs47.size
      have hle_ow := ow.le
      refine LR.nil ?_
      refine hK16 _ _ ?_
      refine hK15 _ _ ?_
      refine CW.region ?_
      refine LR.v (Y.addi rfl rfl rfl (by omega)) (Wd.u rfl) rfl rfl ?_
      refine LR.v (Y.move rfl rfl) (Wd.u rfl) rfl rfl ?_
      refine LR.nil ?_
      refine QN.sub (hN12 (i + 1, s47, k47, y47) _ ?_ ?_) ⟨rfl, rfl, rfl, (iv (by omega)), (iv (by omega)), trivial⟩
      · exact ⟨(by omega), hwv, ow, (by omega), nx71, hd47, hlm1⟩
      · first | omega | (simp only; omega) | (simp; omega)
    ·
      refine CW.exit (hE14 (.exit 0) nofun _ _ (hE12 (.exit 0) nofun _ _ (hX11 _ _ ?_)))
      refine hK9 _ _ ?_
      refine CW.seq (fun K19 hK19 hE19 => ?_)
      refine CW.region ?_
      refine LR.v (Y.move rfl rfl) (Wd.u rfl) rfl rfl ?_
      refine LR.v (Y.fieldAddr va.pt rfl Tryd.runUnderlying26 rfl rfl Tryd.sizeOf3 (by decide) rfl) (Wd.u rfl) rfl rfl ?_
      refine LR.v (Y.cast (v2 := .int .i64 ((x.dn).toNat : Nat)) (Y.load1 va.pt.q67 rfl Tryd.isAgg3 rfl) (ivv (by omega))) (Wd.u rfl) rfl rfl ?_
      refine LR.v (Y.conv_u64 rfl Tryd.runUnderlying3 Tryd.runUnderlying92 rfl) (Wd.u rfl) rfl rfl ?_
      -- call (*selvage/codec.writer).number
      refine LR.call rfl Tryd.call51 rfl (Wd.u rfl) rfl rfl (wnumL 2 w0 _ hwv ow (dj43) (by decide) (by omega)) (fun v53 H53 r53 => ?_)
      have ql72 := ow.le
      have ql73 := va.lt
      have ql74 := hwv.lt
      obtain ⟨s53, k53, y53, rfl, hwv, ow, hk53, hd53, hy53, hs53⟩ := r53
      have df75 := DF.app (df40) (bf_hl.mono hm0.size) hk53
      have dj76 : Dj (H0.size + 1) k53 := Dj.app (dj41) ql73 hk53
      have dj77 : Dj (bw + 1) k53 := Dj.app (dj43) ql74 hk53
      have nx78 : Nx k H0.size k53 := Nx.tr (nx42) hk53 hm0.size
      replace hl := hl.upL hs53 (DFL.cons f1 (DFL.cons df40 DFL.nil))
      replace va := va.upL hs53 (DL.cons dj1.symm (DL.cons dj41 DL.nil))
      replace hm0 := hm0.trL hs53 (MIL.cons (MI.app (MI.root (by simp)) (nx_hm0_hwv) (Nat.le_refl _)) (MIL.cons (MI.app (MI.root (by simp)) (nx42) (Nat.le_refl _)) MIL.nil))
      have hz12 := hs53.size
      have hle_ow := ow.le
      refine LR.nil ?_
      refine hK19 _ _ ?_
      refine CW.seq (fun K20 hK20 hE20 => ?_)
      refine CW.region ?_
      refine LR.v (Y.move rfl rfl) (Wd.u rfl) rfl rfl ?_
      refine LR.v (Y.fieldAddr va.pt rfl Tryd.runUnderlying26 rfl rfl Tryd.sizeOf3 (by decide) rfl) (Wd.u rfl) rfl rfl ?_
      refine LR.v (Y.cast (v2 := .int .i64 ((x.md).toNat : Nat)) (Y.load1 (va.pt.q67.drop 1) rfl Tryd.isAgg3 rfl) (ivv (by omega))) (Wd.u rfl) rfl rfl ?_
      refine LR.v (Y.conv_u64 rfl Tryd.runUnderlying3 Tryd.runUnderlying92 rfl) (Wd.u rfl) rfl rfl ?_
      -- call (*selvage/codec.writer).number
      refine LR.call rfl Tryd.call51 rfl (Wd.u rfl) rfl rfl (wnumL 2 w0 _ hwv ow (hd53) (by decide) (by omega)) (fun v58 H58 r58 => ?_)
      have ql79 := ow.le
      have ql80 := va.lt
      have ql81 := hwv.lt
      obtain ⟨s58, k58, y58, rfl, hwv, ow, hk58, hd58, hy58, hs58⟩ := r58
      have df82 := DF.app (df75) (bf_hl.mono hm0.size) hk58
      have dj83 : Dj (H0.size + 1) k58 := Dj.app (dj76) ql80 hk58
      have dj84 : Dj (bw + 1) k58 := Dj.app (hd53) ql81 hk58
      have nx85 : Nx k H0.size k58 := Nx.tr (nx78) hk58 hm0.size
      replace hl := hl.upL hs58 (DFL.cons f1 (DFL.cons df75 DFL.nil))
      replace va := va.upL hs58 (DL.cons dj1.symm (DL.cons dj76 DL.nil))
      replace hm0 := hm0.trL hs58 (MIL.cons (MI.app (MI.root (by simp)) (nx_hm0_hwv) (Nat.le_refl _)) (MIL.cons (MI.app (MI.root (by simp)) (nx78) (Nat.le_refl _)) MIL.nil))
      have hz13 := hs58.size
      have hle_ow := ow.le
      refine LR.nil ?_
      refine hK20 _ _ ?_
      refine CW.region ?_
      refine LR.v (Y.move rfl rfl) (Wd.u rfl) rfl rfl ?_
      refine LR.v (Y.fieldAddr va.pt rfl Tryd.runUnderlying26 rfl rfl Tryd.sizeOf4 (by decide) rfl) (Wd.u rfl) rfl rfl ?_
      refine LR.v (Y.load1 (va.pt.q67.drop 2) rfl Tryd.isAgg4 rfl) (Wd.u rfl) rfl rfl ?_
      -- call selvage/codec.truth
      refine LR.call rfl Tryd.call52 rfl (Wd.u rfl) rfl rfl (truth_ct x.st 1 w0 _) (fun v62 H62 r62 => ?_)
      obtain ⟨rfl, hs62⟩ := r62
      replace ow := ow.nw hs62
      replace hl := hl.nw hs62
      replace va := va.nw hs62
      replace hwv := hwv.nw hs62
      replace hm0 := hm0.trN hs62
      have hz14 := hs62.size
      -- call (*selvage/codec.writer).number
      refine LR.call rfl Tryd.call51 rfl (Wd.u rfl) rfl rfl (wnumL 1 w0 _ hwv ow (hd58) (by decide) (by omega)) (fun v63 H63 r63 => ?_)
      have ql86 := ow.le
      have ql87 := va.lt
      have ql88 := hwv.lt
      obtain ⟨s63, k63, y63, rfl, hwv, ow, hk63, hd63, hy63, hs63⟩ := r63
      have df89 := DF.app (df82) (bf_hl.mono hm0.size) hk63
      have dj90 : Dj (H0.size + 1) k63 := Dj.app (dj83) ql87 hk63
      have dj91 : Dj (bw + 1) k63 := Dj.app (hd58) ql88 hk63
      have nx92 : Nx k H0.size k63 := Nx.tr (nx85) hk63 hm0.size
      replace hl := hl.upL hs63 (DFL.cons f1 (DFL.cons df82 DFL.nil))
      replace va := va.upL hs63 (DL.cons dj1.symm (DL.cons dj83 DL.nil))
      replace hm0 := hm0.trL hs63 (MIL.cons (MI.app (MI.root (by simp)) (nx_hm0_hwv) (Nat.le_refl _)) (MIL.cons (MI.app (MI.root (by simp)) (nx85) (Nat.le_refl _)) MIL.nil))
      have hz15 := hs63.size
      have hle_ow := ow.le
      refine LR.nil ?_
      refine hret .normal (.inl rfl) _ _ _ (res0 rfl) ?_
      exact ⟨s63, k63, y63, rfl, hwv, ow, nx92, (hd63), by omega, hm0⟩

theorem asked_ct (x : Sq) (w0 : World) (H0 : Heap)
    (hk0 : x.k ≠ 0) :
    Ct Tryd.prog w0 68 #[.agg (fX x).toArray] H0 (fun r H2 => r = .tuple #[qv x, .bool true] ∧ Nw H0 H2) := by
  refine Ct.enter (args := [.agg (fX x).toArray]) Tryd.func68 rfl rfl rfl ?_
  intro Q0 hret
  have hm0 : Nw H0 H0 := Mo.refl _ _
  refine CW.seq (fun K1 hK1 hE1 => ?_)
  refine CW.region ?_
  refine LR.z (Z.boxv rfl rfl) (Wd.u rfl) rfl rfl (fun v1 H1 r1 => ?_)
  obtain ⟨rfl, va, hs1, ob1, hH1⟩ := r1
  have hzs1 : H1.size = H0.size + 1 := by rw [hH1]; simp
  have nx1 : Nx 0 H0.size (H0.size + 1) := Nx.new hm0.size
  replace hm0 := hm0.tr hs1
  have hz1 := hs1.size
  replace va : Var 49 H1 H0.size (fX x) := va
  refine LR.z (Z.allocv rfl Tryd.zeroValue26) (Wd.u rfl) rfl rfl (fun v2 H2 r2 => ?_)
  obtain ⟨rfl, vq, hs2, ob2, hH2⟩ := r2
  have hzs2 : H2.size = H1.size + 1 := by rw [hH2]; simp
  have dj2 : Dj (H0.size + 1) (H1.size + 1) := Dj.new va.lt
  have nx3 : Nx 0 H0.size (H1.size + 1) := Nx.new hm0.size
  replace va := va.nw hs2
  replace hm0 := hm0.tr hs2
  have hz2 := hs2.size
  refine LR.v (Y.assign rfl rfl) (Wd.u rfl) rfl rfl ?_
  refine LR.nil ?_
  refine hK1 _ _ ?_
  refine CW.seq (fun K2 hK2 hE2 => ?_)
  refine CW.region_any (fun Hq => Mo (Ms [(H1.size + 1)]) H2 Hq) [] rfl ?_
  have hq1 : Mo (Ms [(H1.size + 1)]) H2 H2 := Mo.refl _ _
  have nx4 := Nx.refl (H1.size + 1) H2.size
  refine LH.take 0 (by kernel_rfl) rfl (by kernel_rfl) (by kernel_rfl) (by kernel_rfl) (fun Hq hq => Y.fieldAddr (va.upL hq (DL.cons dj2 DL.nil)).pt rfl Tryd.runUnderlying49 rfl rfl Tryd.sizeOf26 (by decide) rfl) (Wd.u rfl) rfl rfl hq1 ?_
  refine LH.take 1 (by kernel_rfl) rfl (by kernel_rfl) (by kernel_rfl) (by kernel_rfl) (fun Hq hq => Y.cast (v2 := qv x) (Y.loadN (((va.upL hq (DL.cons dj2 DL.nil)).pt.drop 4).take 70) rfl Tryd.isAgg26 Tryd.sizeOf26 (by simp [fX_len]) rfl) (congrArg (fun z : List Value => Value.agg z.toArray) (fX_q x))) (Wd.u rfl) rfl rfl hq1 ?_
  refine LH.take 2 (by kernel_rfl) rfl (by kernel_rfl) (by kernel_rfl) (by kernel_rfl) (fun Hq hq => Y.fieldAddr (va.upL hq (DL.cons dj2 DL.nil)).pt rfl Tryd.runUnderlying49 rfl rfl Tryd.sizeOf4 (by decide) rfl) (Wd.u rfl) rfl rfl hq1 ?_
  refine LH.take 3 (by kernel_rfl) rfl (by kernel_rfl) (by kernel_rfl) (by kernel_rfl) (fun Hq hq => Y.load1 ((va.upL hq (DL.cons dj2 DL.nil)).pt.drop 3) rfl Tryd.isAgg4 rfl) (Wd.u rfl) rfl rfl hq1 ?_
  refine LH.take 4 (by kernel_rfl) rfl (by kernel_rfl) (by kernel_rfl) (by kernel_rfl) (fun Hq hq => Y.move rfl rfl) (Wd.u rfl) rfl rfl hq1 ?_
  refine LH.take 5 (by kernel_rfl) rfl (by kernel_rfl) (by kernel_rfl) (by kernel_rfl) (fun Hq hq => Y.fieldAddr (va.upL hq (DL.cons dj2 DL.nil)).pt rfl Tryd.runUnderlying49 rfl rfl Tryd.sizeOf26 (by decide) rfl) (Wd.g rfl rfl rfl) rfl rfl hq1 ?_
  refine LH.take 6 (by kernel_rfl) rfl (by kernel_rfl) (by kernel_rfl) (by kernel_rfl) (fun Hq hq => Y.fieldAddr ((va.upL hq (DL.cons dj2 DL.nil)).pt.drop 4) rfl Tryd.runUnderlying26 rfl rfl Tryd.sizeOf3 (by decide) rfl) (Wd.g rfl rfl rfl) rfl rfl hq1 ?_
  refine LH.take 7 (by kernel_rfl) rfl (by kernel_rfl) (by kernel_rfl) (by kernel_rfl) (fun Hq hq => Y.load1 (va.upL hq (DL.cons dj2 DL.nil)).pt.x4k rfl Tryd.isAgg3 rfl) (Wd.g rfl rfl rfl) rfl rfl hq1 ?_
  refine LH.take 8 (by kernel_rfl) rfl (by kernel_rfl) (by kernel_rfl) (by kernel_rfl) (fun Hq hq => (Y.neq rfl rfl rfl).isT (hk0)) (Wd.g rfl rfl rfl) rfl rfl hq1 ?_
  refine LH.take 9 (by kernel_rfl) rfl (by kernel_rfl) (by kernel_rfl) (by kernel_rfl) (fun Hq hq => Y.pick_t rfl rfl rfl) (Wd.u rfl) rfl rfl hq1 ?_
  refine LH.one (i := 10) (by kernel_rfl) ?_
  refine LO.s rfl (S.var vq (_) (fQ x) rfl rfl rfl rfl (fQ_one x) Tryd.sizeOf26 (fQ_len _) (by decide) ((splice_all2 (fQ_len _).symm))) (Wd.u rfl) rfl (fun H1_10 r1_10 => ?_)
  obtain ⟨vq, hs1_10⟩ := r1_10
  replace hs1_10 := hs1_10.md1
  replace va := va.upL hs1_10 (DL.cons dj2 DL.nil)
  replace hm0 := (Mo.trL (ks := []) (hm0.mdn []) hs1_10 (MIL.cons (MI.app MI.z (nx3) (Nat.le_refl _)) MIL.nil)).nil
  replace hq1 := hq1.trL hs1_10 (MIL.cons (MI.app (MI.root (by simp)) (nx4) (Nat.le_refl _)) MIL.nil)
  have hz3 := hs1_10.size
  refine ⟨.inr hq1, LH.narrow (SH2 := fun Hq => Mo (Ms [(H1.size + 1)]) H1_10 Hq) (fun Hq hq => hq1.trL hq (MIL.cons (MI.app (MI.root (by simp)) (nx4) (Nat.le_refl _)) MIL.nil)) ?_⟩
  have hq1 : Mo (Ms [(H1.size + 1)]) H1_10 H1_10 := Mo.refl _ _
  have nx5 := Nx.refl (H1.size + 1) H1_10.size
  refine LH.take 11 (by kernel_rfl) rfl (by kernel_rfl) (by kernel_rfl) (by kernel_rfl) (fun Hq hq => Y.assign rfl rfl) (Wd.u rfl) rfl rfl hq1 ?_
  refine LH.done (by kernel_rfl) ?_
  refine hK2 _ _ ?_
  refine CW.ret (hret .ret (.inr rfl) _ _ _ (resCT rfl rfl vq.pt Tryd.isAgg26 Tryd.sizeOf26 (fQ_len _) rfl) ?_)
  exact ⟨rfl, hm0⟩

end Go.Proofs.YtabopjdbgkhacaaDoor.SeqE
