/-
  Rows of bytes put together; a write, done whole or in part.
-/
import Derived.Test.YtfbfjhppppoilaaDoorSimA
import Derived.Test.YtfbfjhppppoilaaDoorApz
namespace Go.Proofs.YtfbfjhppppoilaaDoor.SimB
open Go.Proofs.YtfbfjhppppoilaaDoor.E Go.RowKit Go.Proofs.YtfbfjhppppoilaaDoor.SimA
set_option maxRecDepth 20000
set_option linter.unusedVariables false
set_option linter.unusedSimpArgs false
set_option linter.unusedSectionVars false
set_option maxRecDepth 100000 in
theorem inf25 : Inf Tryd.prog 25 5 1 1 := ⟨Tryd.underlying25, _, _, rfl, rfl, rfl, rfl, rfl⟩
set_option maxRecDepth 100000 in
theorem inf129 : Inf Tryd.prog 129 25 1 24 := ⟨Tryd.underlying129, _, _, rfl, rfl, rfl, rfl, rfl⟩
theorem bclone_ct (v1 : Value) (a : List UInt8) (w0 : World) (H0 : Heap)
    (ha : RdT H0 fB 1 v1 a) (hal : a.length ≤ 140737488355328) :
    Ct Tryd.prog w0 37 #[v1] H0 (fun r H2 => ∃ s : SV, ∃ k : Nat, r = s.v ∧ (Ow k 5 H2 fB 1 s.v a) ∧ (Nx 0 H0.size k) ∧ Nw H0 H2) := by
  refine Ct.enter (args := [v1]) Tryd.func37 rfl rfl rfl ?_
  intro Q0 hret
  have hm0 : Nw H0 H0 := Mo.refl _ _
  replace ha := ha.bnd
  have bf_ha := ha.bf
  obtain ⟨p, cp, rfl, _, _, hne⟩ := id ha.ex
  refine CW.seq (fun K1 hK1 hE1 => ?_)
  refine CW.region ?_
  refine LR.v (Y.assign rfl rfl) (Wd.u rfl) rfl rfl ?_
  refine LR.nil ?_
  refine hK1 _ _ ?_
  refine CW.seq (fun K2 hK2 hE2 => ?_)
  refine CW.seq (fun K3 hK3 hE3 => ?_)
  refine CW.region ?_
  refine LR.v (Y.move rfl rfl) (Wd.u rfl) rfl rfl ?_
  refine LR.v (Y.sleq rfl Tryd.underlying25 rfl rfl) (Wd.u rfl) rfl rfl ?_
  refine LR.nil ?_
  refine hK3 _ _ ?_
  refine CW.cond rfl (fun c4 => ?_) (fun c4 => ?_)
  ·
    obtain rfl : a = [] := by
      apply Decidable.byContradiction
      intro h
      obtain ⟨ad, h1, _⟩ := hne h
      rw [h1] at c4; cases c4
    refine CW.seq (fun K4 hK4 hE4 => ?_)
    refine CW.region ?_
    refine LR.v (Y.assign rfl rfl) (Wd.u rfl) rfl rfl ?_
    refine LR.nil ?_
    refine hK4 _ _ ?_
    refine CW.ret (hE2 .ret nofun _ _ (hret .ret (.inr rfl) _ _ _ (res1 rfl rfl) ?_))
    exact ⟨⟨none, 0, 0⟩, 0, rfl, Ow.nil fB_len fB_one, Nx.refl _ _, hm0⟩
  ·
    
    refine CW.skip ?_
    refine hK2 _ _ ?_
    refine CW.seq (fun K5 hK5 hE5 => ?_)
    refine CW.region ?_
    refine LR.z (Z.litw _ (([] : List UInt8)) rfl inf25 rfl rfl rfl (by decide) (by decide) fB_len fB_one (rfl)) (Wd.u rfl) rfl rfl (fun v5 H5 r5 => ?_)
    obtain ⟨ow5, hs5, ob5, hH5⟩ := r5
    have hzs5 : H5.size = H0.size + 1 := by rw [hH5]; simp
    have df1 := (DF.new (bf_ha.mono hm0.size) : DF _ (H0.size + 1))
    have nx2 : Nx 0 H0.size (H0.size + 1) := Nx.new hm0.size
    replace ha := ha.nw hs5
    replace hm0 := hm0.tr hs5
    have hz1 := hs5.size
    refine LR.v (Y.move rfl rfl) (Wd.u rfl) rfl rfl ?_
    refine LR.z (Z.apnd ow5 ha rfl inf25 rfl rfl (by first | omega | (simp; omega)) (by first | omega | (simp; omega))) (Wd.u rfl) rfl rfl (fun v7 H7 r7 => ?_)
    obtain ⟨k7, ow7, hk7, hs7⟩ := r7
    replace hk7 : Nx (H0.size + 1) H5.size k7 := hk7
    replace hs7 := hs7.md
    have df3 := DF.app (df1) (bf_ha.mono hm0.size) hk7
    have nx4 : Nx 0 H0.size k7 := Nx.tr (nx2) hk7 hm0.size
    replace ha := ha.upL hs7 (DFL.cons df1 DFL.nil)
    replace hm0 := (Mo.trL (ks := []) (hm0.mdn []) hs7 (MIL.cons (MI.app MI.z (nx2) (Nat.le_refl _)) MIL.nil)).nil
    have hz2 := hs7.size
    have hle_ow7 := ow7.le
    refine LR.v (Y.assign rfl rfl) (Wd.u rfl) rfl rfl ?_
    refine LR.nil ?_
    refine hK5 _ _ ?_
    refine CW.ret (hret .ret (.inr rfl) _ _ _ (res1 rfl rfl) ?_)
    obtain ⟨s7, rfl⟩ : ∃ s : SV, v7 = s.v := ⟨toSV v7, ow7.sv.symm⟩
    exact ⟨s7, k7, rfl, by simpa using ow7, nx4, hm0⟩


def catP (l : List (SV × List UInt8)) : List UInt8 := l.flatMap (·.2)
theorem catP_take {l : List (SV × List UInt8)} {i : Nat} (h : i < l.length) : catP (l.take (i + 1)) = catP (l.take i) ++ l[i].2 := by
  unfold catP; rw [List.take_succ_eq_append_getElem h, List.flatMap_append]; simp
theorem catP_le (l : List (SV × List UInt8)) (i : Nat) : (catP (l.take i)).length ≤ (catP l).length := by
  have : catP l = catP (l.take i) ++ catP (l.drop i) := by unfold catP; rw [← List.flatMap_append, List.take_append_drop]
  rw [this, List.length_append]; omega
theorem catP_at {l : List (SV × List UInt8)} {i : Nat} (h : i < l.length) : (catP (l.take i)).length + l[i].2.length ≤ (catP l).length := by
  have := catP_le l (i + 1)
  rw [catP_take h, List.length_append] at this; exact this

theorem grow_ct (m : Nat) (w0 : World) (H0 : Heap)
    (hm : m ≤ 1099511627776) :
    Ct Tryd.prog w0 87 #[.slice none 0 0, .int .i64 (m : Int)] H0 (fun r H2 => ∃ s : SV, ∃ k : Nat, r = s.v ∧ (Ow k 5 H2 fB 1 s.v []) ∧ (Nx 0 H0.size k) ∧ Nw H0 H2) := by
  refine Ct.enter (args := [.slice none 0 0, .int .i64 (m : Int)]) Tryd.func87 rfl rfl rfl ?_
  intro Q0 hret
  have hm0 : Nw H0 H0 := Mo.refl _ _
  refine CW.seq (fun K1 hK1 hE1 => ?_)
  refine CW.region ?_
  refine LR.v (Y.assign rfl rfl) (Wd.u rfl) rfl rfl ?_
  refine LR.nil ?_
  refine hK1 _ _ ?_
  refine CW.seq (fun K2 hK2 hE2 => ?_)
  refine CW.seq (fun K3 hK3 hE3 => ?_)
  refine CW.region ?_
  refine LR.v (Y.move rfl rfl) (Wd.u rfl) rfl rfl ?_
  refine LR.v ((Y.lss rfl rfl rfl).isF (by omega)) (Wd.u rfl) rfl rfl ?_
  refine LR.nil ?_
  refine hK3 _ _ ?_
  refine CW.cond_f rfl ?_
  refine CW.skip ?_
  refine hK2 _ _ ?_
  refine CW.seq (fun K4 hK4 hE4 => ?_)
  refine CW.seq (fun K5 hK5 hE5 => ?_)
  refine CW.region ?_
  refine LR.v (Y.move rfl rfl) (Wd.u rfl) rfl rfl ?_
  refine LR.v (Y.move rfl rfl) (Wd.u rfl) rfl rfl ?_
  refine LR.v (Y.capV' rfl Tryd.runUnderlying25 rfl) (Wd.u rfl) rfl rfl ?_
  refine LR.v (Y.move rfl rfl) (Wd.u rfl) rfl rfl ?_
  refine LR.v (Y.cast (v2 := .int .i64 ((0 : Nat) : Int)) (Y.len (Rd.nil (fun _ => False) _ fB 1) rfl Tryd.runUnderlying25 rfl) (rfl)) (Wd.u rfl) rfl rfl ?_
  refine LR.v (Y.cast (v2 := .int .i64 ((0 : Nat) : Int)) (Y.subi rfl rfl rfl (by omega)) (rfl)) (Wd.u rfl) rfl rfl ?_
  refine LR.v (Y.cast (v2 := .int .i64 (m : Int)) (Y.subi rfl rfl rfl (by omega)) (ivv (by simp))) (Wd.u rfl) rfl rfl ?_
  refine LR.v (Y.assign rfl rfl) (Wd.u rfl) rfl rfl ?_
  refine LR.nil ?_
  refine hK5 _ _ ?_
  refine CW.seq (fun K6 hK6 hE6 => ?_)
  refine CW.region ?_
  refine LR.v (Y.move rfl rfl) (Wd.u rfl) rfl rfl ?_
  refine LR.v (Y.gtr rfl rfl rfl) (Wd.u rfl) rfl rfl ?_
  refine LR.nil ?_
  refine hK6 _ _ ?_
  refine CW.condp rfl (fun c16 => ?_) (fun c16 => ?_)
  ·
    refine CW.region ?_
    refine LR.v (Y.move rfl rfl) (Wd.u rfl) rfl rfl ?_
    refine LR.v (Y.move rfl rfl) (Wd.u rfl) rfl rfl ?_
    refine LR.v (Y.capV' rfl Tryd.runUnderlying25 rfl) (Wd.u rfl) rfl rfl ?_
    refine LR.v (Y.sliceV' 0 0 rfl Tryd.runUnderlying25 Tryd.sizeOf5 rfl (.inl ⟨rfl, rfl⟩) (.inr ⟨_, _, _, rfl, rfl, rfl⟩) (by omega) (by omega)) (Wd.u rfl) rfl rfl ?_
    refine LR.v (Y.move rfl rfl) (Wd.u rfl) rfl rfl ?_
    have nl22 : Ow 0 5 H0 fB 1 (.slice none 0 0) [] := Ow.nil fB_len fB_one
    refine LR.z (Z.apz (m := m) nl22 (0 : UInt8) rfl inf25 Tryd.underlying3 Tryd.zeroValue5 rfl (by decide) rfl rfl (by simp; omega) (by simp; omega)) (Wd.u rfl) rfl rfl (fun v22 H22 r22 => ?_)
    obtain ⟨k22, ow22, hk22, hs22⟩ := r22
    replace hk22 : Nx 0 H0.size k22 := hk22
    replace hs22 := hs22.md
    have nx1 : Nx 0 H0.size k22 := Nx.tr (Nx.refl 0 _) hk22 hm0.size
    replace hm0 := (Mo.trL (ks := []) (hm0.mdn []) hs22 (MIL.cons MI.z MIL.nil)).nil
    have hz1 := hs22.size
    have hle_ow22 := ow22.le
    refine LR.v (Y.move rfl rfl) (Wd.u rfl) rfl rfl ?_
    refine LR.v (Y.cast (v2 := .int .i64 ((0 : Nat) : Int)) (Y.len (Rd.nil (fun _ => False) _ fB 1) rfl Tryd.runUnderlying25 rfl) (rfl)) (Wd.u rfl) rfl rfl ?_
    refine LR.e (g := fun v => v) (Y.owFront ow22 (0) rfl Tryd.runUnderlying25 Tryd.sizeOf5 rfl rfl (by first | rfl | omega) (by omega)) (Wd.u rfl) rfl rfl (fun v25 ow25 => ?_)
    refine LR.v (Y.assign rfl rfl) (Wd.u rfl) rfl rfl ?_
    refine LR.nil ?_
    refine hK4 _ _ ?_
    refine CW.seq (fun K7 hK7 hE7 => ?_)
    refine CW.region ?_
    refine LR.v (Y.move rfl rfl) (Wd.u rfl) rfl rfl ?_
    refine LR.v (Y.assign rfl rfl) (Wd.u rfl) rfl rfl ?_
    refine LR.nil ?_
    refine hK7 _ _ ?_
    refine CW.ret (hret .ret (.inr rfl) _ _ _ (res1 rfl rfl) ?_)
    obtain ⟨s25, rfl⟩ : ∃ s : SV, v25 = s.v := ⟨toSV v25, ow25.sv.symm⟩
    exact ⟨s25, k22, rfl, by simpa using ow25, nx1, hm0⟩
  ·
    refine CW.skip ?_
    refine hK4 _ _ ?_
    refine CW.seq (fun K8 hK8 hE8 => ?_)
    refine CW.region ?_
    refine LR.v (Y.move rfl rfl) (Wd.u rfl) rfl rfl ?_
    refine LR.v (Y.assign rfl rfl) (Wd.u rfl) rfl rfl ?_
    refine LR.nil ?_
    refine hK8 _ _ ?_
    refine CW.ret (hret .ret (.inr rfl) _ _ _ (res1 rfl rfl) ?_)
    exact ⟨⟨none, 0, 0⟩, 0, rfl, Ow.nil fB_len fB_one, Nx.refl _ _, hm0⟩

theorem concat_ct (v : Value) (l : List (SV × List UInt8)) (w0 : World) (H0 : Heap)
    (hl : RdT H0 fP 1 v l) (hx : ∀ x ∈ l, RdT H0 fB 1 x.1.v x.2) (hc : (catP l).length ≤ 1099511627776) :
    Ct Tryd.prog w0 76 #[v] H0 (fun r H2 => ∃ s : SV, ∃ k : Nat, r = s.v ∧ (Ow k 5 H2 fB 1 s.v (catP l)) ∧ (Nx 0 H0.size k) ∧ Nw H0 H2) := by
  refine Ct.enter (args := [v]) Tryd.func76 rfl rfl rfl ?_
  intro Q0 hret
  have hm0 : Nw H0 H0 := Mo.refl _ _
  replace hl := hl.bnd
  have bf_hl := hl.bf
  replace hx := fun x hx0 => (hx x hx0).bnd
  have bf_hx : BF (fun b => True ∧ b < H0.size) H0.size := fun b h => h.2
  have hlm := hl.len
  refine CW.seq (fun K1 hK1 hE1 => ?_)
  refine CW.region ?_
  refine LR.v (Y.assign rfl rfl) (Wd.u rfl) rfl rfl ?_
  refine LR.nil ?_
  refine hK1 _ _ ?_
  refine CW.seq (fun K2 hK2 hE2 => ?_)
  refine CW.region ?_
  refine LR.v (Y.assign rfl rfl) (Wd.u rfl) rfl rfl ?_
  refine LR.nil ?_
  refine hK2 _ _ ?_
  refine CW.seq (fun K3 hK3 hE3 => ?_)
  refine CW.seq (fun K4 hK4 hE4 => ?_)
  refine CW.region ?_
  refine LR.v (Y.move rfl rfl) (Wd.u rfl) rfl rfl ?_
  refine LR.v (Y.len hl rfl Tryd.runUnderlying129 rfl) (Wd.u rfl) rfl rfl ?_
  refine LR.v (Y.move rfl rfl) (Wd.u rfl) rfl rfl ?_
  refine LR.nil ?_
  refine hK4 _ _ ?_
  refine CW.block (fun K5 hK5 hX5 hE5 => ?_)
  refine CW.loop (fun (i : (Nat)) => [(0, v), (3, .int .i64 ((catP (l.take i)).length : Int)), (9, v), (10, .int .i64 l.length), (11, .int .i64 i)])
    (fun (i : (Nat)) (H : Heap) => (i ≤ l.length) ∧ Nw H0 H)
    (fun (i : (Nat)) => l.length - i) 0 ⟨rfl, rfl, rfl, rfl, rfl, trivial⟩ ?_ ?_
  ·
    exact ⟨(by omega), Mo.refl _ _⟩
  intro i HL1 hI1 K6 hN6 hE6
  obtain ⟨hi, hlm1⟩ := hI1
  replace hl := hl.nw hlm1
  replace hx := fun x hx0 => (hx x hx0).nw hlm1
  replace hm0 := hm0.tr hlm1
  have hz1 := hlm1.size
  refine CW.seq (fun K7 hK7 hE7 => ?_)
  refine CW.region ?_
  refine LR.v (Y.lss rfl rfl rfl) (Wd.u rfl) rfl rfl ?_
  refine LR.nil ?_
  refine hK7 _ _ ?_
  refine CW.seq (fun K8 hK8 hE8 => ?_)
  refine CW.condp rfl (fun c12 => ?_) (fun c12 => ?_)
  ·
    have hil : i < l.length := by omega
    have hca := catP_at hil
    have hxi := hx l[i] (List.getElem_mem hil)
    refine CW.skip ?_
    refine hK8 _ _ ?_
    refine CW.seq (fun K9 hK9 hE9 => ?_)
    refine CW.block (fun K10 hK10 hX10 hE10 => ?_)
    refine CW.seq (fun K11 hK11 hE11 => ?_)
    refine CW.region ?_
    refine LR.e (g := fun ad => .pointer (some ad)) (Y.indexAddrF hl (i) rfl Tryd.runUnderlying129 Tryd.sizeOf25 rfl rfl (by first | rfl | omega) (by first | omega | (simp; omega) | (simp; done))) (Wd.u rfl) rfl rfl (fun ad13 pt13 => ?_)
    have bf_pt13 := bf_hl
    refine LR.v (Y.load1 pt13.pt rfl Tryd.isAgg25 rfl) (Wd.u rfl) rfl rfl ?_
    refine LR.v (Y.assign rfl rfl) (Wd.u rfl) rfl rfl ?_
    refine LR.nil ?_
    refine hK11 _ _ ?_
    refine CW.seq (fun K12 hK12 hE12 => ?_)
    refine CW.region ?_
    refine LR.v (Y.move rfl rfl) (Wd.u rfl) rfl rfl ?_
    refine LR.v (Y.move rfl rfl) (Wd.u rfl) rfl rfl ?_
    refine LR.v (Y.len hxi rfl Tryd.runUnderlying25 rfl) (Wd.u rfl) rfl rfl ?_
    refine LR.v (Y.cast (v2 := .int .i64 ((catP (l.take (i + 1))).length : Int)) (Y.addi rfl rfl rfl (by omega)) (ivv (by rw [catP_take hil, List.length_append]; omega))) (Wd.u rfl) rfl rfl ?_
    refine LR.v (Y.assign rfl rfl) (Wd.u rfl) rfl rfl ?_
    refine LR.nil ?_
    refine hK12 _ _ ?_
    refine CW.seq (fun K13 hK13 hE13 => ?_)
    refine CW.region ?_
    refine LR.v (Y.move rfl rfl) (Wd.u rfl) rfl rfl ?_
    refine LR.v ((Y.lss rfl rfl rfl).isF (by omega)) (Wd.u rfl) rfl rfl ?_
    refine LR.nil ?_
    refine hK13 _ _ ?_
    refine CW.cond_f rfl ?_
    refine CW.skip ?_
    refine hK10 _ _ ?_
    refine hK9 _ _ ?_
    refine CW.region ?_
    refine LR.v (Y.addi rfl rfl rfl (by omega)) (Wd.u rfl) rfl rfl ?_
    refine LR.v (Y.move rfl rfl) (Wd.u rfl) rfl rfl ?_
    refine LR.nil ?_
    have hci := catP_take hil
    refine QN.sub (hN6 (i + 1) _ ?_ ?_) ⟨rfl, (iv (by omega)), rfl, (iv (by omega)), (iv (by omega)), trivial⟩
    · exact ⟨(by omega), hlm1⟩
    · first | omega | (simp only; omega) | (simp; omega)
  ·
    obtain rfl : i = l.length := by omega
    refine CW.exit (hE8 (.exit 0) nofun _ _ (hE6 (.exit 0) nofun _ _ (hX5 _ _ ?_)))
    refine hK3 _ _ ?_
    refine CW.seq (fun K14 hK14 hE14 => ?_)
    refine CW.region ?_
    refine LR.v (Y.cast (v2 := .int .i64 ((catP l).length : Int)) (Y.move rfl rfl) (by rw [List.take_length])) (Wd.u rfl) rfl rfl ?_
    -- call slices.Grow[[]byte,byte]
    refine LR.call rfl Tryd.call87 rfl (Wd.u rfl) rfl rfl (grow_ct (catP l).length w0 _ hc) (fun v24 H24 r24 => ?_)
    obtain ⟨s24, k24, rfl, ow6, hk24, hs24⟩ := r24
    have df1 := DF.app (DF.z) (bf_hl.mono hm0.size) hk24
    have df2 := DF.app (DF.z) (bf_hx.mono hm0.size) hk24
    have nx3 : Nx 0 H0.size k24 := Nx.tr (Nx.refl 0 _) hk24 hm0.size
    replace hl := hl.nw hs24
    replace hx := fun x hx0 => (hx x hx0).nw hs24
    replace hm0 := hm0.tr hs24
    have hz2 := hs24.size
    have hle_ow6 := ow6.le
    refine LR.v (Y.assign rfl rfl) (Wd.u rfl) rfl rfl ?_
    refine LR.nil ?_
    refine hK14 _ _ ?_
    refine CW.seq (fun K15 hK15 hE15 => ?_)
    refine CW.seq (fun K16 hK16 hE16 => ?_)
    refine CW.region ?_
    refine LR.v (Y.move rfl rfl) (Wd.u rfl) rfl rfl ?_
    refine LR.v (Y.len hl rfl Tryd.runUnderlying129 rfl) (Wd.u rfl) rfl rfl ?_
    refine LR.v (Y.move rfl rfl) (Wd.u rfl) rfl rfl ?_
    refine LR.nil ?_
    refine hK16 _ _ ?_
    refine CW.block (fun K17 hK17 hX17 hE17 => ?_)
    refine CW.loop (fun (s_ : (Nat) × (SV) × (Nat)) => match s_ with | (q, s6, k6) => [(6, s6.v), (25, v), (26, .int .i64 l.length), (27, .int .i64 q)])
      (fun (s_ : (Nat) × (SV) × (Nat)) (H : Heap) => match s_ with | (q, s6, k6) => (q ≤ l.length) ∧ (Ow k6 5 H fB 1 s6.v (catP (l.take q))) ∧ (Nx k24 H24.size k6) ∧ Mo (Ms [k24]) H24 H)
      (fun (s_ : (Nat) × (SV) × (Nat)) => match s_ with | (q, s6, k6) => l.length - q) (0, s24, k24) ⟨rfl, rfl, rfl, rfl, trivial⟩ ?_ ?_
    ·
      exact ⟨(by omega), by simpa [catP] using ow6, Nx.refl _ _, Mo.refl _ _⟩
    rintro ⟨q, s6, k6⟩ HL2 hI2 K18 hN18 hE18
    obtain ⟨hq, ow6, nxl_ow6, hlm2⟩ := hI2
    have df4 := DF.app (df1) (bf_hl.mono hm0.size) nxl_ow6
    have df5 := DF.app (df2) (bf_hx.mono hm0.size) nxl_ow6
    have nx6 : Nx 0 H0.size k6 := Nx.tr (nx3) nxl_ow6 hm0.size
    replace hl := hl.upL hlm2 (DFL.cons df1 DFL.nil)
    replace hx := fun x hx0 => (hx x hx0).upL hlm2 (DFL.cons df2 DFL.nil)
    replace hm0 := (Mo.trL (ks := []) (hm0.mdn []) hlm2 (MIL.cons (MI.app MI.z (nx3) (Nat.le_refl _)) MIL.nil)).nil
    have hz3 := hlm2.size
    have hle_ow6 := ow6.le
    have nx7 := nxl_ow6
    refine CW.seq (fun K19 hK19 hE19 => ?_)
    refine CW.region ?_
    refine LR.v (Y.lss rfl rfl rfl) (Wd.u rfl) rfl rfl ?_
    refine LR.nil ?_
    refine hK19 _ _ ?_
    refine CW.seq (fun K20 hK20 hE20 => ?_)
    refine CW.condp rfl (fun c28 => ?_) (fun c28 => ?_)
    ·
      have hql : q < l.length := by omega
      have hcb := catP_at hql
      have hxq := hx l[q] (List.getElem_mem hql)
      refine CW.skip ?_
      refine hK20 _ _ ?_
      refine CW.seq (fun K21 hK21 hE21 => ?_)
      refine CW.block (fun K22 hK22 hX22 hE22 => ?_)
      refine CW.seq (fun K23 hK23 hE23 => ?_)
      refine CW.region ?_
      refine LR.e (g := fun ad => .pointer (some ad)) (Y.indexAddrF hl (q) rfl Tryd.runUnderlying129 Tryd.sizeOf25 rfl rfl (by first | rfl | omega) (by first | omega | (simp; omega) | (simp; done))) (Wd.u rfl) rfl rfl (fun ad29 pt29 => ?_)
      have bf_pt29 := bf_hl
      refine LR.v (Y.load1 pt29.pt rfl Tryd.isAgg25 rfl) (Wd.u rfl) rfl rfl ?_
      refine LR.v (Y.assign rfl rfl) (Wd.u rfl) rfl rfl ?_
      refine LR.nil ?_
      refine hK23 _ _ ?_
      refine CW.region ?_
      refine LR.v (Y.move rfl rfl) (Wd.u rfl) rfl rfl ?_
      refine LR.v (Y.move rfl rfl) (Wd.u rfl) rfl rfl ?_
      refine LR.z (Z.apnd ow6 hxq rfl inf25 rfl rfl (by first | omega | (simp; omega)) (by first | omega | (simp; omega))) (Wd.u rfl) rfl rfl (fun v33 H33 r33 => ?_)
      obtain ⟨k33, ow6, hk33, hs33⟩ := r33
      replace hk33 : Nx k6 HL2.size k33 := hk33
      replace hs33 := hs33.md
      have df8 := DF.app (df4) (bf_hl.mono hm0.size) hk33
      have df9 := DF.app (df5) (bf_hx.mono hm0.size) hk33
      have nx10 : Nx 0 H0.size k33 := Nx.tr (nx6) hk33 hm0.size
      have nx11 : Nx k24 H24.size k33 := Nx.tr (nx7) hk33 hlm2.size
      replace hl := hl.upL hs33 (DFL.cons df4 DFL.nil)
      replace hx := fun x hx0 => (hx x hx0).upL hs33 (DFL.cons df5 DFL.nil)
      replace hm0 := (Mo.trL (ks := []) (hm0.mdn []) hs33 (MIL.cons (MI.app MI.z (nx6) (Nat.le_refl _)) MIL.nil)).nil
      replace hlm2 := hlm2.trL hs33 (MIL.cons (MI.app (MI.root (by simp)) (nx7) (Nat.le_refl _)) MIL.nil)
      have hz4 := hs33.size
      have hle_ow6 := ow6.le
      refine LR.v (Y.assign rfl rfl) (Wd.u rfl) rfl rfl ?_
      refine LR.nil ?_
      refine hK22 _ _ ?_
      refine hK21 _ _ ?_
      refine CW.region ?_
      refine LR.v (Y.addi rfl rfl rfl (by omega)) (Wd.u rfl) rfl rfl ?_
      refine LR.v (Y.move rfl rfl) (Wd.u rfl) rfl rfl ?_
      refine LR.nil ?_
      obtain ⟨s33, rfl⟩ : ∃ s : SV, v33 = s.v := ⟨toSV v33, ow6.sv.symm⟩
      refine QN.sub (hN18 (q + 1, s33, k33) _ ?_ ?_) ⟨rfl, rfl, (iv (by omega)), (iv (by omega)), trivial⟩
      · exact ⟨(by omega), by rw [catP_take hql]; exact ow6, nx11, hlm2⟩
      · first | omega | (simp only; omega) | (simp; omega)
    ·
      refine CW.exit (hE20 (.exit 2) nofun _ _ (hE18 (.exit 2) nofun _ _ (hX17 _ _ ?_)))
      refine hK15 _ _ ?_
      refine CW.seq (fun K24 hK24 hE24 => ?_)
      refine CW.region ?_
      refine LR.v (Y.move rfl rfl) (Wd.u rfl) rfl rfl ?_
      refine LR.v (Y.assign rfl rfl) (Wd.u rfl) rfl rfl ?_
      refine LR.nil ?_
      refine hK24 _ _ ?_
      refine CW.ret (hret .ret (.inr rfl) _ _ _ (res1 rfl rfl) ?_)
      obtain rfl : q = l.length := by omega
      rw [List.take_length] at ow6
      exact ⟨s6, k6, rfl, ow6, nx6, hm0⟩


abbrev Wx := Wr × SV
/-- a write's cells -/
abbrev fW (x : Wx) : List Value := [.bool x.1.b, x.2.v]
theorem fW_len (x : Wx) : (fW x).length = 2 := rfl
theorem fW_one (x : Wx) : ∀ u ∈ fW x, u.oneCell' = true := by intro u hu; simp only [List.mem_cons, List.not_mem_nil, or_false] at hu; rcases hu with rfl | rfl <;> rfl
abbrev wV (x : Wx) : Value := .agg (fW x).toArray
theorem on_le (w : Wr) (b : List UInt8) (n : Nat) : (w.on b n).length ≤ b.length + n := by
  unfold Wr.on; rw [List.length_append, List.length_take]; split <;> simp <;> omega

theorem on_ct (x : Wx) (sb : SV) (b : List UInt8) (n : Nat) (w0 : World) (H0 : Heap)
    (hd : RdT H0 fB 1 x.2.v x.1.d) (hb : RdT H0 fB 1 sb.v b) (hn : n ≤ x.1.d.length) (hbl : b.length + n ≤ 1099511627776) :
    Ct Tryd.prog w0 60 #[wV x, sb.v, .int .i64 (n : Int)] H0 (fun r H2 => ∃ s : SV, ∃ k : Nat, r = s.v ∧ (Ow k 5 H2 fB 1 s.v (x.1.on b n)) ∧ (Nx 0 H0.size k) ∧ Nw H0 H2) := by
  refine Ct.enter (args := [wV x, sb.v, .int .i64 (n : Int)]) Tryd.func60 rfl rfl rfl ?_
  intro Q0 hret
  have hm0 : Nw H0 H0 := Mo.refl _ _
  replace hd := hd.bnd
  have bf_hd := hd.bf
  replace hb := hb.bnd
  have bf_hb := hb.bf
  refine CW.seq (fun K1 hK1 hE1 => ?_)
  refine CW.region ?_
  refine LR.z (Z.boxv rfl rfl) (Wd.u rfl) rfl rfl (fun v3 H3 r3 => ?_)
  obtain ⟨rfl, vx, hs3, ob3, hH3⟩ := r3
  have hzs3 : H3.size = H0.size + 1 := by rw [hH3]; simp
  have df1 := (DF.new (bf_hd.mono hm0.size) : DF _ (H0.size + 1))
  have df2 := (DF.new (bf_hb.mono hm0.size) : DF _ (H0.size + 1))
  have nx3 : Nx 0 H0.size (H0.size + 1) := Nx.new hm0.size
  replace hd := hd.nw hs3
  replace hb := hb.nw hs3
  replace hm0 := hm0.tr hs3
  have hz1 := hs3.size
  replace vx : Var 67 H3 H0.size (fW x) := vx
  refine LR.v (Y.assign rfl rfl) (Wd.u rfl) rfl rfl ?_
  refine LR.nil ?_
  refine hK1 _ _ ?_
  refine CW.cut (fun (s_ : (SV) × (List UInt8)) => match s_ with | (s1, b1) => [(1, s1.v), (2, .int .i64 (n : Int)), (3, .pointer (some ⟨H0.size, 0, none⟩))])
    (fun (s_ : (SV) × (List UInt8)) (H : Heap) => match s_ with | (s1, b1) => (RdT H fB 1 s1.v b1) ∧ (b1 = if x.1.b = true then b else []) ∧ Nw H3 H) (fun K2 hK2 hE2 => ?_) ?_
  ·
    have hcm2 : Nw H3 H3 := Mo.refl _ _
    refine CW.seq (fun K3 hK3 hE3 => ?_)
    refine CW.region ?_
    refine LR.v (Y.fieldAddr vx.pt rfl Tryd.runUnderlying67 rfl rfl Tryd.sizeOf4 (by decide) rfl) (Wd.u rfl) rfl rfl ?_
    refine LR.v (Y.load1 vx.pt rfl Tryd.isAgg4 rfl) (Wd.u rfl) rfl rfl ?_
    refine LR.v (Y.not rfl rfl) (Wd.u rfl) rfl rfl ?_
    refine LR.nil ?_
    refine hK3 _ _ ?_
    refine CW.cond rfl (fun c9 => ?_) (fun c9 => ?_)
    ·
      refine CW.region ?_
      refine LR.v (Y.assign rfl rfl) (Wd.u rfl) rfl rfl ?_
      refine LR.nil ?_
      refine QN.sub (hK2 (⟨none, 0, 0⟩, []) _ ?_) ⟨rfl, (iv (by omega)), rfl, trivial⟩
      exact ⟨Rd.nil _ _ _ _, by rw [if_neg (by simpa using c9)], hcm2⟩
    ·
      refine CW.skip ?_
      refine QN.sub (hK2 (sb, b) _ ?_) ⟨rfl, (iv (by omega)), rfl, trivial⟩
      exact ⟨hb.any, by rw [if_pos (by simpa using c9)], hcm2⟩
  ·
    rintro ⟨s1, b1⟩ Hcutc9 hIcutc9
    obtain ⟨hb1, hb1e, hlmcutc9⟩ := hIcutc9
    replace hd := hd.nw hlmcutc9
    replace hb := hb.nw hlmcutc9
    replace vx := vx.nw hlmcutc9
    replace hm0 := hm0.tr hlmcutc9
    have hz2 := hlmcutc9.size
    have hb1l : b1.length ≤ b.length := by rw [hb1e]; split <;> simp
    refine CW.seq (fun K4 hK4 hE4 => ?_)
    refine CW.region ?_
    refine LR.v (Y.move rfl rfl) (Wd.u rfl) rfl rfl ?_
    refine LR.v (Y.fieldAddr vx.pt rfl Tryd.runUnderlying67 rfl rfl Tryd.sizeOf25 (by decide) rfl) (Wd.u rfl) rfl rfl ?_
    refine LR.v (Y.load1 (vx.pt.drop 1) rfl Tryd.isAgg25 rfl) (Wd.u rfl) rfl rfl ?_
    refine LR.v (Y.move rfl rfl) (Wd.u rfl) rfl rfl ?_
    refine LR.e (g := fun v => v) (Y.slice hd (0) (n) rfl Tryd.runUnderlying25 Tryd.sizeOf5 rfl (.inl ⟨rfl, rfl⟩) (.inr ⟨_, _, _, rfl, rfl, by first | rfl | omega⟩) (by omega) (by omega)) (Wd.u rfl) rfl rfl (fun v14 rd14 => ?_)
    have bf_rd14 := bf_hd
    obtain ⟨s14, rfl⟩ : ∃ s : SV, v14 = s.v := ⟨toSV v14, rd14.sv.symm⟩
    refine LR.z (Z.litw _ ([(s1, b1), (s14, (x.1.d.take n).drop 0)]) rfl inf129 rfl rfl rfl (by decide) (by decide) fP_len fP_one (rfl)) (Wd.u rfl) rfl rfl (fun v15 H15 r15 => ?_)
    obtain ⟨ow15, hs15, ob15, hH15⟩ := r15
    have hzs15 : H15.size = Hcutc9.size + 1 := by rw [hH15]; simp
    have df4 := (DF.new (bf_hd.mono hm0.size) : DF _ (Hcutc9.size + 1))
    have df5 := (DF.new (bf_hb.mono hm0.size) : DF _ (Hcutc9.size + 1))
    have dj6 : Dj (H0.size + 1) (Hcutc9.size + 1) := Dj.new vx.lt
    have df7 := (DF.new (bf_rd14.mono hm0.size) : DF _ (Hcutc9.size + 1))
    have nx8 : Nx 0 H0.size (Hcutc9.size + 1) := Nx.new hm0.size
    replace hd := hd.nw hs15
    replace hb := hb.nw hs15
    replace vx := vx.nw hs15
    replace rd14 := rd14.nw hs15
    replace hm0 := hm0.tr hs15
    have hz3 := hs15.size
    -- call slices.Concat[[]byte,byte]
    refine LR.call rfl Tryd.call76 rfl (Wd.u rfl) rfl rfl (concat_ct v15 [(s1, b1), (s14, (x.1.d.take n).drop 0)] w0 _ ow15.rd.any (fun x hx => by simp only [List.mem_cons, List.not_mem_nil, or_false] at hx; rcases hx with rfl | rfl; exact hb1.nw hs15; exact rd14.any) (by simp [catP]; omega)) (fun v16 H16 r16 => ?_)
    obtain ⟨s16, k16, rfl, ow16, hk16, hs16⟩ := r16
    have df9 := DF.app (DF.z) (bf_hd.mono hm0.size) hk16
    have df10 := DF.app (DF.z) (bf_hb.mono hm0.size) hk16
    have dj11 : Dj (H0.size + 1) k16 := Dj.app (Dj.z) vx.lt hk16
    have df12 := DF.app (DF.z) (bf_rd14.mono hm0.size) hk16
    have dj13 : Dj (Hcutc9.size + 1) k16 := Dj.app (Dj.z) ow15.le hk16
    have nx14 : Nx 0 H0.size k16 := Nx.tr (Nx.refl 0 _) hk16 hm0.size
    replace hd := hd.nw hs16
    replace hb := hb.nw hs16
    replace vx := vx.nw hs16
    replace rd14 := rd14.nw hs16
    replace ow15 := ow15.nw hs16
    replace hm0 := hm0.tr hs16
    have hz4 := hs16.size
    have hle_ow16 := ow16.le
    refine LR.v (Y.assign rfl rfl) (Wd.u rfl) rfl rfl ?_
    refine LR.nil ?_
    refine hK4 _ _ ?_
    refine CW.ret (hret .ret (.inr rfl) _ _ _ (res1 rfl rfl) ?_)
    exact ⟨s16, k16, rfl, by have e : catP [(s1, b1), (s14, (x.1.d.take n).drop 0)] = x.1.on b n := (by unfold Wr.on; rw [← hb1e]; simp [catP]); rw [← e]; exact ow16, nx14, hm0⟩

theorem ways_ct (x : Wx) (w0 : World) (H0 : Heap)
    (hd : RdT H0 fB 1 x.2.v x.1.d) (hdl : x.1.d.length ≤ 1099511627776) :
    Ct Tryd.prog w0 67 #[wV x] H0 (fun r H2 => r = .int .i64 (x.1.ways : Int) ∧ Nw H0 H2) := by
  refine Ct.enter (args := [wV x]) Tryd.func67 rfl rfl rfl ?_
  intro Q0 hret
  have hm0 : Nw H0 H0 := Mo.refl _ _
  replace hd := hd.bnd
  have bf_hd := hd.bf
  refine CW.seq (fun K1 hK1 hE1 => ?_)
  refine CW.region ?_
  refine LR.z (Z.boxv rfl rfl) (Wd.u rfl) rfl rfl (fun v1 H1 r1 => ?_)
  obtain ⟨rfl, vx, hs1, ob1, hH1⟩ := r1
  have hzs1 : H1.size = H0.size + 1 := by rw [hH1]; simp
  have df1 := (DF.new (bf_hd.mono hm0.size) : DF _ (H0.size + 1))
  have nx2 : Nx 0 H0.size (H0.size + 1) := Nx.new hm0.size
  replace hd := hd.nw hs1
  replace hm0 := hm0.tr hs1
  have hz1 := hs1.size
  replace vx : Var 67 H1 H0.size (fW x) := vx
  refine LR.v (Y.assign rfl rfl) (Wd.u rfl) rfl rfl ?_
  refine LR.nil ?_
  refine hK1 _ _ ?_
  refine CW.seq (fun K2 hK2 hE2 => ?_)
  refine CW.region ?_
  refine LR.v (Y.fieldAddr vx.pt rfl Tryd.runUnderlying67 rfl rfl Tryd.sizeOf25 (by decide) rfl) (Wd.u rfl) rfl rfl ?_
  refine LR.v (Y.load1 (vx.pt.drop 1) rfl Tryd.isAgg25 rfl) (Wd.u rfl) rfl rfl ?_
  refine LR.v (Y.len hd rfl Tryd.runUnderlying25 rfl) (Wd.u rfl) rfl rfl ?_
  refine LR.v (Y.cast (v2 := .int .i64 ((2 * x.1.d.length : Nat) : Int)) (Y.muli rfl rfl rfl (by omega)) (ivv (by omega))) (Wd.u rfl) rfl rfl ?_
  refine LR.v (Y.cast (v2 := .int .i64 (x.1.ways : Int)) (Y.maxi rfl rfl rfl) (ivv (by unfold Wr.ways; omega))) (Wd.u rfl) rfl rfl ?_
  refine LR.v (Y.assign rfl rfl) (Wd.u rfl) rfl rfl ?_
  refine LR.nil ?_
  refine hK2 _ _ ?_
  refine CW.ret (hret .ret (.inr rfl) _ _ _ (res1 rfl rfl) ?_)
  exact ⟨rfl, hm0⟩

theorem part_ct (x : Wx) (sb : SV) (b : List UInt8) (way : Nat) (w0 : World) (H0 : Heap)
    (hd : RdT H0 fB 1 x.2.v x.1.d) (hb : RdT H0 fB 1 sb.v b) (hw : way < x.1.ways) (hbl : b.length + x.1.d.length ≤ 1099511627776) :
    Ct Tryd.prog w0 68 #[wV x, sb.v, .int .i64 (way : Int)] H0 (fun r H2 => ∃ s : SV, ∃ k : Nat, r = s.v ∧ (Ow k 5 H2 fB 1 s.v (x.1.part b way)) ∧ (Nx 0 H0.size k) ∧ Nw H0 H2) := by
  refine Ct.enter (args := [wV x, sb.v, .int .i64 (way : Int)]) Tryd.func68 rfl rfl rfl ?_
  intro Q0 hret
  have hm0 : Nw H0 H0 := Mo.refl _ _
  replace hd := hd.bnd
  have bf_hd := hd.bf
  replace hb := hb.bnd
  have bf_hb := hb.bf
  have hw2 : way < 1 ∨ way < 2 * x.1.d.length := by unfold Wr.ways at hw; omega
  refine CW.seq (fun K1 hK1 hE1 => ?_)
  refine CW.region ?_
  refine LR.z (Z.boxv rfl rfl) (Wd.u rfl) rfl rfl (fun v3 H3 r3 => ?_)
  obtain ⟨rfl, vx, hs3, ob3, hH3⟩ := r3
  have hzs3 : H3.size = H0.size + 1 := by rw [hH3]; simp
  have df1 := (DF.new (bf_hd.mono hm0.size) : DF _ (H0.size + 1))
  have df2 := (DF.new (bf_hb.mono hm0.size) : DF _ (H0.size + 1))
  have nx3 : Nx 0 H0.size (H0.size + 1) := Nx.new hm0.size
  replace hd := hd.nw hs3
  replace hb := hb.nw hs3
  replace hm0 := hm0.tr hs3
  have hz1 := hs3.size
  replace vx : Var 67 H3 H0.size (fW x) := vx
  refine LR.v (Y.assign rfl rfl) (Wd.u rfl) rfl rfl ?_
  refine LR.nil ?_
  refine hK1 _ _ ?_
  refine CW.seq (fun K2 hK2 hE2 => ?_)
  refine CW.region ?_
  refine LR.v (Y.fieldAddr vx.pt rfl Tryd.runUnderlying67 rfl rfl Tryd.sizeOf25 (by decide) rfl) (Wd.u rfl) rfl rfl ?_
  refine LR.v (Y.load1 (vx.pt.drop 1) rfl Tryd.isAgg25 rfl) (Wd.u rfl) rfl rfl ?_
  refine LR.v (Y.len hd rfl Tryd.runUnderlying25 rfl) (Wd.u rfl) rfl rfl ?_
  refine LR.v (Y.assign rfl rfl) (Wd.u rfl) rfl rfl ?_
  refine LR.nil ?_
  refine hK2 _ _ ?_
  refine CW.seq (fun K3 hK3 hE3 => ?_)
  refine CW.seq (fun K4 hK4 hE4 => ?_)
  refine CW.region ?_
  refine LR.v (Y.move rfl rfl) (Wd.u rfl) rfl rfl ?_
  refine LR.v (Y.move rfl rfl) (Wd.u rfl) rfl rfl ?_
  refine LR.v (Y.lss rfl rfl rfl) (Wd.u rfl) rfl rfl ?_
  refine LR.v (Y.move rfl rfl) (Wd.u rfl) rfl rfl ?_
  refine LR.splitp (d := 14) rfl (fun g14 => ?_) (fun g14 => ?_)
  ·
    refine LR.gs rfl rfl rfl rfl rfl rfl ?_
    refine LR.gs rfl rfl rfl rfl rfl rfl ?_
    refine LR.v (Y.pick_t rfl rfl rfl) (Wd.u rfl) rfl rfl ?_
    refine LR.nil ?_
    refine hK4 _ _ ?_
    refine CW.cond_t rfl ?_
    refine CW.seq (fun K5 hK5 hE5 => ?_)
    refine CW.region ?_
    refine LR.v (Y.loadN vx.pt rfl Tryd.isAgg67 Tryd.sizeOf67 (rfl) rfl) (Wd.u rfl) rfl rfl ?_
    refine LR.v (Y.move rfl rfl) (Wd.u rfl) rfl rfl ?_
    refine LR.v (Y.move rfl rfl) (Wd.u rfl) rfl rfl ?_
    refine LR.v (Y.addi rfl rfl rfl (by omega)) (Wd.u rfl) rfl rfl ?_
    refine LR.v (Y.move rfl rfl) (Wd.u rfl) rfl rfl ?_
    refine LR.v (Y.cast (v2 := .int .i64 ((min (way + 1) x.1.d.length : Nat) : Int)) (Y.mini rfl rfl rfl) (ivv (by omega))) (Wd.u rfl) rfl rfl ?_
    -- call (selvage/simfs.write).on
    refine LR.call rfl Tryd.call60 rfl (Wd.u rfl) rfl rfl (on_ct x sb b (min (way + 1) x.1.d.length) w0 _ hd.any hb.any (by omega) (by omega)) (fun v24 H24 r24 => ?_)
    obtain ⟨s24, k24, rfl, ow24, hk24, hs24⟩ := r24
    have df4 := DF.app (DF.z) (bf_hd.mono hm0.size) hk24
    have df5 := DF.app (DF.z) (bf_hb.mono hm0.size) hk24
    have dj6 : Dj (H0.size + 1) k24 := Dj.app (Dj.z) vx.lt hk24
    have nx7 : Nx 0 H0.size k24 := Nx.tr (Nx.refl 0 _) hk24 hm0.size
    replace hd := hd.nw hs24
    replace hb := hb.nw hs24
    replace vx := vx.nw hs24
    replace hm0 := hm0.tr hs24
    have hz2 := hs24.size
    have hle_ow24 := ow24.le
    refine LR.v (Y.assign rfl rfl) (Wd.u rfl) rfl rfl ?_
    refine LR.nil ?_
    refine hK5 _ _ ?_
    refine CW.ret (hE3 .ret nofun _ _ (hret .ret (.inr rfl) _ _ _ (res1 rfl rfl) ?_))
    exact ⟨s24, k24, rfl, by have h9 : x.1.part b way = x.1.on b (min (way + 1) x.1.d.length) := (by unfold Wr.part; rw [if_pos (by first | exact .inl (by omega) | exact .inr (by omega))]); rw [h9]; exact ow24, nx7, hm0⟩
  ·
    refine LR.v (Y.move rfl rfl) (Wd.g rfl rfl rfl) rfl rfl ?_
    refine LR.v (Y.eql rfl rfl rfl) (Wd.g rfl rfl rfl) rfl rfl ?_
    refine LR.v (Y.pick_f rfl rfl rfl) (Wd.u rfl) rfl rfl ?_
    refine LR.nil ?_
    refine hK4 _ _ ?_
    refine CW.condp rfl (fun c17 => ?_) (fun c17 => ?_)
    ·
      refine CW.seq (fun K6 hK6 hE6 => ?_)
      refine CW.region ?_
      refine LR.v (Y.loadN vx.pt rfl Tryd.isAgg67 Tryd.sizeOf67 (rfl) rfl) (Wd.u rfl) rfl rfl ?_
      refine LR.v (Y.move rfl rfl) (Wd.u rfl) rfl rfl ?_
      refine LR.v (Y.move rfl rfl) (Wd.u rfl) rfl rfl ?_
      refine LR.v (Y.addi rfl rfl rfl (by omega)) (Wd.u rfl) rfl rfl ?_
      refine LR.v (Y.move rfl rfl) (Wd.u rfl) rfl rfl ?_
      refine LR.v (Y.cast (v2 := .int .i64 ((min (way + 1) x.1.d.length : Nat) : Int)) (Y.mini rfl rfl rfl) (ivv (by omega))) (Wd.u rfl) rfl rfl ?_
      -- call (selvage/simfs.write).on
      refine LR.call rfl Tryd.call60 rfl (Wd.u rfl) rfl rfl (on_ct x sb b (min (way + 1) x.1.d.length) w0 _ hd.any hb.any (by omega) (by omega)) (fun v24 H24 r24 => ?_)
      obtain ⟨s24, k24, rfl, ow24, hk24, hs24⟩ := r24
      have df8 := DF.app (DF.z) (bf_hd.mono hm0.size) hk24
      have df9 := DF.app (DF.z) (bf_hb.mono hm0.size) hk24
      have dj10 : Dj (H0.size + 1) k24 := Dj.app (Dj.z) vx.lt hk24
      have nx11 : Nx 0 H0.size k24 := Nx.tr (Nx.refl 0 _) hk24 hm0.size
      replace hd := hd.nw hs24
      replace hb := hb.nw hs24
      replace vx := vx.nw hs24
      replace hm0 := hm0.tr hs24
      have hz3 := hs24.size
      have hle_ow24 := ow24.le
      refine LR.v (Y.assign rfl rfl) (Wd.u rfl) rfl rfl ?_
      refine LR.nil ?_
      refine hK6 _ _ ?_
      refine CW.ret (hE3 .ret nofun _ _ (hret .ret (.inr rfl) _ _ _ (res1 rfl rfl) ?_))
      exact ⟨s24, k24, rfl, by have h9 : x.1.part b way = x.1.on b (min (way + 1) x.1.d.length) := (by unfold Wr.part; rw [if_pos (by first | exact .inl (by omega) | exact .inr (by omega))]); rw [h9]; exact ow24, nx11, hm0⟩
    ·
      refine CW.skip ?_
      refine hK3 _ _ ?_
      refine CW.seq (fun K7 hK7 hE7 => ?_)
      refine CW.region ?_
      refine LR.v (Y.move rfl rfl) (Wd.u rfl) rfl rfl ?_
      refine LR.v (Y.move rfl rfl) (Wd.u rfl) rfl rfl ?_
      refine LR.v (Y.cast (v2 := .int .i64 ((way - x.1.d.length : Nat) : Int)) (Y.subi rfl rfl rfl (by omega)) (ivv (by omega))) (Wd.u rfl) rfl rfl ?_
      refine LR.v (Y.assign rfl rfl) (Wd.u rfl) rfl rfl ?_
      refine LR.nil ?_
      refine hK7 _ _ ?_
      refine CW.seq (fun K8 hK8 hE8 => ?_)
      refine CW.region ?_
      refine LR.v (Y.loadN vx.pt rfl Tryd.isAgg67 Tryd.sizeOf67 (rfl) rfl) (Wd.u rfl) rfl rfl ?_
      refine LR.v (Y.move rfl rfl) (Wd.u rfl) rfl rfl ?_
      refine LR.v (Y.move rfl rfl) (Wd.u rfl) rfl rfl ?_
      -- call (selvage/simfs.write).on
      refine LR.call rfl Tryd.call60 rfl (Wd.u rfl) rfl rfl (on_ct x sb b (way - x.1.d.length) w0 _ hd.any hb.any (by omega) (by omega)) (fun v31 H31 r31 => ?_)
      obtain ⟨s31, k31, rfl, ow31, hk31, hs31⟩ := r31
      have df12 := DF.app (DF.z) (bf_hd.mono hm0.size) hk31
      have df13 := DF.app (DF.z) (bf_hb.mono hm0.size) hk31
      have dj14 : Dj (H0.size + 1) k31 := Dj.app (Dj.z) vx.lt hk31
      have nx15 : Nx 0 H0.size k31 := Nx.tr (Nx.refl 0 _) hk31 hm0.size
      replace hd := hd.nw hs31
      replace hb := hb.nw hs31
      replace vx := vx.nw hs31
      replace hm0 := hm0.tr hs31
      have hz4 := hs31.size
      have hle_ow31 := ow31.le
      have hol := on_le x.1 b (way - x.1.d.length)
      refine LR.v (Y.move rfl rfl) (Wd.u rfl) rfl rfl ?_
      refine LR.v (Y.move rfl rfl) (Wd.u rfl) rfl rfl ?_
      refine LR.v (Y.cast (v2 := .int .i64 ((x.1.d.length - (way - x.1.d.length) : Nat) : Int)) (Y.subi rfl rfl rfl (by omega)) (ivv (by omega))) (Wd.u rfl) rfl rfl ?_
      refine LR.z (Z.apz (m := x.1.d.length - (way - x.1.d.length)) ow31 (0 : UInt8) rfl inf25 Tryd.underlying3 Tryd.zeroValue5 rfl (by decide) rfl rfl (by first | omega | (simp; omega)) (by first | omega | (simp; omega))) (Wd.u rfl) rfl rfl (fun v35 H35 r35 => ?_)
      obtain ⟨k35, ow31, hk35, hs35⟩ := r35
      replace hk35 : Nx k31 H31.size k35 := hk35
      replace hs35 := hs35.md
      have df16 := DF.app (df12) (bf_hd.mono hm0.size) hk35
      have df17 := DF.app (df13) (bf_hb.mono hm0.size) hk35
      have dj18 : Dj (H0.size + 1) k35 := Dj.app (dj14) vx.lt hk35
      have nx19 : Nx 0 H0.size k35 := Nx.tr (nx15) hk35 hm0.size
      replace hd := hd.upL hs35 (DFL.cons df12 DFL.nil)
      replace hb := hb.upL hs35 (DFL.cons df13 DFL.nil)
      replace vx := vx.upL hs35 (DL.cons dj14 DL.nil)
      replace hm0 := (Mo.trL (ks := []) (hm0.mdn []) hs35 (MIL.cons (MI.app MI.z (nx15) (Nat.le_refl _)) MIL.nil)).nil
      have hz5 := hs35.size
      have hle_ow31 := ow31.le
      refine LR.v (Y.assign rfl rfl) (Wd.u rfl) rfl rfl ?_
      refine LR.nil ?_
      refine hK8 _ _ ?_
      refine CW.ret (hret .ret (.inr rfl) _ _ _ (res1 rfl rfl) ?_)
      obtain ⟨s35, rfl⟩ : ∃ s : SV, v35 = s.v := ⟨toSV v35, ow31.sv.symm⟩
      exact ⟨s35, k35, rfl, by have h9 : x.1.part b way = x.1.on b (way - x.1.d.length) ++ List.replicate (x.1.d.length - (way - x.1.d.length)) 0 := (by unfold Wr.part; rw [if_neg (by omega)]); rw [h9]; exact ow31, nx19, hm0⟩

end Go.Proofs.YtfbfjhppppoilaaDoor.SimB
