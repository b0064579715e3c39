/-
  The document's sum of a row of bytes.
-/
import Derived.Test.YtegfnfhdgbcjbaaSumE
namespace Go.Proofs.Ytegfnfhdgbcjbaa.SumF
open Go.Proofs.Ytegfnfhdgbcjbaa.E Go.RowKit Go.Proofs.Ytegfnfhdgbcjbaa.SumA Go.Proofs.Ytegfnfhdgbcjbaa.SumB Go.Proofs.Ytegfnfhdgbcjbaa.SumC Go.Proofs.Ytegfnfhdgbcjbaa.SumD Go.Proofs.Ytegfnfhdgbcjbaa.SumE
set_option maxRecDepth 20000
set_option linter.unusedVariables false
set_option linter.unusedSimpArgs false
set_option linter.unusedSectionVars false
set_option maxRecDepth 100000 in
theorem inf22 : Inf Try.prog 22 5 1 1 := ⟨Try.underlying22, _, _, rfl, rfl, rfl, rfl, rfl⟩

def padZ (n : Nat) : Nat := (119 - n % 64) % 64
def padOf (n : Nat) : List UInt8 := 0x80 :: (List.replicate (padZ n) 0 ++ numL 8 (UInt64.ofNat (8 * n)))
theorem pad_len (m : List UInt8) : (m ++ padOf m.length).length % 64 = 0 ∧ (m ++ padOf m.length).length = m.length + padZ m.length + 9 := by
  have h : (m ++ padOf m.length).length = m.length + padZ m.length + 9 := by simp [padOf, numL_len]; omega
  refine ⟨?_, h⟩
  rw [h, padZ]; omega
def outL (s : List UInt32) : List UInt8 := (List.range 32).map (fun i => UInt8.ofNat (shrw_u32 (s.getD (i / 4) 0) (24 - 8 * (i % 4))).toNat)
theorem outL_len (s : List UInt32) : (outL s).length = 32 := by simp [outL]
/-- the sum of bytes -/
def sumOf (m : List UInt8) : List UInt8 := outL (run IV (m ++ padOf m.length)).1.list
theorem sumOf_len (m : List UInt8) : (sumOf m).length = 32 := outL_len _
theorem run_take (M : List UInt8) (j : Nat) (st : S8) (h : run IV (M.take (64 * j)) = (st, [])) (hj : 64 * j + 64 ≤ M.length) : run IV (M.take (64 * (j + 1))) = (compress st ((M.drop (64 * j)).take 64), []) := by
  have e : M.take (64 * (j + 1)) = M.take (64 * j) ++ (M.drop (64 * j)).take 64 := by
    rw [show 64 * (j + 1) = 64 * j + 64 by omega, List.take_add]
  have hl : ((M.drop (64 * j)).take 64).length = 64 := by simp; omega
  rw [e, run_more, h]
  simp only [List.nil_append]
  rw [run_ge _ _ (by omega), List.take_of_length_le (l := (M.drop (64 * j)).take 64) (by omega), List.drop_of_length_le (l := (M.drop (64 * j)).take 64) (by omega), run_lt _ _ (by simp)]
theorem blk_get (M : List UInt8) (j c : Nat) (hc : c < 64) (hj : 64 * j + 64 ≤ M.length) (q : Nat) (hq : q = 64 * j + c) (h : q < M.length) : M[q] = ((M.drop (64 * j)).take 64).getD c 0 := by
  subst hq
  simp [List.getD, hc, h, show c < M.length - 64 * j by omega]
theorem map_get8 (w : List UInt8) (j : Nat) (h : j < w.length) : (w.map V8)[j]? = some (V8 (w.getD j 0)) := by simp [h]
theorem map_set8 (w : List UInt8) (j : Nat) (x : UInt8) : (w.map V8).set (0 + j) (V8 x) = (w.set j x).map V8 := by rw [Nat.zero_add, List.map_set]
theorem map_setN (w : List UInt32) (j : Nat) (x : UInt32) : (w.map V32).set j (V32 x) = (w.set j x).map V32 := by rw [List.map_set]
theorem take8_succ (w r : List UInt8) (i : Nat) (x : UInt8) (h : w.take i = r.take i) (hi : i < w.length) (hr : r[i]? = some x) : (w.set i x).take (i + 1) = r.take (i + 1) := by
  have h2 := (List.getElem?_eq_some_iff.1 hr)
  obtain ⟨h3, h4⟩ := h2
  rw [take_set_succ _ _ _ hi, h, List.take_succ_eq_append_getElem h3, h4]
theorem outL_get (s : List UInt32) (i : Nat) (h : i < 32) : (outL s)[i]? = some (UInt8.ofNat (shrw_u32 (s.getD (i / 4) 0) (24 - 8 * (i % 4))).toNat) := by
  simp [outL, h]

set_option maxHeartbeats 4000000 in
theorem rof_ct (v : Value) (m : List UInt8) (w0 : World) (H0 : Heap)
    (hr : RdT H0 fB 1 v m) (hml : m.length ≤ 1048576) :
    Ct Try.prog w0 28 #[v] H0 (fun r H2 => r = .agg ((sumOf m).map V8).toArray ∧ Mo (fun c => False) H0 H2) := by
  refine Ct.enter (args := [v]) Try.func28 rfl rfl rfl ?_
  intro Q0 hret
  replace hr := hr.lt
  have hm0 : Mo (fun c => False) H0 H0 := Mo.refl _ _
  refine CW.seq (fun K1 hK1 hE1 => ?_)
  refine CW.region ?_
  refine LR.z (Z.allocv rfl Try.zeroValue25) (Wd.u rfl) rfl rfl (fun v2 H2 r2 => ?_)
  obtain ⟨rfl, va2, hs2, ob2, hH2⟩ := r2
  have hzs2 : H2.size = H0.size + 1 := by rw [hH2]; simp
  replace hr := hr.nw hs2
  replace hm0 := hm0.trans hs2 (fun b hb0 hb1 => hb1) (fun b hb0 hb1 => hb1.elim)
  have hz1 := hs2.size
  have hlt_va2 := va2.lt
  replace va2 : Var 25 H2 H0.size ((List.replicate 32 (0 : UInt8)).map V8) := va2
  refine LR.nil ?_
  refine hK1 _ _ ?_
  refine CW.seq (fun K2 hK2 hE2 => ?_)
  refine CW.region ?_
  refine LR.v (Y.build (v := .agg (KS.map V32).toArray) rfl rfl (by intro w; kernel_rfl)) (Wd.u rfl) rfl rfl ?_
  refine LR.z (Z.allocv rfl Try.zeroValue86) (Wd.u rfl) rfl rfl (fun v3 H3 r3 => ?_)
  obtain ⟨rfl, va3, hs3, ob3, hH3⟩ := r3
  have hzs3 : H3.size = H2.size + 1 := by rw [hH3]; simp
  replace hr := hr.nw hs3
  replace hm0 := hm0.trans hs3 (fun b hb0 hb1 => hb1) (fun b hb0 hb1 => hb1.elim)
  replace va2 := va2.nw hs3
  have hz2 := hs3.size
  have hlt_va3 := va3.lt
  replace va3 : Var 86 H3 H2.size (List.replicate 64 (V32 0)) := va3
  refine LR.s (S.var va3 (KS.map V32) (KS.map V32) rfl rfl rfl rfl (by intro u hu; obtain ⟨x, _, rfl⟩ := List.mem_map.1 hu; rfl) Try.sizeOf86 (rfl) (Nat.le_of_ble_eq_true rfl) (by kernel_rfl)) (Wd.u rfl) rfl (fun H1_2 r1_2 => ?_)
  obtain ⟨va3, hs1_2⟩ := r1_2
  replace hr := hr.up hs1_2 (fun b hb0 hb1 hb2 => by omega)
  replace hm0 := hm0.trans hs1_2 (fun b hb0 hb1 => hb1) (fun b hb0 hb1 => by omega)
  replace va2 := va2.up hs1_2 (by omega)
  have hz3 := hs1_2.size
  refine LR.nil ?_
  refine hK2 _ _ ?_
  refine CW.seq (fun K3 hK3 hE3 => ?_)
  refine CW.region ?_
  refine LR.v (Y.build (v := .agg (IV.list.map V32).toArray) rfl rfl (by intro w; kernel_rfl)) (Wd.u rfl) rfl rfl ?_
  refine LR.z (Z.allocv rfl Try.zeroValue87) (Wd.u rfl) rfl rfl (fun v4 H4 r4 => ?_)
  obtain ⟨rfl, va4, hs4, ob4, hH4⟩ := r4
  have hzs4 : H4.size = H1_2.size + 1 := by rw [hH4]; simp
  replace hr := hr.nw hs4
  replace hm0 := hm0.trans hs4 (fun b hb0 hb1 => hb1) (fun b hb0 hb1 => hb1.elim)
  replace va2 := va2.nw hs4
  replace va3 := va3.nw hs4
  have hz4 := hs4.size
  have hlt_va4 := va4.lt
  replace va4 : Var 87 H4 H1_2.size (List.replicate 8 (V32 0)) := va4
  refine LR.s (S.var va4 (IV.list.map V32) (IV.list.map V32) rfl rfl rfl rfl (by intro u hu; obtain ⟨x, _, rfl⟩ := List.mem_map.1 hu; rfl) Try.sizeOf87 (rfl) (Nat.le_of_ble_eq_true rfl) (by kernel_rfl)) (Wd.u rfl) rfl (fun H2_2 r2_2 => ?_)
  obtain ⟨va4, hs2_2⟩ := r2_2
  replace hr := hr.up hs2_2 (fun b hb0 hb1 hb2 => by omega)
  replace hm0 := hm0.trans hs2_2 (fun b hb0 hb1 => hb1) (fun b hb0 hb1 => by omega)
  replace va2 := va2.up hs2_2 (by omega)
  replace va3 := va3.up hs2_2 (by omega)
  have hz5 := hs2_2.size
  refine LR.nil ?_
  refine hK3 _ _ ?_
  refine CW.seq (fun K4 hK4 hE4 => ?_)
  refine CW.region ?_
  refine LR.z (Z.litw _ (([] : List UInt8)) rfl inf22 rfl rfl rfl (by decide) (by decide) fB_len fB_one (rfl)) (Wd.u rfl) rfl rfl (fun v24 H24 r24 => ?_)
  obtain ⟨ow24, hs24, ob24, hH24⟩ := r24
  have hzs24 : H24.size = H2_2.size + 1 := by rw [hH24]; simp
  replace hr := hr.nw hs24
  replace hm0 := hm0.trans hs24 (fun b hb0 hb1 => hb1) (fun b hb0 hb1 => hb1.elim)
  replace va2 := va2.nw hs24
  replace va3 := va3.nw hs24
  replace va4 := va4.nw hs24
  have hz6 := hs24.size
  have hle_ow24 := ow24.le
  refine LR.v (Y.move rfl rfl) (Wd.u rfl) rfl rfl ?_
  refine LR.z (Z.apnd ow24 hr rfl inf22 rfl rfl (by first | omega | (simp; omega)) (by first | omega | (simp; omega))) (Wd.u rfl) rfl rfl (fun v26 H26 r26 => ?_)
  obtain ⟨k26, ow26, hk26, hs26⟩ := r26
  replace hr := hr.up hs26 (fun b hb0 hb1 hb2 => by omega)
  replace hm0 := hm0.trans hs26 (fun b hb0 hb1 => hb1) (fun b hb0 hb1 => by omega)
  replace va2 := va2.up hs26 (by omega)
  replace va3 := va3.up hs26 (by omega)
  replace va4 := va4.up hs26 (by omega)
  have hz7 := hs26.size
  have hle_ow26 := ow26.le
  refine LR.z (Z.litw _ ([(0x80 : UInt8)]) rfl inf22 rfl rfl rfl (by decide) (by decide) fB_len fB_one (rfl)) (Wd.u rfl) rfl rfl (fun v27 H27 r27 => ?_)
  obtain ⟨ow27, hs27, ob27, hH27⟩ := r27
  have hzs27 : H27.size = H26.size + 1 := by rw [hH27]; simp
  replace hr := hr.nw hs27
  replace hm0 := hm0.trans hs27 (fun b hb0 hb1 => hb1) (fun b hb0 hb1 => hb1.elim)
  replace va2 := va2.nw hs27
  replace va3 := va3.nw hs27
  replace va4 := va4.nw hs27
  replace ow26 := ow26.nw hs27
  have hz8 := hs27.size
  have hle_ow27 := ow27.le
  refine LR.z (Z.apnd ow26 ow27.rd rfl inf22 rfl rfl (by first | omega | (simp; omega)) (by first | omega | (simp; omega))) (Wd.u rfl) rfl rfl (fun v28 H28 r28 => ?_)
  obtain ⟨k28, ow5, hk28, hs28⟩ := r28
  replace hr := hr.up hs28 (fun b hb0 hb1 hb2 => by omega)
  replace hm0 := hm0.trans hs28 (fun b hb0 hb1 => hb1) (fun b hb0 hb1 => by omega)
  replace va2 := va2.up hs28 (by omega)
  replace va3 := va3.up hs28 (by omega)
  replace va4 := va4.up hs28 (by omega)
  replace ow27 := ow27.up hs28 (fun b hb0 hb1 hb2 => by omega)
  have hz9 := hs28.size
  have hle_ow5 := ow5.le
  refine LR.v (Y.assign rfl rfl) (Wd.u rfl) rfl rfl ?_
  refine LR.nil ?_
  refine hK4 _ _ ?_
  refine CW.seq (fun K5 hK5 hE5 => ?_)
  refine CW.block (fun K6 hK6 hX6 hE6 => ?_)
  refine CW.loop (fun (s_ : (Nat) × (Value) × (Nat)) => match s_ with | (q, v5, k5) => [(0, v), (2, .pointer (some ⟨H0.size, 0, none⟩)), (3, .pointer (some ⟨H2.size, 0, none⟩)), (4, .pointer (some ⟨H1_2.size, 0, none⟩)), (5, v5)])
    (fun (s_ : (Nat) × (Value) × (Nat)) (H : Heap) => match s_ with | (q, v5, k5) => (q ≤ padZ m.length) ∧ (Ow k5 5 H fB 1 v5 ([] ++ m ++ [0x80] ++ List.replicate q 0)) ∧ (k5 = 0 ∨ k5 = k28 ∨ H28.size < k5) ∧ Mo (fun c => c + 1 = k28) H28 H)
    (fun (s_ : (Nat) × (Value) × (Nat)) => match s_ with | (q, v5, k5) => padZ m.length - q) (0, v28, k28) ⟨rfl, rfl, rfl, rfl, rfl, trivial⟩ ?_ ?_
  ·
    rw [show [] ++ m ++ [(0x80 : UInt8)] = [] ++ m ++ [0x80] ++ List.replicate 0 0 by simp] at ow5
    exact ⟨(by omega), ow5, (by omega), Mo.refl _ _⟩
  rintro ⟨q, v5, k5⟩ HL1 hI1 K7 hN7 hE7
  obtain ⟨hq, ow5, hk5, hlm1⟩ := hI1
  replace hr := hr.up hlm1 (fun b hb0 hb1 hb2 => by omega)
  replace hm0 := hm0.trans hlm1 (fun b hb0 hb1 => hb1) (fun b hb0 hb1 => by omega)
  replace va2 := va2.up hlm1 (by omega)
  replace va3 := va3.up hlm1 (by omega)
  replace va4 := va4.up hlm1 (by omega)
  replace ow27 := ow27.up hlm1 (fun b hb0 hb1 hb2 => by omega)
  have hz10 := hlm1.size
  have hle_ow5 := ow5.le
  have hl5 : ([] ++ m ++ [(0x80 : UInt8)] ++ List.replicate q 0).length = m.length + 1 + q := by simp; omega
  have hpz : padZ m.length = (119 - m.length % 64) % 64 := rfl
  refine CW.seq (fun K8 hK8 hE8 => ?_)
  refine CW.seq (fun K9 hK9 hE9 => ?_)
  refine CW.region ?_
  refine LR.v (Y.move rfl rfl) (Wd.u rfl) rfl rfl ?_
  refine LR.v (Y.len ow5.rd rfl Try.runUnderlying22 rfl) (Wd.u rfl) rfl rfl ?_
  refine LR.v (Y.remi rfl rfl rfl (by omega)) (Wd.u rfl) rfl rfl ?_
  refine LR.v (Y.neq rfl rfl rfl) (Wd.u rfl) rfl rfl ?_
  refine LR.nil ?_
  refine hK9 _ _ ?_
  refine CW.condp rfl (fun c32 => ?_) (fun c32 => ?_)
  ·
    refine CW.skip ?_
    refine hK8 _ _ ?_
    refine CW.block (fun K10 hK10 hX10 hE10 => ?_)
    refine CW.region ?_
    refine LR.v (Y.move rfl rfl) (Wd.u rfl) rfl rfl ?_
    refine LR.z (Z.litw _ ([(0 : UInt8)]) rfl inf22 rfl rfl rfl (by decide) (by decide) fB_len fB_one (rfl)) (Wd.u rfl) rfl rfl (fun v34 H34 r34 => ?_)
    obtain ⟨ow34, hs34, ob34, hH34⟩ := r34
    have hzs34 : H34.size = HL1.size + 1 := by rw [hH34]; simp
    replace hr := hr.nw hs34
    replace hm0 := hm0.trans hs34 (fun b hb0 hb1 => hb1) (fun b hb0 hb1 => hb1.elim)
    replace va2 := va2.nw hs34
    replace va3 := va3.nw hs34
    replace va4 := va4.nw hs34
    replace ow27 := ow27.nw hs34
    replace ow5 := ow5.nw hs34
    try replace hlm1 := hlm1.trans hs34 (fun b hb0 hb1 => hb1) (fun b hb0 hb1 => hb1.elim)
    have hz11 := hs34.size
    have hle_ow34 := ow34.le
    refine LR.z (Z.apnd ow5 ow34.rd rfl inf22 rfl rfl (by first | omega | (simp; omega)) (by first | omega | (simp; omega))) (Wd.u rfl) rfl rfl (fun v35 H35 r35 => ?_)
    obtain ⟨k35, ow35, hk35, hs35⟩ := r35
    replace hr := hr.up hs35 (fun b hb0 hb1 hb2 => by omega)
    replace hm0 := hm0.trans hs35 (fun b hb0 hb1 => hb1) (fun b hb0 hb1 => by omega)
    replace va2 := va2.up hs35 (by omega)
    replace va3 := va3.up hs35 (by omega)
    replace va4 := va4.up hs35 (by omega)
    replace ow27 := ow27.up hs35 (fun b hb0 hb1 hb2 => by omega)
    try replace hlm1 := hlm1.trans hs35 (fun b hb0 hb1 => hb1) (fun b hb0 hb1 => by omega)
    replace ow34 := ow34.up hs35 (fun b hb0 hb1 hb2 => by omega)
    have hz12 := hs35.size
    have hle_ow35 := ow35.le
    refine LR.v (Y.assign rfl rfl) (Wd.u rfl) rfl rfl ?_
    refine LR.nil ?_
    refine hK10 _ _ ?_
    refine QN.sub (hN7 (q + 1, v35, k35) _ ?_ ?_) ⟨rfl, rfl, rfl, rfl, rfl, trivial⟩
    · exact ⟨(by omega), by rw [List.replicate_succ', ← List.append_assoc]; exact ow35, (by omega), hlm1⟩
    · first | omega | (simp only; omega) | (simp; omega)
  ·
    obtain rfl : q = padZ m.length := by omega
    refine CW.exit (hE8 (.exit 0) nofun _ _ (hE7 (.exit 0) nofun _ _ (hX6 _ _ ?_)))
    refine hK5 _ _ ?_
    refine CW.seq (fun K11 hK11 hE11 => ?_)
    refine CW.region ?_
    refine LR.v (Y.move rfl rfl) (Wd.u rfl) rfl rfl ?_
    refine LR.v (Y.move rfl rfl) (Wd.u rfl) rfl rfl ?_
    refine LR.v (Y.len hr rfl Try.runUnderlying22 rfl) (Wd.u rfl) rfl rfl ?_
    refine LR.v (Y.cast (v2 := .int .i64 ((8 * m.length : Nat) : Int)) (Y.muli rfl rfl rfl (by omega)) (ivv (by omega))) (Wd.u rfl) rfl rfl ?_
    refine LR.v (Y.conv_u64 rfl Try.runUnderlying3 Try.runUnderlying84 rfl) (Wd.u rfl) rfl rfl ?_
    -- call selvage/selvageref1.Num
    refine LR.call rfl Try.call48 rfl (Wd.u rfl) rfl rfl (num_ct k5 v5 _ 8 (UInt64.ofNat (8 * m.length)) w0 _ ow5 (by omega) (by omega)) (fun v41 H41 r41 => ?_)
    obtain ⟨v241, k6, rfl, ow5, hk41, hs41⟩ := r41
    replace hr := hr.up hs41 (fun b hb0 hb1 hb2 => by omega)
    replace hm0 := hm0.trans hs41 (fun b hb0 hb1 => hb1) (fun b hb0 hb1 => by omega)
    replace va2 := va2.up hs41 (by omega)
    replace va3 := va3.up hs41 (by omega)
    replace va4 := va4.up hs41 (by omega)
    replace ow27 := ow27.up hs41 (fun b hb0 hb1 hb2 => by omega)
    have hz13 := hs41.size
    have hle_ow5 := ow5.le
    replace ow5 : Ow k6 5 H41 fB 1 v41 (m ++ padOf m.length) := by simpa [padOf] using ow5
    obtain ⟨hp64, hpl⟩ := pad_len m
    refine LR.v (Y.assign rfl rfl) (Wd.u rfl) rfl rfl ?_
    refine LR.nil ?_
    refine hK11 _ _ ?_
    refine CW.seq (fun K12 hK12 hE12 => ?_)
    refine CW.region ?_
    refine LR.z (Z.allocv rfl Try.zeroValue86) (Wd.u rfl) rfl rfl (fun v6 H6 r6 => ?_)
    obtain ⟨rfl, va6, hs6, ob6, hH6⟩ := r6
    have hzs6 : H6.size = H41.size + 1 := by rw [hH6]; simp
    replace hr := hr.nw hs6
    replace hm0 := hm0.trans hs6 (fun b hb0 hb1 => hb1) (fun b hb0 hb1 => hb1.elim)
    replace va2 := va2.nw hs6
    replace va3 := va3.nw hs6
    replace va4 := va4.nw hs6
    replace ow27 := ow27.nw hs6
    replace ow5 := ow5.nw hs6
    have hz14 := hs6.size
    have hlt_va6 := va6.lt
    replace va6 : Var 86 H6 H41.size ((List.replicate 64 (0 : UInt32)).map V32) := va6
    refine LR.nil ?_
    refine hK12 _ _ ?_
    refine CW.seq (fun K13 hK13 hE13 => ?_)
    refine CW.seq (fun K14 hK14 hE14 => ?_)
    refine CW.region ?_
    refine LR.v (Y.assign rfl rfl) (Wd.u rfl) rfl rfl ?_
    refine LR.nil ?_
    refine hK14 _ _ ?_
    refine CW.block (fun K15 hK15 hX15 hE15 => ?_)
    refine CW.loop (fun (s_ : (Nat) × (S8) × (List UInt32)) => match s_ with | (j, st, w) => [(2, .pointer (some ⟨H0.size, 0, none⟩)), (3, .pointer (some ⟨H2.size, 0, none⟩)), (4, .pointer (some ⟨H1_2.size, 0, none⟩)), (5, v41), (6, .pointer (some ⟨H41.size, 0, none⟩)), (7, .int .i64 ((64 * j : Nat) : Int))])
      (fun (s_ : (Nat) × (S8) × (List UInt32)) (H : Heap) => match s_ with | (j, st, w) => (64 * j ≤ (m ++ padOf m.length).length) ∧ (run IV ((m ++ padOf m.length).take (64 * j)) = (st, [])) ∧ (w.length = 64) ∧ (Var 87 H H1_2.size (st.list.map V32)) ∧ (Var 86 H H41.size (w.map V32)) ∧ Mo (fun c => c = H1_2.size ∨ c = H41.size) H6 H)
      (fun (s_ : (Nat) × (S8) × (List UInt32)) => match s_ with | (j, st, w) => (m ++ padOf m.length).length - 64 * j) (0, IV, List.replicate 64 0) ⟨rfl, rfl, rfl, rfl, rfl, rfl, trivial⟩ ?_ ?_
    ·
      exact ⟨(by omega), by rw [Nat.mul_zero, List.take_zero, run_lt IV [] (by simp)], by simp, va4, va6, Mo.refl _ _⟩
    rintro ⟨j, st, w⟩ HL2 hI2 K16 hN16 hE16
    obtain ⟨hj, hst, hwl, va4, va6, hlm2⟩ := hI2
    replace hr := hr.up hlm2 (fun b hb0 hb1 hb2 => by omega)
    replace hm0 := hm0.trans hlm2 (fun b hb0 hb1 => hb1) (fun b hb0 hb1 => by omega)
    replace va2 := va2.up hlm2 (by omega)
    replace va3 := va3.up hlm2 (by omega)
    replace ow27 := ow27.up hlm2 (fun b hb0 hb1 hb2 => by omega)
    replace ow5 := ow5.up hlm2 (fun b hb0 hb1 hb2 => by omega)
    have hz15 := hlm2.size
    have hlt_va4 := va4.lt
    have hlt_va6 := va6.lt
    refine CW.seq (fun K17 hK17 hE17 => ?_)
    refine CW.seq (fun K18 hK18 hE18 => ?_)
    refine CW.region ?_
    refine LR.v (Y.move rfl rfl) (Wd.u rfl) rfl rfl ?_
    refine LR.v (Y.move rfl rfl) (Wd.u rfl) rfl rfl ?_
    refine LR.v (Y.len ow5.rd rfl Try.runUnderlying22 rfl) (Wd.u rfl) rfl rfl ?_
    refine LR.v (Y.lss rfl rfl rfl) (Wd.u rfl) rfl rfl ?_
    refine LR.nil ?_
    refine hK18 _ _ ?_
    refine CW.condp rfl (fun c45 => ?_) (fun c45 => ?_)
    ·
      refine CW.skip ?_
      refine hK17 _ _ ?_
      refine CW.seq (fun K19 hK19 hE19 => ?_)
      refine CW.block (fun K20 hK20 hX20 hE20 => ?_)
      refine CW.seq (fun K21 hK21 hE21 => ?_)
      refine CW.seq (fun K22 hK22 hE22 => ?_)
      refine CW.region ?_
      refine LR.v (Y.assign rfl rfl) (Wd.u rfl) rfl rfl ?_
      refine LR.nil ?_
      refine hK22 _ _ ?_
      refine CW.block (fun K23 hK23 hX23 hE23 => ?_)
      refine CW.loop (fun (s_ : (Nat) × (List UInt32)) => match s_ with | (i, w) => [(2, .pointer (some ⟨H0.size, 0, none⟩)), (3, .pointer (some ⟨H2.size, 0, none⟩)), (4, .pointer (some ⟨H1_2.size, 0, none⟩)), (5, v41), (6, .pointer (some ⟨H41.size, 0, none⟩)), (7, .int .i64 ((64 * j : Nat) : Int)), (8, .int .i64 i)])
        (fun (s_ : (Nat) × (List UInt32)) (H : Heap) => match s_ with | (i, w) => (i ≤ 16) ∧ (w.length = 64) ∧ (w.take i = first16 (((m ++ padOf m.length).drop (64 * j)).take 64) i) ∧ (Var 86 H H41.size (w.map V32)) ∧ Mo (fun c => c = H41.size) HL2 H)
        (fun (s_ : (Nat) × (List UInt32)) => match s_ with | (i, w) => 16 - i) (0, w) ⟨rfl, rfl, rfl, rfl, rfl, rfl, rfl, trivial⟩ ?_ ?_
      ·
        exact ⟨(by omega), hwl, by simp [first16], va6, Mo.refl _ _⟩
      rintro ⟨i, w⟩ HL3 hI3 K24 hN24 hE24
      obtain ⟨hi, hwl, hwt, va6, hlm3⟩ := hI3
      replace hr := hr.up hlm3 (fun b hb0 hb1 hb2 => by omega)
      replace hm0 := hm0.trans hlm3 (fun b hb0 hb1 => hb1) (fun b hb0 hb1 => by omega)
      replace va2 := va2.up hlm3 (by omega)
      replace va3 := va3.up hlm3 (by omega)
      replace ow27 := ow27.up hlm3 (fun b hb0 hb1 hb2 => by omega)
      replace ow5 := ow5.up hlm3 (fun b hb0 hb1 hb2 => by omega)
      replace va4 := va4.up hlm3 (by omega)
      try replace hlm2 := hlm2.trans hlm3 (fun b hb0 hb1 => hb1) (fun b hb0 hb1 => by omega)
      have hz16 := hlm3.size
      have hlt_va6 := va6.lt
      refine CW.seq (fun K25 hK25 hE25 => ?_)
      refine CW.seq (fun K26 hK26 hE26 => ?_)
      refine CW.region ?_
      refine LR.v (Y.move rfl rfl) (Wd.u rfl) rfl rfl ?_
      refine LR.v (Y.lss rfl rfl rfl) (Wd.u rfl) rfl rfl ?_
      refine LR.nil ?_
      refine hK26 _ _ ?_
      refine CW.condp rfl (fun c49 => ?_) (fun c49 => ?_)
      ·
        refine CW.skip ?_
        refine hK25 _ _ ?_
        refine CW.seq (fun K27 hK27 hE27 => ?_)
        refine CW.block (fun K28 hK28 hX28 hE28 => ?_)
        refine CW.region_tail 43 rfl (by kernel_rfl) (fun T14 hT14 => ?_)
        refine LR.v (Y.move rfl rfl) (Wd.u rfl) rfl rfl ?_
        refine LR.v (Y.move rfl rfl) (Wd.u rfl) rfl rfl ?_
        refine LR.v (Y.move rfl rfl) (Wd.u rfl) rfl rfl ?_
        refine LR.v (Y.move rfl rfl) (Wd.u rfl) rfl rfl ?_
        refine LR.v (Y.muli rfl rfl rfl (by omega)) (Wd.u rfl) rfl rfl ?_
        refine LR.v (Y.addi rfl rfl rfl (by omega)) (Wd.u rfl) rfl rfl ?_
        refine LR.v (Y.owAddr ow5 (64 * j + (4 * i + 0)) rfl Try.runUnderlying22 Try.sizeOf5 rfl rfl (by first | rfl | omega) (by first | omega | (simp; omega) | (simp; done))) (Wd.u rfl) rfl rfl ?_
        refine LR.v (Y.cast (v2 := .int .u8 ((((m ++ padOf m.length).drop (64 * j)).take 64).getD (4 * i + 0) 0).toNat) (Y.load1 (ow5.pt (j := 64 * j + (4 * i + 0)) (by first | omega | (simp; omega) | (simp; done))) rfl Try.isAgg5 rfl) (by rw [← blk_get (m ++ padOf m.length) j (4 * i + 0) (by omega) (by omega) _ rfl (by omega)])) (Wd.u rfl) rfl rfl ?_
        refine LR.v (Y.conv_u32 rfl Try.runUnderlying5 Try.runUnderlying85 rfl) (Wd.u rfl) rfl rfl ?_
        refine LR.v (Y.shl_u32 (24) rfl rfl rfl (by first | rfl | omega) (by omega)) (Wd.u rfl) rfl rfl ?_
        refine LR.v (Y.move rfl rfl) (Wd.u rfl) rfl rfl ?_
        refine LR.v (Y.move rfl rfl) (Wd.u rfl) rfl rfl ?_
        refine LR.v (Y.move rfl rfl) (Wd.u rfl) rfl rfl ?_
        refine LR.v (Y.muli rfl rfl rfl (by omega)) (Wd.u rfl) rfl rfl ?_
        refine LR.v (Y.addi rfl rfl rfl (by omega)) (Wd.u rfl) rfl rfl ?_
        refine LR.v (Y.addi rfl rfl rfl (by omega)) (Wd.u rfl) rfl rfl ?_
        refine LR.v (Y.owAddr ow5 (64 * j + (4 * i + 1)) rfl Try.runUnderlying22 Try.sizeOf5 rfl rfl (by first | rfl | omega) (by first | omega | (simp; omega) | (simp; done))) (Wd.u rfl) rfl rfl ?_
        refine LR.v (Y.cast (v2 := .int .u8 ((((m ++ padOf m.length).drop (64 * j)).take 64).getD (4 * i + 1) 0).toNat) (Y.load1 (ow5.pt (j := 64 * j + (4 * i + 1)) (by first | omega | (simp; omega) | (simp; done))) rfl Try.isAgg5 rfl) (by rw [← blk_get (m ++ padOf m.length) j (4 * i + 1) (by omega) (by omega) _ rfl (by omega)])) (Wd.u rfl) rfl rfl ?_
        refine LR.v (Y.conv_u32 rfl Try.runUnderlying5 Try.runUnderlying85 rfl) (Wd.u rfl) rfl rfl ?_
        refine LR.v (Y.shl_u32 (16) rfl rfl rfl (by first | rfl | omega) (by omega)) (Wd.u rfl) rfl rfl ?_
        refine LR.v (Y.or_u32 rfl rfl rfl) (Wd.u rfl) rfl rfl ?_
        refine LR.v (Y.move rfl rfl) (Wd.u rfl) rfl rfl ?_
        refine LR.v (Y.move rfl rfl) (Wd.u rfl) rfl rfl ?_
        refine LR.v (Y.move rfl rfl) (Wd.u rfl) rfl rfl ?_
        refine LR.v (Y.muli rfl rfl rfl (by omega)) (Wd.u rfl) rfl rfl ?_
        refine LR.v (Y.addi rfl rfl rfl (by omega)) (Wd.u rfl) rfl rfl ?_
        refine LR.v (Y.addi rfl rfl rfl (by omega)) (Wd.u rfl) rfl rfl ?_
        refine LR.v (Y.owAddr ow5 (64 * j + (4 * i + 2)) rfl Try.runUnderlying22 Try.sizeOf5 rfl rfl (by first | rfl | omega) (by first | omega | (simp; omega) | (simp; done))) (Wd.u rfl) rfl rfl ?_
        refine LR.v (Y.cast (v2 := .int .u8 ((((m ++ padOf m.length).drop (64 * j)).take 64).getD (4 * i + 2) 0).toNat) (Y.load1 (ow5.pt (j := 64 * j + (4 * i + 2)) (by first | omega | (simp; omega) | (simp; done))) rfl Try.isAgg5 rfl) (by rw [← blk_get (m ++ padOf m.length) j (4 * i + 2) (by omega) (by omega) _ rfl (by omega)])) (Wd.u rfl) rfl rfl ?_
        refine LR.v (Y.conv_u32 rfl Try.runUnderlying5 Try.runUnderlying85 rfl) (Wd.u rfl) rfl rfl ?_
        refine LR.v (Y.shl_u32 (8) rfl rfl rfl (by first | rfl | omega) (by omega)) (Wd.u rfl) rfl rfl ?_
        refine LR.v (Y.or_u32 rfl rfl rfl) (Wd.u rfl) rfl rfl ?_
        refine LR.v (Y.move rfl rfl) (Wd.u rfl) rfl rfl ?_
        refine LR.v (Y.move rfl rfl) (Wd.u rfl) rfl rfl ?_
        refine LR.v (Y.move rfl rfl) (Wd.u rfl) rfl rfl ?_
        refine LR.v (Y.muli rfl rfl rfl (by omega)) (Wd.u rfl) rfl rfl ?_
        refine LR.v (Y.addi rfl rfl rfl (by omega)) (Wd.u rfl) rfl rfl ?_
        refine LR.v (Y.addi rfl rfl rfl (by omega)) (Wd.u rfl) rfl rfl ?_
        refine LR.v (Y.owAddr ow5 (64 * j + (4 * i + 3)) rfl Try.runUnderlying22 Try.sizeOf5 rfl rfl (by first | rfl | omega) (by first | omega | (simp; omega) | (simp; done))) (Wd.u rfl) rfl rfl ?_
        refine LR.v (Y.cast (v2 := .int .u8 ((((m ++ padOf m.length).drop (64 * j)).take 64).getD (4 * i + 3) 0).toNat) (Y.load1 (ow5.pt (j := 64 * j + (4 * i + 3)) (by first | omega | (simp; omega) | (simp; done))) rfl Try.isAgg5 rfl) (by rw [← blk_get (m ++ padOf m.length) j (4 * i + 3) (by omega) (by omega) _ rfl (by omega)])) (Wd.u rfl) rfl rfl ?_
        refine LR.v (Y.conv_u32 rfl Try.runUnderlying5 Try.runUnderlying85 rfl) (Wd.u rfl) rfl rfl ?_
        refine LR.v (Y.or_u32 rfl rfl rfl) (Wd.u rfl) rfl rfl ?_
        refine LR.v (Y.arrAddr va6.pt (i) rfl Try.runUnderlying86 Try.sizeOf85 rfl rfl (by omega) (by first | omega | (simp; omega) | (simp; done))) (Wd.u rfl) rfl rfl ?_
        refine LR.nil (hT14 _ ?_)
        refine LR.s (S.var1 va6 (0 + (i)) (_) rfl rfl rfl (rfl) Try.sizeOf85 (by simp; omega) (map_set w i _)) (Wd.u rfl) rfl (fun H14_43 r14_43 => ?_)
        obtain ⟨va6, hs14_43⟩ := r14_43
        replace hr := hr.up hs14_43 (fun b hb0 hb1 hb2 => by omega)
        replace hm0 := hm0.trans hs14_43 (fun b hb0 hb1 => hb1) (fun b hb0 hb1 => by omega)
        replace va2 := va2.up hs14_43 (by omega)
        replace va3 := va3.up hs14_43 (by omega)
        replace ow27 := ow27.up hs14_43 (fun b hb0 hb1 hb2 => by omega)
        replace ow5 := ow5.up hs14_43 (fun b hb0 hb1 hb2 => by omega)
        replace va4 := va4.up hs14_43 (by omega)
        try replace hlm2 := hlm2.trans hs14_43 (fun b hb0 hb1 => hb1) (fun b hb0 hb1 => by omega)
        try replace hlm3 := hlm3.trans hs14_43 (fun b hb0 hb1 => hb1) (fun b hb0 hb1 => by omega)
        have hz17 := hs14_43.size
        refine LR.nil ?_
        refine hK28 _ _ ?_
        refine hK27 _ _ ?_
        refine CW.region ?_
        refine LR.v (Y.move rfl rfl) (Wd.u rfl) rfl rfl ?_
        refine LR.v (Y.addi rfl rfl rfl (by omega)) (Wd.u rfl) rfl rfl ?_
        refine LR.v (Y.assign rfl rfl) (Wd.u rfl) rfl rfl ?_
        refine LR.nil ?_
        refine QN.sub (hN24 (i + 1, w.set i (word4 ((((m ++ padOf m.length).drop (64 * j)).take 64).getD (4 * i) 0) ((((m ++ padOf m.length).drop (64 * j)).take 64).getD (4 * i + 1) 0) ((((m ++ padOf m.length).drop (64 * j)).take 64).getD (4 * i + 2) 0) ((((m ++ padOf m.length).drop (64 * j)).take 64).getD (4 * i + 3) 0))) _ ?_ ?_) ⟨rfl, rfl, rfl, rfl, rfl, (iv (by omega)), (iv (by omega)), trivial⟩
        · exact ⟨(by omega), by simp [hwl], by rw [take_set_succ _ _ _ (by omega), first16_succ, hwt], va6, hlm3⟩
        · first | omega | (simp only; omega) | (simp; omega)
      ·
        obtain rfl : i = 16 := by omega
        refine CW.exit (hE25 (.exit 4) nofun _ _ (hE24 (.exit 4) nofun _ _ (hX23 _ _ ?_)))
        refine hK21 _ _ ?_
        refine CW.seq (fun K29 hK29 hE29 => ?_)
        refine CW.seq (fun K30 hK30 hE30 => ?_)
        refine CW.region ?_
        refine LR.v (Y.assign rfl rfl) (Wd.u rfl) rfl rfl ?_
        refine LR.nil ?_
        refine hK30 _ _ ?_
        refine CW.block (fun K31 hK31 hX31 hE31 => ?_)
        refine CW.loop (fun (s_ : (Nat) × (List UInt32)) => match s_ with | (i, w) => [(2, .pointer (some ⟨H0.size, 0, none⟩)), (3, .pointer (some ⟨H2.size, 0, none⟩)), (4, .pointer (some ⟨H1_2.size, 0, none⟩)), (5, v41), (6, .pointer (some ⟨H41.size, 0, none⟩)), (7, .int .i64 ((64 * j : Nat) : Int)), (9, .int .i64 i)])
          (fun (s_ : (Nat) × (List UInt32)) (H : Heap) => match s_ with | (i, w) => (16 ≤ i) ∧ (i ≤ 64) ∧ (w.length = 64) ∧ (w.take i = schedL (first16 (((m ++ padOf m.length).drop (64 * j)).take 64) 16) (i - 16)) ∧ (Var 86 H H41.size (w.map V32)) ∧ Mo (fun c => c = H41.size) HL3 H)
          (fun (s_ : (Nat) × (List UInt32)) => match s_ with | (i, w) => 64 - i) (16, w) ⟨rfl, rfl, rfl, rfl, rfl, rfl, rfl, trivial⟩ ?_ ?_
        ·
          exact ⟨(by omega), (by omega), hwl, hwt, va6, Mo.refl _ _⟩
        rintro ⟨i, w⟩ HL4 hI4 K32 hN32 hE32
        obtain ⟨hi0, hi, hwl, hwt, va6, hlm4⟩ := hI4
        replace hr := hr.up hlm4 (fun b hb0 hb1 hb2 => by omega)
        replace hm0 := hm0.trans hlm4 (fun b hb0 hb1 => hb1) (fun b hb0 hb1 => by omega)
        replace va2 := va2.up hlm4 (by omega)
        replace va3 := va3.up hlm4 (by omega)
        replace ow27 := ow27.up hlm4 (fun b hb0 hb1 hb2 => by omega)
        replace ow5 := ow5.up hlm4 (fun b hb0 hb1 hb2 => by omega)
        replace va4 := va4.up hlm4 (by omega)
        try replace hlm2 := hlm2.trans hlm4 (fun b hb0 hb1 => hb1) (fun b hb0 hb1 => by omega)
        have hz18 := hlm4.size
        have hlt_va6 := va6.lt
        refine CW.seq (fun K33 hK33 hE33 => ?_)
        refine CW.seq (fun K34 hK34 hE34 => ?_)
        refine CW.region ?_
        refine LR.v (Y.move rfl rfl) (Wd.u rfl) rfl rfl ?_
        refine LR.v (Y.lss rfl rfl rfl) (Wd.u rfl) rfl rfl ?_
        refine LR.nil ?_
        refine hK34 _ _ ?_
        refine CW.condp rfl (fun c96 => ?_) (fun c96 => ?_)
        ·
          refine CW.skip ?_
          refine hK33 _ _ ?_
          refine CW.seq (fun K35 hK35 hE35 => ?_)
          refine CW.block (fun K36 hK36 hX36 hE36 => ?_)
          refine CW.seq (fun K37 hK37 hE37 => ?_)
          refine CW.region_any (fun Hq => Nw HL4 Hq) [] rfl ?_
          have hqs := Nw.refl HL4
          refine LH.take 0 (by kernel_rfl) rfl (by kernel_rfl) (by kernel_rfl) (by kernel_rfl) (fun Hq hq => Y.move rfl rfl) (Wd.u rfl) rfl rfl hqs ?_
          refine LH.take 1 (by kernel_rfl) rfl (by kernel_rfl) (by kernel_rfl) (by kernel_rfl) (fun Hq hq => Y.subi rfl rfl rfl (by omega)) (Wd.u rfl) rfl rfl hqs ?_
          refine LH.take 2 (by kernel_rfl) rfl (by kernel_rfl) (by kernel_rfl) (by kernel_rfl) (fun Hq hq => Y.arrAddr (va6.pt.nw hq) (i - 15) rfl Try.runUnderlying86 Try.sizeOf85 rfl rfl (by omega) (by first | omega | (simp; omega) | (simp; done))) (Wd.u rfl) rfl rfl hqs ?_
          refine LH.take 3 (by kernel_rfl) rfl (by kernel_rfl) (by kernel_rfl) (by kernel_rfl) (fun Hq hq => Y.load1 ((va6.pt.at (i - 15) (map_get w (i - 15) (by omega))).nw hq) rfl Try.isAgg85 rfl) (Wd.u rfl) rfl rfl hqs ?_
          refine LH.take 5 (by kernel_rfl) rfl (by kernel_rfl) (by kernel_rfl) (by kernel_rfl) (fun Hq hq => Y.move rfl rfl) (Wd.u rfl) rfl rfl hqs ?_
          refine LH.take 6 (by kernel_rfl) rfl (by kernel_rfl) (by kernel_rfl) (by kernel_rfl) (fun Hq hq => Y.subi rfl rfl rfl (by omega)) (Wd.u rfl) rfl rfl hqs ?_
          refine LH.take 7 (by kernel_rfl) rfl (by kernel_rfl) (by kernel_rfl) (by kernel_rfl) (fun Hq hq => Y.arrAddr (va6.pt.nw hq) (i - 15) rfl Try.runUnderlying86 Try.sizeOf85 rfl rfl (by omega) (by first | omega | (simp; omega) | (simp; done))) (Wd.u rfl) rfl rfl hqs ?_
          refine LH.take 8 (by kernel_rfl) rfl (by kernel_rfl) (by kernel_rfl) (by kernel_rfl) (fun Hq hq => Y.load1 ((va6.pt.at (i - 15) (map_get w (i - 15) (by omega))).nw hq) rfl Try.isAgg85 rfl) (Wd.u rfl) rfl rfl hqs ?_
          refine LH.take 11 (by kernel_rfl) rfl (by kernel_rfl) (by kernel_rfl) (by kernel_rfl) (fun Hq hq => Y.move rfl rfl) (Wd.u rfl) rfl rfl hqs ?_
          refine LH.take 12 (by kernel_rfl) rfl (by kernel_rfl) (by kernel_rfl) (by kernel_rfl) (fun Hq hq => Y.subi rfl rfl rfl (by omega)) (Wd.u rfl) rfl rfl hqs ?_
          refine LH.take 13 (by kernel_rfl) rfl (by kernel_rfl) (by kernel_rfl) (by kernel_rfl) (fun Hq hq => Y.arrAddr (va6.pt.nw hq) (i - 15) rfl Try.runUnderlying86 Try.sizeOf85 rfl rfl (by omega) (by first | omega | (simp; omega) | (simp; done))) (Wd.u rfl) rfl rfl hqs ?_
          refine LH.take 14 (by kernel_rfl) rfl (by kernel_rfl) (by kernel_rfl) (by kernel_rfl) (fun Hq hq => Y.load1 ((va6.pt.at (i - 15) (map_get w (i - 15) (by omega))).nw hq) rfl Try.isAgg85 rfl) (Wd.u rfl) rfl rfl hqs ?_
          refine LH.take 15 (by kernel_rfl) rfl (by kernel_rfl) (by kernel_rfl) (by kernel_rfl) (fun Hq hq => Y.shr_u32 (3) rfl rfl rfl (by first | rfl | omega) (by omega)) (Wd.u rfl) rfl rfl hqs ?_
          refine LH.one (i := 4) (by kernel_rfl) ?_
          -- call selvage/selvageref1.turn
          refine LO.call rfl rfl Try.call49 rfl (Wd.u rfl) rfl rfl (rturn_nw _ 7 w0 _ (by omega) (by omega)) (fun v103 H103 r103 => ?_)
          obtain ⟨rfl, hs103⟩ := r103
          replace hr := hr.nw hs103
          replace hm0 := hm0.trans hs103 (fun b hb0 hb1 => hb1) (fun b hb0 hb1 => hb1.elim)
          replace va2 := va2.nw hs103
          replace va3 := va3.nw hs103
          replace ow27 := ow27.nw hs103
          replace ow5 := ow5.nw hs103
          replace va4 := va4.nw hs103
          try replace hlm2 := hlm2.trans hs103 (fun b hb0 hb1 => hb1) (fun b hb0 hb1 => hb1.elim)
          replace va6 := va6.nw hs103
          try replace hlm4 := hlm4.trans hs103 (fun b hb0 hb1 => hb1) (fun b hb0 hb1 => hb1.elim)
          have hz19 := hs103.size
          have hq103 := hqs.tr hs103
          refine ⟨.inr hq103, LH.narrow (SH2 := fun Hq => Nw H103 Hq) (fun Hq hq => hq103.tr hq) ?_⟩
          have hqn103 := Nw.refl H103
          refine LH.one (i := 9) (by kernel_rfl) ?_
          -- call selvage/selvageref1.turn
          refine LO.call rfl rfl Try.call49 rfl (Wd.u rfl) rfl rfl (rturn_nw _ 18 w0 _ (by omega) (by omega)) (fun v108 H108 r108 => ?_)
          obtain ⟨rfl, hs108⟩ := r108
          replace hr := hr.nw hs108
          replace hm0 := hm0.trans hs108 (fun b hb0 hb1 => hb1) (fun b hb0 hb1 => hb1.elim)
          replace va2 := va2.nw hs108
          replace va3 := va3.nw hs108
          replace ow27 := ow27.nw hs108
          replace ow5 := ow5.nw hs108
          replace va4 := va4.nw hs108
          try replace hlm2 := hlm2.trans hs108 (fun b hb0 hb1 => hb1) (fun b hb0 hb1 => hb1.elim)
          replace va6 := va6.nw hs108
          try replace hlm4 := hlm4.trans hs108 (fun b hb0 hb1 => hb1) (fun b hb0 hb1 => hb1.elim)
          have hz20 := hs108.size
          have hq108 := hqn103.tr hs108
          refine ⟨.inr hq108, LH.narrow (SH2 := fun Hq => Nw H108 Hq) (fun Hq hq => hq108.tr hq) ?_⟩
          have hqn108 := Nw.refl H108
          refine LH.take 10 (by kernel_rfl) rfl (by kernel_rfl) (by kernel_rfl) (by kernel_rfl) (fun Hq hq => Y.xor_u32 rfl rfl rfl) (Wd.u rfl) rfl rfl hqn108 ?_
          refine LH.take 16 (by kernel_rfl) rfl (by kernel_rfl) (by kernel_rfl) (by kernel_rfl) (fun Hq hq => Y.xor_u32 rfl rfl rfl) (Wd.u rfl) rfl rfl hqn108 ?_
          refine LH.take 17 (by kernel_rfl) rfl (by kernel_rfl) (by kernel_rfl) (by kernel_rfl) (fun Hq hq => Y.assign rfl rfl) (Wd.u rfl) rfl rfl hqn108 ?_
          refine LH.done (by kernel_rfl) ?_
          have hqe := hqn108
          refine hK37 _ _ ?_
          refine CW.seq (fun K38 hK38 hE38 => ?_)
          refine CW.region_any (fun Hq => Nw H108 Hq) [] rfl ?_
          have hqs := Nw.refl H108
          refine LH.take 0 (by kernel_rfl) rfl (by kernel_rfl) (by kernel_rfl) (by kernel_rfl) (fun Hq hq => Y.move rfl rfl) (Wd.u rfl) rfl rfl hqs ?_
          refine LH.take 1 (by kernel_rfl) rfl (by kernel_rfl) (by kernel_rfl) (by kernel_rfl) (fun Hq hq => Y.subi rfl rfl rfl (by omega)) (Wd.u rfl) rfl rfl hqs ?_
          refine LH.take 2 (by kernel_rfl) rfl (by kernel_rfl) (by kernel_rfl) (by kernel_rfl) (fun Hq hq => Y.arrAddr (va6.pt.nw hq) (i - 2) rfl Try.runUnderlying86 Try.sizeOf85 rfl rfl (by omega) (by first | omega | (simp; omega) | (simp; done))) (Wd.u rfl) rfl rfl hqs ?_
          refine LH.take 3 (by kernel_rfl) rfl (by kernel_rfl) (by kernel_rfl) (by kernel_rfl) (fun Hq hq => Y.load1 ((va6.pt.at (i - 2) (map_get w (i - 2) (by omega))).nw hq) rfl Try.isAgg85 rfl) (Wd.u rfl) rfl rfl hqs ?_
          refine LH.take 5 (by kernel_rfl) rfl (by kernel_rfl) (by kernel_rfl) (by kernel_rfl) (fun Hq hq => Y.move rfl rfl) (Wd.u rfl) rfl rfl hqs ?_
          refine LH.take 6 (by kernel_rfl) rfl (by kernel_rfl) (by kernel_rfl) (by kernel_rfl) (fun Hq hq => Y.subi rfl rfl rfl (by omega)) (Wd.u rfl) rfl rfl hqs ?_
          refine LH.take 7 (by kernel_rfl) rfl (by kernel_rfl) (by kernel_rfl) (by kernel_rfl) (fun Hq hq => Y.arrAddr (va6.pt.nw hq) (i - 2) rfl Try.runUnderlying86 Try.sizeOf85 rfl rfl (by omega) (by first | omega | (simp; omega) | (simp; done))) (Wd.u rfl) rfl rfl hqs ?_
          refine LH.take 8 (by kernel_rfl) rfl (by kernel_rfl) (by kernel_rfl) (by kernel_rfl) (fun Hq hq => Y.load1 ((va6.pt.at (i - 2) (map_get w (i - 2) (by omega))).nw hq) rfl Try.isAgg85 rfl) (Wd.u rfl) rfl rfl hqs ?_
          refine LH.take 11 (by kernel_rfl) rfl (by kernel_rfl) (by kernel_rfl) (by kernel_rfl) (fun Hq hq => Y.move rfl rfl) (Wd.u rfl) rfl rfl hqs ?_
          refine LH.take 12 (by kernel_rfl) rfl (by kernel_rfl) (by kernel_rfl) (by kernel_rfl) (fun Hq hq => Y.subi rfl rfl rfl (by omega)) (Wd.u rfl) rfl rfl hqs ?_
          refine LH.take 13 (by kernel_rfl) rfl (by kernel_rfl) (by kernel_rfl) (by kernel_rfl) (fun Hq hq => Y.arrAddr (va6.pt.nw hq) (i - 2) rfl Try.runUnderlying86 Try.sizeOf85 rfl rfl (by omega) (by first | omega | (simp; omega) | (simp; done))) (Wd.u rfl) rfl rfl hqs ?_
          refine LH.take 14 (by kernel_rfl) rfl (by kernel_rfl) (by kernel_rfl) (by kernel_rfl) (fun Hq hq => Y.load1 ((va6.pt.at (i - 2) (map_get w (i - 2) (by omega))).nw hq) rfl Try.isAgg85 rfl) (Wd.u rfl) rfl rfl hqs ?_
          refine LH.take 15 (by kernel_rfl) rfl (by kernel_rfl) (by kernel_rfl) (by kernel_rfl) (fun Hq hq => Y.shr_u32 (10) rfl rfl rfl (by first | rfl | omega) (by omega)) (Wd.u rfl) rfl rfl hqs ?_
          refine LH.one (i := 4) (by kernel_rfl) ?_
          -- call selvage/selvageref1.turn
          refine LO.call rfl rfl Try.call49 rfl (Wd.u rfl) rfl rfl (rturn_nw _ 17 w0 _ (by omega) (by omega)) (fun v120 H120 r120 => ?_)
          obtain ⟨rfl, hs120⟩ := r120
          replace hr := hr.nw hs120
          replace hm0 := hm0.trans hs120 (fun b hb0 hb1 => hb1) (fun b hb0 hb1 => hb1.elim)
          replace va2 := va2.nw hs120
          replace va3 := va3.nw hs120
          replace ow27 := ow27.nw hs120
          replace ow5 := ow5.nw hs120
          replace va4 := va4.nw hs120
          try replace hlm2 := hlm2.trans hs120 (fun b hb0 hb1 => hb1) (fun b hb0 hb1 => hb1.elim)
          replace va6 := va6.nw hs120
          try replace hlm4 := hlm4.trans hs120 (fun b hb0 hb1 => hb1) (fun b hb0 hb1 => hb1.elim)
          have hz21 := hs120.size
          have hq120 := hqs.tr hs120
          refine ⟨.inr hq120, LH.narrow (SH2 := fun Hq => Nw H120 Hq) (fun Hq hq => hq120.tr hq) ?_⟩
          have hqn120 := Nw.refl H120
          refine LH.one (i := 9) (by kernel_rfl) ?_
          -- call selvage/selvageref1.turn
          refine LO.call rfl rfl Try.call49 rfl (Wd.u rfl) rfl rfl (rturn_nw _ 19 w0 _ (by omega) (by omega)) (fun v125 H125 r125 => ?_)
          obtain ⟨rfl, hs125⟩ := r125
          replace hr := hr.nw hs125
          replace hm0 := hm0.trans hs125 (fun b hb0 hb1 => hb1) (fun b hb0 hb1 => hb1.elim)
          replace va2 := va2.nw hs125
          replace va3 := va3.nw hs125
          replace ow27 := ow27.nw hs125
          replace ow5 := ow5.nw hs125
          replace va4 := va4.nw hs125
          try replace hlm2 := hlm2.trans hs125 (fun b hb0 hb1 => hb1) (fun b hb0 hb1 => hb1.elim)
          replace va6 := va6.nw hs125
          try replace hlm4 := hlm4.trans hs125 (fun b hb0 hb1 => hb1) (fun b hb0 hb1 => hb1.elim)
          have hz22 := hs125.size
          have hq125 := hqn120.tr hs125
          refine ⟨.inr hq125, LH.narrow (SH2 := fun Hq => Nw H125 Hq) (fun Hq hq => hq125.tr hq) ?_⟩
          have hqn125 := Nw.refl H125
          refine LH.take 10 (by kernel_rfl) rfl (by kernel_rfl) (by kernel_rfl) (by kernel_rfl) (fun Hq hq => Y.xor_u32 rfl rfl rfl) (Wd.u rfl) rfl rfl hqn125 ?_
          refine LH.take 16 (by kernel_rfl) rfl (by kernel_rfl) (by kernel_rfl) (by kernel_rfl) (fun Hq hq => Y.xor_u32 rfl rfl rfl) (Wd.u rfl) rfl rfl hqn125 ?_
          refine LH.take 17 (by kernel_rfl) rfl (by kernel_rfl) (by kernel_rfl) (by kernel_rfl) (fun Hq hq => Y.assign rfl rfl) (Wd.u rfl) rfl rfl hqn125 ?_
          refine LH.done (by kernel_rfl) ?_
          have hqe := hqn125
          refine hK38 _ _ ?_
          refine CW.region_tail 15 rfl (by kernel_rfl) (fun T20 hT20 => ?_)
          refine LR.v (Y.move rfl rfl) (Wd.u rfl) rfl rfl ?_
          refine LR.v (Y.move rfl rfl) (Wd.u rfl) rfl rfl ?_
          refine LR.v (Y.subi rfl rfl rfl (by omega)) (Wd.u rfl) rfl rfl ?_
          refine LR.v (Y.arrAddr va6.pt (i - 16) rfl Try.runUnderlying86 Try.sizeOf85 rfl rfl (by omega) (by first | omega | (simp; omega) | (simp; done))) (Wd.u rfl) rfl rfl ?_
          refine LR.v (Y.load1 (va6.pt.at (i - 16) (map_get w (i - 16) (by omega))) rfl Try.isAgg85 rfl) (Wd.u rfl) rfl rfl ?_
          refine LR.v (Y.move rfl rfl) (Wd.u rfl) rfl rfl ?_
          refine LR.v (Y.add_u32 rfl rfl rfl) (Wd.u rfl) rfl rfl ?_
          refine LR.v (Y.move rfl rfl) (Wd.u rfl) rfl rfl ?_
          refine LR.v (Y.subi rfl rfl rfl (by omega)) (Wd.u rfl) rfl rfl ?_
          refine LR.v (Y.arrAddr va6.pt (i - 7) rfl Try.runUnderlying86 Try.sizeOf85 rfl rfl (by omega) (by first | omega | (simp; omega) | (simp; done))) (Wd.u rfl) rfl rfl ?_
          refine LR.v (Y.load1 (va6.pt.at (i - 7) (map_get w (i - 7) (by omega))) rfl Try.isAgg85 rfl) (Wd.u rfl) rfl rfl ?_
          refine LR.v (Y.add_u32 rfl rfl rfl) (Wd.u rfl) rfl rfl ?_
          refine LR.v (Y.move rfl rfl) (Wd.u rfl) rfl rfl ?_
          refine LR.v (Y.add_u32 rfl rfl rfl) (Wd.u rfl) rfl rfl ?_
          refine LR.v (Y.arrAddr va6.pt (i) rfl Try.runUnderlying86 Try.sizeOf85 rfl rfl (by omega) (by first | omega | (simp; omega) | (simp; done))) (Wd.u rfl) rfl rfl ?_
          refine LR.nil (hT20 _ ?_)
          refine LR.s (S.var1 va6 (0 + (i)) (_) rfl rfl rfl (rfl) Try.sizeOf85 (by simp; omega) (map_set w i _)) (Wd.u rfl) rfl (fun H20_15 r20_15 => ?_)
          obtain ⟨va6, hs20_15⟩ := r20_15
          replace hr := hr.up hs20_15 (fun b hb0 hb1 hb2 => by omega)
          replace hm0 := hm0.trans hs20_15 (fun b hb0 hb1 => hb1) (fun b hb0 hb1 => by omega)
          replace va2 := va2.up hs20_15 (by omega)
          replace va3 := va3.up hs20_15 (by omega)
          replace ow27 := ow27.up hs20_15 (fun b hb0 hb1 hb2 => by omega)
          replace ow5 := ow5.up hs20_15 (fun b hb0 hb1 hb2 => by omega)
          replace va4 := va4.up hs20_15 (by omega)
          try replace hlm2 := hlm2.trans hs20_15 (fun b hb0 hb1 => hb1) (fun b hb0 hb1 => by omega)
          try replace hlm4 := hlm4.trans hs20_15 (fun b hb0 hb1 => hb1) (fun b hb0 hb1 => by omega)
          have hz23 := hs20_15.size
          refine LR.nil ?_
          refine hK36 _ _ ?_
          refine hK35 _ _ ?_
          refine CW.region ?_
          refine LR.v (Y.move rfl rfl) (Wd.u rfl) rfl rfl ?_
          refine LR.v (Y.addi rfl rfl rfl (by omega)) (Wd.u rfl) rfl rfl ?_
          refine LR.v (Y.assign rfl rfl) (Wd.u rfl) rfl rfl ?_
          refine LR.nil ?_
          refine QN.sub (hN32 (i + 1, w.set i (nxt w i)) _ ?_ ?_) ⟨rfl, rfl, rfl, rfl, rfl, (iv (by omega)), (iv (by omega)), trivial⟩
          · exact ⟨(by omega), (by omega), by simp [hwl], by rw [take_set_succ _ _ _ (by omega), hwt, show i + 1 - 16 = (i - 16) + 1 by omega, schedL, ← hwt, grow_take w i hi0 (by omega)], va6, hlm4⟩
          · first | omega | (simp only; omega) | (simp; omega)
        ·
          obtain rfl : i = 64 := by omega
          rw [List.take_of_length_le (by omega)] at hwt
          refine CW.exit (hE33 (.exit 6) nofun _ _ (hE32 (.exit 6) nofun _ _ (hX31 _ _ ?_)))
          refine hK29 _ _ ?_
          refine CW.seq (fun K39 hK39 hE39 => ?_)
          refine CW.region ?_
          refine LR.v (Y.loadN va4.pt rfl Try.isAgg87 Try.sizeOf87 (rfl) rfl) (Wd.u rfl) rfl rfl ?_
          refine LR.z (Z.allocv rfl Try.zeroValue87) (Wd.u rfl) rfl rfl (fun v12 H12 r12 => ?_)
          obtain ⟨rfl, va12, hs12, ob12, hH12⟩ := r12
          have hzs12 : H12.size = HL4.size + 1 := by rw [hH12]; simp
          replace hr := hr.nw hs12
          replace hm0 := hm0.trans hs12 (fun b hb0 hb1 => hb1) (fun b hb0 hb1 => hb1.elim)
          replace va2 := va2.nw hs12
          replace va3 := va3.nw hs12
          replace ow27 := ow27.nw hs12
          replace ow5 := ow5.nw hs12
          replace va4 := va4.nw hs12
          try replace hlm2 := hlm2.trans hs12 (fun b hb0 hb1 => hb1) (fun b hb0 hb1 => hb1.elim)
          replace va6 := va6.nw hs12
          have hz24 := hs12.size
          have hlt_va12 := va12.lt
          replace va12 : Var 87 H12 HL4.size (List.replicate 8 (V32 0)) := va12
          refine LR.s (S.var va12 (st.list.map V32) (st.list.map V32) rfl rfl rfl rfl (by intro u hu; obtain ⟨x, _, rfl⟩ := List.mem_map.1 hu; rfl) Try.sizeOf87 (rfl) (Nat.le_of_ble_eq_true rfl) (by rfl)) (Wd.u rfl) rfl (fun H21_2 r21_2 => ?_)
          obtain ⟨va12, hs21_2⟩ := r21_2
          replace hr := hr.up hs21_2 (fun b hb0 hb1 hb2 => by omega)
          replace hm0 := hm0.trans hs21_2 (fun b hb0 hb1 => hb1) (fun b hb0 hb1 => by omega)
          replace va2 := va2.up hs21_2 (by omega)
          replace va3 := va3.up hs21_2 (by omega)
          replace ow27 := ow27.up hs21_2 (fun b hb0 hb1 hb2 => by omega)
          replace ow5 := ow5.up hs21_2 (fun b hb0 hb1 hb2 => by omega)
          replace va4 := va4.up hs21_2 (by omega)
          try replace hlm2 := hlm2.trans hs21_2 (fun b hb0 hb1 => hb1) (fun b hb0 hb1 => by omega)
          replace va6 := va6.up hs21_2 (by omega)
          have hz25 := hs21_2.size
          refine LR.nil ?_
          refine hK39 _ _ ?_
          refine CW.seq (fun K40 hK40 hE40 => ?_)
          refine CW.seq (fun K41 hK41 hE41 => ?_)
          refine CW.region ?_
          refine LR.v (Y.assign rfl rfl) (Wd.u rfl) rfl rfl ?_
          refine LR.nil ?_
          refine hK41 _ _ ?_
          refine CW.block (fun K42 hK42 hX42 hE42 => ?_)
          refine CW.loop (fun (s_ : (Nat) × (S8)) => match s_ with | (i, q) => [(2, .pointer (some ⟨H0.size, 0, none⟩)), (3, .pointer (some ⟨H2.size, 0, none⟩)), (4, .pointer (some ⟨H1_2.size, 0, none⟩)), (5, v41), (6, .pointer (some ⟨H41.size, 0, none⟩)), (7, .int .i64 ((64 * j : Nat) : Int)), (12, .pointer (some ⟨HL4.size, 0, none⟩)), (13, .int .i64 i)])
            (fun (s_ : (Nat) × (S8)) (H : Heap) => match s_ with | (i, q) => (i ≤ 64) ∧ (q = rndN st w i) ∧ (Var 87 H HL4.size (q.list.map V32)) ∧ Mo (fun c => c = HL4.size) H21_2 H)
            (fun (s_ : (Nat) × (S8)) => match s_ with | (i, q) => 64 - i) (0, st) ⟨rfl, rfl, rfl, rfl, rfl, rfl, rfl, rfl, trivial⟩ ?_ ?_
          ·
            exact ⟨(by omega), rfl, va12, Mo.refl _ _⟩
          rintro ⟨i, q⟩ HL5 hI5 K43 hN43 hE43
          obtain ⟨hi, hq, va12, hlm5⟩ := hI5
          replace hr := hr.up hlm5 (fun b hb0 hb1 hb2 => by omega)
          replace hm0 := hm0.trans hlm5 (fun b hb0 hb1 => hb1) (fun b hb0 hb1 => by omega)
          replace va2 := va2.up hlm5 (by omega)
          replace va3 := va3.up hlm5 (by omega)
          replace ow27 := ow27.up hlm5 (fun b hb0 hb1 hb2 => by omega)
          replace ow5 := ow5.up hlm5 (fun b hb0 hb1 hb2 => by omega)
          replace va4 := va4.up hlm5 (by omega)
          try replace hlm2 := hlm2.trans hlm5 (fun b hb0 hb1 => hb1) (fun b hb0 hb1 => by omega)
          replace va6 := va6.up hlm5 (by omega)
          have hz26 := hlm5.size
          have hlt_va12 := va12.lt
          refine CW.seq (fun K44 hK44 hE44 => ?_)
          refine CW.seq (fun K45 hK45 hE45 => ?_)
          refine CW.region ?_
          refine LR.v (Y.move rfl rfl) (Wd.u rfl) rfl rfl ?_
          refine LR.v (Y.lss rfl rfl rfl) (Wd.u rfl) rfl rfl ?_
          refine LR.nil ?_
          refine hK45 _ _ ?_
          refine CW.condp rfl (fun c150 => ?_) (fun c150 => ?_)
          ·
            refine CW.skip ?_
            refine hK44 _ _ ?_
            refine CW.seq (fun K46 hK46 hE46 => ?_)
            refine CW.block (fun K47 hK47 hX47 hE47 => ?_)
            refine CW.seq (fun K48 hK48 hE48 => ?_)
            refine CW.region_any (fun Hq => Nw HL5 Hq) [] rfl ?_
            have hqs := Nw.refl HL5
            refine LH.take 0 (by kernel_rfl) rfl (by kernel_rfl) (by kernel_rfl) (by kernel_rfl) (fun Hq hq => Y.arrAddr (va12.pt.nw hq) (4) rfl Try.runUnderlying87 Try.sizeOf85 rfl rfl (by first | rfl | omega) (by first | omega | (simp; omega) | (simp; done))) (Wd.u rfl) rfl rfl hqs ?_
            refine LH.take 1 (by kernel_rfl) rfl (by kernel_rfl) (by kernel_rfl) (by kernel_rfl) (fun Hq hq => Y.load1 ((va12.pt.drop 4).nw hq) rfl Try.isAgg85 rfl) (Wd.u rfl) rfl rfl hqs ?_
            refine LH.take 3 (by kernel_rfl) rfl (by kernel_rfl) (by kernel_rfl) (by kernel_rfl) (fun Hq hq => Y.arrAddr (va12.pt.nw hq) (4) rfl Try.runUnderlying87 Try.sizeOf85 rfl rfl (by first | rfl | omega) (by first | omega | (simp; omega) | (simp; done))) (Wd.u rfl) rfl rfl hqs ?_
            refine LH.take 4 (by kernel_rfl) rfl (by kernel_rfl) (by kernel_rfl) (by kernel_rfl) (fun Hq hq => Y.load1 ((va12.pt.drop 4).nw hq) rfl Try.isAgg85 rfl) (Wd.u rfl) rfl rfl hqs ?_
            refine LH.take 7 (by kernel_rfl) rfl (by kernel_rfl) (by kernel_rfl) (by kernel_rfl) (fun Hq hq => Y.arrAddr (va12.pt.nw hq) (4) rfl Try.runUnderlying87 Try.sizeOf85 rfl rfl (by first | rfl | omega) (by first | omega | (simp; omega) | (simp; done))) (Wd.u rfl) rfl rfl hqs ?_
            refine LH.take 8 (by kernel_rfl) rfl (by kernel_rfl) (by kernel_rfl) (by kernel_rfl) (fun Hq hq => Y.load1 ((va12.pt.drop 4).nw hq) rfl Try.isAgg85 rfl) (Wd.u rfl) rfl rfl hqs ?_
            refine LH.one (i := 2) (by kernel_rfl) ?_
            -- call selvage/selvageref1.turn
            refine LO.call rfl rfl Try.call49 rfl (Wd.u rfl) rfl rfl (rturn_nw _ 6 w0 _ (by omega) (by omega)) (fun v155 H155 r155 => ?_)
            obtain ⟨rfl, hs155⟩ := r155
            replace hr := hr.nw hs155
            replace hm0 := hm0.trans hs155 (fun b hb0 hb1 => hb1) (fun b hb0 hb1 => hb1.elim)
            replace va2 := va2.nw hs155
            replace va3 := va3.nw hs155
            replace ow27 := ow27.nw hs155
            replace ow5 := ow5.nw hs155
            replace va4 := va4.nw hs155
            try replace hlm2 := hlm2.trans hs155 (fun b hb0 hb1 => hb1) (fun b hb0 hb1 => hb1.elim)
            replace va6 := va6.nw hs155
            replace va12 := va12.nw hs155
            try replace hlm5 := hlm5.trans hs155 (fun b hb0 hb1 => hb1) (fun b hb0 hb1 => hb1.elim)
            have hz27 := hs155.size
            have hq155 := hqs.tr hs155
            refine ⟨.inr hq155, LH.narrow (SH2 := fun Hq => Nw H155 Hq) (fun Hq hq => hq155.tr hq) ?_⟩
            have hqn155 := Nw.refl H155
            refine LH.one (i := 5) (by kernel_rfl) ?_
            -- call selvage/selvageref1.turn
            refine LO.call rfl rfl Try.call49 rfl (Wd.u rfl) rfl rfl (rturn_nw _ 11 w0 _ (by omega) (by omega)) (fun v158 H158 r158 => ?_)
            obtain ⟨rfl, hs158⟩ := r158
            replace hr := hr.nw hs158
            replace hm0 := hm0.trans hs158 (fun b hb0 hb1 => hb1) (fun b hb0 hb1 => hb1.elim)
            replace va2 := va2.nw hs158
            replace va3 := va3.nw hs158
            replace ow27 := ow27.nw hs158
            replace ow5 := ow5.nw hs158
            replace va4 := va4.nw hs158
            try replace hlm2 := hlm2.trans hs158 (fun b hb0 hb1 => hb1) (fun b hb0 hb1 => hb1.elim)
            replace va6 := va6.nw hs158
            replace va12 := va12.nw hs158
            try replace hlm5 := hlm5.trans hs158 (fun b hb0 hb1 => hb1) (fun b hb0 hb1 => hb1.elim)
            have hz28 := hs158.size
            have hq158 := hqn155.tr hs158
            refine ⟨.inr hq158, LH.narrow (SH2 := fun Hq => Nw H158 Hq) (fun Hq hq => hq158.tr hq) ?_⟩
            have hqn158 := Nw.refl H158
            refine LH.take 6 (by kernel_rfl) rfl (by kernel_rfl) (by kernel_rfl) (by kernel_rfl) (fun Hq hq => Y.xor_u32 rfl rfl rfl) (Wd.u rfl) rfl rfl hqn158 ?_
            refine LH.one (i := 9) (by kernel_rfl) ?_
            -- call selvage/selvageref1.turn
            refine LO.call rfl rfl Try.call49 rfl (Wd.u rfl) rfl rfl (rturn_nw _ 25 w0 _ (by omega) (by omega)) (fun v162 H162 r162 => ?_)
            obtain ⟨rfl, hs162⟩ := r162
            replace hr := hr.nw hs162
            replace hm0 := hm0.trans hs162 (fun b hb0 hb1 => hb1) (fun b hb0 hb1 => hb1.elim)
            replace va2 := va2.nw hs162
            replace va3 := va3.nw hs162
            replace ow27 := ow27.nw hs162
            replace ow5 := ow5.nw hs162
            replace va4 := va4.nw hs162
            try replace hlm2 := hlm2.trans hs162 (fun b hb0 hb1 => hb1) (fun b hb0 hb1 => hb1.elim)
            replace va6 := va6.nw hs162
            replace va12 := va12.nw hs162
            try replace hlm5 := hlm5.trans hs162 (fun b hb0 hb1 => hb1) (fun b hb0 hb1 => hb1.elim)
            have hz29 := hs162.size
            have hq162 := hqn158.tr hs162
            refine ⟨.inr hq162, LH.narrow (SH2 := fun Hq => Nw H162 Hq) (fun Hq hq => hq162.tr hq) ?_⟩
            have hqn162 := Nw.refl H162
            refine LH.take 10 (by kernel_rfl) rfl (by kernel_rfl) (by kernel_rfl) (by kernel_rfl) (fun Hq hq => Y.xor_u32 rfl rfl rfl) (Wd.u rfl) rfl rfl hqn162 ?_
            refine LH.take 11 (by kernel_rfl) rfl (by kernel_rfl) (by kernel_rfl) (by kernel_rfl) (fun Hq hq => Y.assign rfl rfl) (Wd.u rfl) rfl rfl hqn162 ?_
            refine LH.done (by kernel_rfl) ?_
            have hqe := hqn162
            refine hK48 _ _ ?_
            refine CW.seq (fun K49 hK49 hE49 => ?_)
            refine CW.region ?_
            refine LR.v (Y.arrAddr va12.pt (4) rfl Try.runUnderlying87 Try.sizeOf85 rfl rfl (by first | rfl | omega) (by first | omega | (simp; omega) | (simp; done))) (Wd.u rfl) rfl rfl ?_
            refine LR.v (Y.load1 (va12.pt.drop 4) rfl Try.isAgg85 rfl) (Wd.u rfl) rfl rfl ?_
            refine LR.v (Y.arrAddr va12.pt (5) rfl Try.runUnderlying87 Try.sizeOf85 rfl rfl (by first | rfl | omega) (by first | omega | (simp; omega) | (simp; done))) (Wd.u rfl) rfl rfl ?_
            refine LR.v (Y.load1 (va12.pt.drop 5) rfl Try.isAgg85 rfl) (Wd.u rfl) rfl rfl ?_
            refine LR.v (Y.and_u32 rfl rfl rfl) (Wd.u rfl) rfl rfl ?_
            refine LR.v (Y.arrAddr va12.pt (4) rfl Try.runUnderlying87 Try.sizeOf85 rfl rfl (by first | rfl | omega) (by first | omega | (simp; omega) | (simp; done))) (Wd.u rfl) rfl rfl ?_
            refine LR.v (Y.load1 (va12.pt.drop 4) rfl Try.isAgg85 rfl) (Wd.u rfl) rfl rfl ?_
            refine LR.v (Y.not_u32 rfl rfl) (Wd.u rfl) rfl rfl ?_
            refine LR.v (Y.arrAddr va12.pt (6) rfl Try.runUnderlying87 Try.sizeOf85 rfl rfl (by first | rfl | omega) (by first | omega | (simp; omega) | (simp; done))) (Wd.u rfl) rfl rfl ?_
            refine LR.v (Y.load1 (va12.pt.drop 6) rfl Try.isAgg85 rfl) (Wd.u rfl) rfl rfl ?_
            refine LR.v (Y.and_u32 rfl rfl rfl) (Wd.u rfl) rfl rfl ?_
            refine LR.v (Y.xor_u32 rfl rfl rfl) (Wd.u rfl) rfl rfl ?_
            refine LR.v (Y.assign rfl rfl) (Wd.u rfl) rfl rfl ?_
            refine LR.nil ?_
            refine hK49 _ _ ?_
            refine CW.seq (fun K50 hK50 hE50 => ?_)
            refine CW.region_draw rfl (by kernel_rfl) ?_
            refine LR.v (Y.arrAddr va12.pt (7) rfl Try.runUnderlying87 Try.sizeOf85 rfl rfl (by first | rfl | omega) (by first | omega | (simp; omega) | (simp; done))) (Wd.u rfl) rfl rfl ?_
            refine LR.v (Y.load1 (va12.pt.drop 7) rfl Try.isAgg85 rfl) (Wd.u rfl) rfl rfl ?_
            refine LR.v (Y.move rfl rfl) (Wd.u rfl) rfl rfl ?_
            refine LR.v (Y.add_u32 rfl rfl rfl) (Wd.u rfl) rfl rfl ?_
            refine LR.v (Y.move rfl rfl) (Wd.u rfl) rfl rfl ?_
            refine LR.v (Y.add_u32 rfl rfl rfl) (Wd.u rfl) rfl rfl ?_
            refine LR.v (Y.move rfl rfl) (Wd.u rfl) rfl rfl ?_
            refine LR.v (Y.arrAddr va3.pt (i) rfl Try.runUnderlying86 Try.sizeOf85 rfl rfl (by first | rfl | omega) (by first | omega | (simp; omega) | (simp; done))) (Wd.u rfl) rfl rfl ?_
            refine LR.v (Y.load1 (va3.pt.at (i) (map_get KS i (by simp [KS]; omega))) rfl Try.isAgg85 rfl) (Wd.u rfl) rfl rfl ?_
            refine LR.v (Y.add_u32 rfl rfl rfl) (Wd.u rfl) rfl rfl ?_
            refine LR.v (Y.move rfl rfl) (Wd.u rfl) rfl rfl ?_
            refine LR.v (Y.arrAddr va6.pt (i) rfl Try.runUnderlying86 Try.sizeOf85 rfl rfl (by omega) (by first | omega | (simp; omega) | (simp; done))) (Wd.u rfl) rfl rfl ?_
            refine LR.v (Y.load1 (va6.pt.at (i) (map_get w (i) (by omega))) rfl Try.isAgg85 rfl) (Wd.u rfl) rfl rfl ?_
            refine LR.v (Y.add_u32 rfl rfl rfl) (Wd.u rfl) rfl rfl ?_
            refine LR.v (Y.assign rfl rfl) (Wd.u rfl) rfl rfl ?_
            refine LR.nil ?_
            refine hK50 _ _ ?_
            refine CW.seq (fun K51 hK51 hE51 => ?_)
            refine CW.region_any (fun Hq => Nw H162 Hq) [] rfl ?_
            have hqs := Nw.refl H162
            refine LH.take 0 (by kernel_rfl) rfl (by kernel_rfl) (by kernel_rfl) (by kernel_rfl) (fun Hq hq => Y.arrAddr (va12.pt.nw hq) (0) rfl Try.runUnderlying87 Try.sizeOf85 rfl rfl (by first | rfl | omega) (by first | omega | (simp; omega) | (simp; done))) (Wd.u rfl) rfl rfl hqs ?_
            refine LH.take 1 (by kernel_rfl) rfl (by kernel_rfl) (by kernel_rfl) (by kernel_rfl) (fun Hq hq => Y.load1 (va12.pt.nw hq) rfl Try.isAgg85 rfl) (Wd.u rfl) rfl rfl hqs ?_
            refine LH.take 3 (by kernel_rfl) rfl (by kernel_rfl) (by kernel_rfl) (by kernel_rfl) (fun Hq hq => Y.arrAddr (va12.pt.nw hq) (0) rfl Try.runUnderlying87 Try.sizeOf85 rfl rfl (by first | rfl | omega) (by first | omega | (simp; omega) | (simp; done))) (Wd.u rfl) rfl rfl hqs ?_
            refine LH.take 4 (by kernel_rfl) rfl (by kernel_rfl) (by kernel_rfl) (by kernel_rfl) (fun Hq hq => Y.load1 (va12.pt.nw hq) rfl Try.isAgg85 rfl) (Wd.u rfl) rfl rfl hqs ?_
            refine LH.take 7 (by kernel_rfl) rfl (by kernel_rfl) (by kernel_rfl) (by kernel_rfl) (fun Hq hq => Y.arrAddr (va12.pt.nw hq) (0) rfl Try.runUnderlying87 Try.sizeOf85 rfl rfl (by first | rfl | omega) (by first | omega | (simp; omega) | (simp; done))) (Wd.u rfl) rfl rfl hqs ?_
            refine LH.take 8 (by kernel_rfl) rfl (by kernel_rfl) (by kernel_rfl) (by kernel_rfl) (fun Hq hq => Y.load1 (va12.pt.nw hq) rfl Try.isAgg85 rfl) (Wd.u rfl) rfl rfl hqs ?_
            refine LH.one (i := 2) (by kernel_rfl) ?_
            -- call selvage/selvageref1.turn
            refine LO.call rfl rfl Try.call49 rfl (Wd.u rfl) rfl rfl (rturn_nw _ 2 w0 _ (by omega) (by omega)) (fun v192 H192 r192 => ?_)
            obtain ⟨rfl, hs192⟩ := r192
            replace hr := hr.nw hs192
            replace hm0 := hm0.trans hs192 (fun b hb0 hb1 => hb1) (fun b hb0 hb1 => hb1.elim)
            replace va2 := va2.nw hs192
            replace va3 := va3.nw hs192
            replace ow27 := ow27.nw hs192
            replace ow5 := ow5.nw hs192
            replace va4 := va4.nw hs192
            try replace hlm2 := hlm2.trans hs192 (fun b hb0 hb1 => hb1) (fun b hb0 hb1 => hb1.elim)
            replace va6 := va6.nw hs192
            replace va12 := va12.nw hs192
            try replace hlm5 := hlm5.trans hs192 (fun b hb0 hb1 => hb1) (fun b hb0 hb1 => hb1.elim)
            have hz30 := hs192.size
            have hq192 := hqs.tr hs192
            refine ⟨.inr hq192, LH.narrow (SH2 := fun Hq => Nw H192 Hq) (fun Hq hq => hq192.tr hq) ?_⟩
            have hqn192 := Nw.refl H192
            refine LH.one (i := 5) (by kernel_rfl) ?_
            -- call selvage/selvageref1.turn
            refine LO.call rfl rfl Try.call49 rfl (Wd.u rfl) rfl rfl (rturn_nw _ 13 w0 _ (by omega) (by omega)) (fun v195 H195 r195 => ?_)
            obtain ⟨rfl, hs195⟩ := r195
            replace hr := hr.nw hs195
            replace hm0 := hm0.trans hs195 (fun b hb0 hb1 => hb1) (fun b hb0 hb1 => hb1.elim)
            replace va2 := va2.nw hs195
            replace va3 := va3.nw hs195
            replace ow27 := ow27.nw hs195
            replace ow5 := ow5.nw hs195
            replace va4 := va4.nw hs195
            try replace hlm2 := hlm2.trans hs195 (fun b hb0 hb1 => hb1) (fun b hb0 hb1 => hb1.elim)
            replace va6 := va6.nw hs195
            replace va12 := va12.nw hs195
            try replace hlm5 := hlm5.trans hs195 (fun b hb0 hb1 => hb1) (fun b hb0 hb1 => hb1.elim)
            have hz31 := hs195.size
            have hq195 := hqn192.tr hs195
            refine ⟨.inr hq195, LH.narrow (SH2 := fun Hq => Nw H195 Hq) (fun Hq hq => hq195.tr hq) ?_⟩
            have hqn195 := Nw.refl H195
            refine LH.take 6 (by kernel_rfl) rfl (by kernel_rfl) (by kernel_rfl) (by kernel_rfl) (fun Hq hq => Y.xor_u32 rfl rfl rfl) (Wd.u rfl) rfl rfl hqn195 ?_
            refine LH.one (i := 9) (by kernel_rfl) ?_
            -- call selvage/selvageref1.turn
            refine LO.call rfl rfl Try.call49 rfl (Wd.u rfl) rfl rfl (rturn_nw _ 22 w0 _ (by omega) (by omega)) (fun v199 H199 r199 => ?_)
            obtain ⟨rfl, hs199⟩ := r199
            replace hr := hr.nw hs199
            replace hm0 := hm0.trans hs199 (fun b hb0 hb1 => hb1) (fun b hb0 hb1 => hb1.elim)
            replace va2 := va2.nw hs199
            replace va3 := va3.nw hs199
            replace ow27 := ow27.nw hs199
            replace ow5 := ow5.nw hs199
            replace va4 := va4.nw hs199
            try replace hlm2 := hlm2.trans hs199 (fun b hb0 hb1 => hb1) (fun b hb0 hb1 => hb1.elim)
            replace va6 := va6.nw hs199
            replace va12 := va12.nw hs199
            try replace hlm5 := hlm5.trans hs199 (fun b hb0 hb1 => hb1) (fun b hb0 hb1 => hb1.elim)
            have hz32 := hs199.size
            have hq199 := hqn195.tr hs199
            refine ⟨.inr hq199, LH.narrow (SH2 := fun Hq => Nw H199 Hq) (fun Hq hq => hq199.tr hq) ?_⟩
            have hqn199 := Nw.refl H199
            refine LH.take 10 (by kernel_rfl) rfl (by kernel_rfl) (by kernel_rfl) (by kernel_rfl) (fun Hq hq => Y.xor_u32 rfl rfl rfl) (Wd.u rfl) rfl rfl hqn199 ?_
            refine LH.take 11 (by kernel_rfl) rfl (by kernel_rfl) (by kernel_rfl) (by kernel_rfl) (fun Hq hq => Y.assign rfl rfl) (Wd.u rfl) rfl rfl hqn199 ?_
            refine LH.done (by kernel_rfl) ?_
            have hqe := hqn199
            refine hK51 _ _ ?_
            refine CW.seq (fun K52 hK52 hE52 => ?_)
            refine CW.region ?_
            refine LR.v (Y.arrAddr va12.pt (0) rfl Try.runUnderlying87 Try.sizeOf85 rfl rfl (by first | rfl | omega) (by first | omega | (simp; omega) | (simp; done))) (Wd.u rfl) rfl rfl ?_
            refine LR.v (Y.load1 va12.pt rfl Try.isAgg85 rfl) (Wd.u rfl) rfl rfl ?_
            refine LR.v (Y.arrAddr va12.pt (1) rfl Try.runUnderlying87 Try.sizeOf85 rfl rfl (by first | rfl | omega) (by first | omega | (simp; omega) | (simp; done))) (Wd.u rfl) rfl rfl ?_
            refine LR.v (Y.load1 (va12.pt.drop 1) rfl Try.isAgg85 rfl) (Wd.u rfl) rfl rfl ?_
            refine LR.v (Y.and_u32 rfl rfl rfl) (Wd.u rfl) rfl rfl ?_
            refine LR.v (Y.arrAddr va12.pt (0) rfl Try.runUnderlying87 Try.sizeOf85 rfl rfl (by first | rfl | omega) (by first | omega | (simp; omega) | (simp; done))) (Wd.u rfl) rfl rfl ?_
            refine LR.v (Y.load1 va12.pt rfl Try.isAgg85 rfl) (Wd.u rfl) rfl rfl ?_
            refine LR.v (Y.arrAddr va12.pt (2) rfl Try.runUnderlying87 Try.sizeOf85 rfl rfl (by first | rfl | omega) (by first | omega | (simp; omega) | (simp; done))) (Wd.u rfl) rfl rfl ?_
            refine LR.v (Y.load1 (va12.pt.drop 2) rfl Try.isAgg85 rfl) (Wd.u rfl) rfl rfl ?_
            refine LR.v (Y.and_u32 rfl rfl rfl) (Wd.u rfl) rfl rfl ?_
            refine LR.v (Y.xor_u32 rfl rfl rfl) (Wd.u rfl) rfl rfl ?_
            refine LR.v (Y.arrAddr va12.pt (1) rfl Try.runUnderlying87 Try.sizeOf85 rfl rfl (by first | rfl | omega) (by first | omega | (simp; omega) | (simp; done))) (Wd.u rfl) rfl rfl ?_
            refine LR.v (Y.load1 (va12.pt.drop 1) rfl Try.isAgg85 rfl) (Wd.u rfl) rfl rfl ?_
            refine LR.v (Y.arrAddr va12.pt (2) rfl Try.runUnderlying87 Try.sizeOf85 rfl rfl (by first | rfl | omega) (by first | omega | (simp; omega) | (simp; done))) (Wd.u rfl) rfl rfl ?_
            refine LR.v (Y.load1 (va12.pt.drop 2) rfl Try.isAgg85 rfl) (Wd.u rfl) rfl rfl ?_
            refine LR.v (Y.and_u32 rfl rfl rfl) (Wd.u rfl) rfl rfl ?_
            refine LR.v (Y.xor_u32 rfl rfl rfl) (Wd.u rfl) rfl rfl ?_
            refine LR.v (Y.assign rfl rfl) (Wd.u rfl) rfl rfl ?_
            refine LR.nil ?_
            refine hK52 _ _ ?_
            refine CW.region ?_
            refine LR.v (Y.arrAddr va12.pt (6) rfl Try.runUnderlying87 Try.sizeOf85 rfl rfl (by first | rfl | omega) (by first | omega | (simp; omega) | (simp; done))) (Wd.u rfl) rfl rfl ?_
            refine LR.v (Y.load1 (va12.pt.drop 6) rfl Try.isAgg85 rfl) (Wd.u rfl) rfl rfl ?_
            refine LR.v (Y.arrAddr va12.pt (5) rfl Try.runUnderlying87 Try.sizeOf85 rfl rfl (by first | rfl | omega) (by first | omega | (simp; omega) | (simp; done))) (Wd.u rfl) rfl rfl ?_
            refine LR.v (Y.load1 (va12.pt.drop 5) rfl Try.isAgg85 rfl) (Wd.u rfl) rfl rfl ?_
            refine LR.v (Y.arrAddr va12.pt (4) rfl Try.runUnderlying87 Try.sizeOf85 rfl rfl (by first | rfl | omega) (by first | omega | (simp; omega) | (simp; done))) (Wd.u rfl) rfl rfl ?_
            refine LR.v (Y.load1 (va12.pt.drop 4) rfl Try.isAgg85 rfl) (Wd.u rfl) rfl rfl ?_
            refine LR.v (Y.arrAddr va12.pt (3) rfl Try.runUnderlying87 Try.sizeOf85 rfl rfl (by first | rfl | omega) (by first | omega | (simp; omega) | (simp; done))) (Wd.u rfl) rfl rfl ?_
            refine LR.v (Y.load1 (va12.pt.drop 3) rfl Try.isAgg85 rfl) (Wd.u rfl) rfl rfl ?_
            refine LR.v (Y.move rfl rfl) (Wd.u rfl) rfl rfl ?_
            refine LR.v (Y.add_u32 rfl rfl rfl) (Wd.u rfl) rfl rfl ?_
            refine LR.v (Y.arrAddr va12.pt (2) rfl Try.runUnderlying87 Try.sizeOf85 rfl rfl (by first | rfl | omega) (by first | omega | (simp; omega) | (simp; done))) (Wd.u rfl) rfl rfl ?_
            refine LR.v (Y.load1 (va12.pt.drop 2) rfl Try.isAgg85 rfl) (Wd.u rfl) rfl rfl ?_
            refine LR.v (Y.arrAddr va12.pt (1) rfl Try.runUnderlying87 Try.sizeOf85 rfl rfl (by first | rfl | omega) (by first | omega | (simp; omega) | (simp; done))) (Wd.u rfl) rfl rfl ?_
            refine LR.v (Y.load1 (va12.pt.drop 1) rfl Try.isAgg85 rfl) (Wd.u rfl) rfl rfl ?_
            refine LR.v (Y.arrAddr va12.pt (0) rfl Try.runUnderlying87 Try.sizeOf85 rfl rfl (by first | rfl | omega) (by first | omega | (simp; omega) | (simp; done))) (Wd.u rfl) rfl rfl ?_
            refine LR.v (Y.load1 va12.pt rfl Try.isAgg85 rfl) (Wd.u rfl) rfl rfl ?_
            refine LR.v (Y.move rfl rfl) (Wd.u rfl) rfl rfl ?_
            refine LR.v (Y.move rfl rfl) (Wd.u rfl) rfl rfl ?_
            refine LR.v (Y.add_u32 rfl rfl rfl) (Wd.u rfl) rfl rfl ?_
            refine LR.v (Y.move rfl rfl) (Wd.u rfl) rfl rfl ?_
            refine LR.v (Y.cast (v2 := .int .u32 (one q (KS.getD i 0) (w.getD i 0) + two q).toNat) (Y.add_u32 rfl rfl rfl) (congrArg (fun z : UInt32 => Value.int .u32 z.toNat) (UInt32.add_assoc (one q (KS.getD i 0) (w.getD i 0)) _ _))) (Wd.u rfl) rfl rfl ?_
            refine LR.v (Y.arrAddr va12.pt (7) rfl Try.runUnderlying87 Try.sizeOf85 rfl rfl (by first | rfl | omega) (by first | omega | (simp; omega) | (simp; done))) (Wd.u rfl) rfl rfl ?_
            refine LR.s (S.var1 va12 7 (_) rfl rfl rfl (rfl) Try.sizeOf85 (by simp) (rfl)) (Wd.u rfl) rfl (fun H30_22 r30_22 => ?_)
            obtain ⟨va12, hs30_22⟩ := r30_22
            replace hr := hr.up hs30_22 (fun b hb0 hb1 hb2 => by omega)
            replace hm0 := hm0.trans hs30_22 (fun b hb0 hb1 => hb1) (fun b hb0 hb1 => by omega)
            replace va2 := va2.up hs30_22 (by omega)
            replace va3 := va3.up hs30_22 (by omega)
            replace ow27 := ow27.up hs30_22 (fun b hb0 hb1 hb2 => by omega)
            replace ow5 := ow5.up hs30_22 (fun b hb0 hb1 hb2 => by omega)
            replace va4 := va4.up hs30_22 (by omega)
            try replace hlm2 := hlm2.trans hs30_22 (fun b hb0 hb1 => hb1) (fun b hb0 hb1 => by omega)
            replace va6 := va6.up hs30_22 (by omega)
            try replace hlm5 := hlm5.trans hs30_22 (fun b hb0 hb1 => hb1) (fun b hb0 hb1 => by omega)
            have hz33 := hs30_22.size
            refine LR.v (Y.arrAddr va12.pt (6) rfl Try.runUnderlying87 Try.sizeOf85 rfl rfl (by first | rfl | omega) (by first | omega | (simp; omega) | (simp; done))) (Wd.u rfl) rfl rfl ?_
            refine LR.s (S.var1 va12 6 (_) rfl rfl rfl (rfl) Try.sizeOf85 (by simp) (rfl)) (Wd.u rfl) rfl (fun H30_24 r30_24 => ?_)
            obtain ⟨va12, hs30_24⟩ := r30_24
            replace hr := hr.up hs30_24 (fun b hb0 hb1 hb2 => by omega)
            replace hm0 := hm0.trans hs30_24 (fun b hb0 hb1 => hb1) (fun b hb0 hb1 => by omega)
            replace va2 := va2.up hs30_24 (by omega)
            replace va3 := va3.up hs30_24 (by omega)
            replace ow27 := ow27.up hs30_24 (fun b hb0 hb1 hb2 => by omega)
            replace ow5 := ow5.up hs30_24 (fun b hb0 hb1 hb2 => by omega)
            replace va4 := va4.up hs30_24 (by omega)
            try replace hlm2 := hlm2.trans hs30_24 (fun b hb0 hb1 => hb1) (fun b hb0 hb1 => by omega)
            replace va6 := va6.up hs30_24 (by omega)
            try replace hlm5 := hlm5.trans hs30_24 (fun b hb0 hb1 => hb1) (fun b hb0 hb1 => by omega)
            have hz34 := hs30_24.size
            refine LR.v (Y.arrAddr va12.pt (5) rfl Try.runUnderlying87 Try.sizeOf85 rfl rfl (by first | rfl | omega) (by first | omega | (simp; omega) | (simp; done))) (Wd.u rfl) rfl rfl ?_
            refine LR.s (S.var1 va12 5 (_) rfl rfl rfl (rfl) Try.sizeOf85 (by simp) (rfl)) (Wd.u rfl) rfl (fun H30_26 r30_26 => ?_)
            obtain ⟨va12, hs30_26⟩ := r30_26
            replace hr := hr.up hs30_26 (fun b hb0 hb1 hb2 => by omega)
            replace hm0 := hm0.trans hs30_26 (fun b hb0 hb1 => hb1) (fun b hb0 hb1 => by omega)
            replace va2 := va2.up hs30_26 (by omega)
            replace va3 := va3.up hs30_26 (by omega)
            replace ow27 := ow27.up hs30_26 (fun b hb0 hb1 hb2 => by omega)
            replace ow5 := ow5.up hs30_26 (fun b hb0 hb1 hb2 => by omega)
            replace va4 := va4.up hs30_26 (by omega)
            try replace hlm2 := hlm2.trans hs30_26 (fun b hb0 hb1 => hb1) (fun b hb0 hb1 => by omega)
            replace va6 := va6.up hs30_26 (by omega)
            try replace hlm5 := hlm5.trans hs30_26 (fun b hb0 hb1 => hb1) (fun b hb0 hb1 => by omega)
            have hz35 := hs30_26.size
            refine LR.v (Y.arrAddr va12.pt (4) rfl Try.runUnderlying87 Try.sizeOf85 rfl rfl (by first | rfl | omega) (by first | omega | (simp; omega) | (simp; done))) (Wd.u rfl) rfl rfl ?_
            refine LR.s (S.var1 va12 4 (_) rfl rfl rfl (rfl) Try.sizeOf85 (by simp) (rfl)) (Wd.u rfl) rfl (fun H30_28 r30_28 => ?_)
            obtain ⟨va12, hs30_28⟩ := r30_28
            replace hr := hr.up hs30_28 (fun b hb0 hb1 hb2 => by omega)
            replace hm0 := hm0.trans hs30_28 (fun b hb0 hb1 => hb1) (fun b hb0 hb1 => by omega)
            replace va2 := va2.up hs30_28 (by omega)
            replace va3 := va3.up hs30_28 (by omega)
            replace ow27 := ow27.up hs30_28 (fun b hb0 hb1 hb2 => by omega)
            replace ow5 := ow5.up hs30_28 (fun b hb0 hb1 hb2 => by omega)
            replace va4 := va4.up hs30_28 (by omega)
            try replace hlm2 := hlm2.trans hs30_28 (fun b hb0 hb1 => hb1) (fun b hb0 hb1 => by omega)
            replace va6 := va6.up hs30_28 (by omega)
            try replace hlm5 := hlm5.trans hs30_28 (fun b hb0 hb1 => hb1) (fun b hb0 hb1 => by omega)
            have hz36 := hs30_28.size
            refine LR.v (Y.arrAddr va12.pt (3) rfl Try.runUnderlying87 Try.sizeOf85 rfl rfl (by first | rfl | omega) (by first | omega | (simp; omega) | (simp; done))) (Wd.u rfl) rfl rfl ?_
            refine LR.s (S.var1 va12 3 (_) rfl rfl rfl (rfl) Try.sizeOf85 (by simp) (rfl)) (Wd.u rfl) rfl (fun H30_30 r30_30 => ?_)
            obtain ⟨va12, hs30_30⟩ := r30_30
            replace hr := hr.up hs30_30 (fun b hb0 hb1 hb2 => by omega)
            replace hm0 := hm0.trans hs30_30 (fun b hb0 hb1 => hb1) (fun b hb0 hb1 => by omega)
            replace va2 := va2.up hs30_30 (by omega)
            replace va3 := va3.up hs30_30 (by omega)
            replace ow27 := ow27.up hs30_30 (fun b hb0 hb1 hb2 => by omega)
            replace ow5 := ow5.up hs30_30 (fun b hb0 hb1 hb2 => by omega)
            replace va4 := va4.up hs30_30 (by omega)
            try replace hlm2 := hlm2.trans hs30_30 (fun b hb0 hb1 => hb1) (fun b hb0 hb1 => by omega)
            replace va6 := va6.up hs30_30 (by omega)
            try replace hlm5 := hlm5.trans hs30_30 (fun b hb0 hb1 => hb1) (fun b hb0 hb1 => by omega)
            have hz37 := hs30_30.size
            refine LR.v (Y.arrAddr va12.pt (2) rfl Try.runUnderlying87 Try.sizeOf85 rfl rfl (by first | rfl | omega) (by first | omega | (simp; omega) | (simp; done))) (Wd.u rfl) rfl rfl ?_
            refine LR.s (S.var1 va12 2 (_) rfl rfl rfl (rfl) Try.sizeOf85 (by simp) (rfl)) (Wd.u rfl) rfl (fun H30_32 r30_32 => ?_)
            obtain ⟨va12, hs30_32⟩ := r30_32
            replace hr := hr.up hs30_32 (fun b hb0 hb1 hb2 => by omega)
            replace hm0 := hm0.trans hs30_32 (fun b hb0 hb1 => hb1) (fun b hb0 hb1 => by omega)
            replace va2 := va2.up hs30_32 (by omega)
            replace va3 := va3.up hs30_32 (by omega)
            replace ow27 := ow27.up hs30_32 (fun b hb0 hb1 hb2 => by omega)
            replace ow5 := ow5.up hs30_32 (fun b hb0 hb1 hb2 => by omega)
            replace va4 := va4.up hs30_32 (by omega)
            try replace hlm2 := hlm2.trans hs30_32 (fun b hb0 hb1 => hb1) (fun b hb0 hb1 => by omega)
            replace va6 := va6.up hs30_32 (by omega)
            try replace hlm5 := hlm5.trans hs30_32 (fun b hb0 hb1 => hb1) (fun b hb0 hb1 => by omega)
            have hz38 := hs30_32.size
            refine LR.v (Y.arrAddr va12.pt (1) rfl Try.runUnderlying87 Try.sizeOf85 rfl rfl (by first | rfl | omega) (by first | omega | (simp; omega) | (simp; done))) (Wd.u rfl) rfl rfl ?_
            refine LR.s (S.var1 va12 1 (_) rfl rfl rfl (rfl) Try.sizeOf85 (by simp) (rfl)) (Wd.u rfl) rfl (fun H30_34 r30_34 => ?_)
            obtain ⟨va12, hs30_34⟩ := r30_34
            replace hr := hr.up hs30_34 (fun b hb0 hb1 hb2 => by omega)
            replace hm0 := hm0.trans hs30_34 (fun b hb0 hb1 => hb1) (fun b hb0 hb1 => by omega)
            replace va2 := va2.up hs30_34 (by omega)
            replace va3 := va3.up hs30_34 (by omega)
            replace ow27 := ow27.up hs30_34 (fun b hb0 hb1 hb2 => by omega)
            replace ow5 := ow5.up hs30_34 (fun b hb0 hb1 hb2 => by omega)
            replace va4 := va4.up hs30_34 (by omega)
            try replace hlm2 := hlm2.trans hs30_34 (fun b hb0 hb1 => hb1) (fun b hb0 hb1 => by omega)
            replace va6 := va6.up hs30_34 (by omega)
            try replace hlm5 := hlm5.trans hs30_34 (fun b hb0 hb1 => hb1) (fun b hb0 hb1 => by omega)
            have hz39 := hs30_34.size
            refine LR.v (Y.arrAddr va12.pt (0) rfl Try.runUnderlying87 Try.sizeOf85 rfl rfl (by first | rfl | omega) (by first | omega | (simp; omega) | (simp; done))) (Wd.u rfl) rfl rfl ?_
            refine LR.s (S.var1 va12 0 (_) rfl rfl rfl (rfl) Try.sizeOf85 (by simp) (rfl)) (Wd.u rfl) rfl (fun H30_36 r30_36 => ?_)
            obtain ⟨va12, hs30_36⟩ := r30_36
            replace hr := hr.up hs30_36 (fun b hb0 hb1 hb2 => by omega)
            replace hm0 := hm0.trans hs30_36 (fun b hb0 hb1 => hb1) (fun b hb0 hb1 => by omega)
            replace va2 := va2.up hs30_36 (by omega)
            replace va3 := va3.up hs30_36 (by omega)
            replace ow27 := ow27.up hs30_36 (fun b hb0 hb1 hb2 => by omega)
            replace ow5 := ow5.up hs30_36 (fun b hb0 hb1 hb2 => by omega)
            replace va4 := va4.up hs30_36 (by omega)
            try replace hlm2 := hlm2.trans hs30_36 (fun b hb0 hb1 => hb1) (fun b hb0 hb1 => by omega)
            replace va6 := va6.up hs30_36 (by omega)
            try replace hlm5 := hlm5.trans hs30_36 (fun b hb0 hb1 => hb1) (fun b hb0 hb1 => by omega)
            have hz40 := hs30_36.size
            refine LR.nil ?_
            refine hK47 _ _ ?_
            refine hK46 _ _ ?_
            refine CW.region ?_
            refine LR.v (Y.move rfl rfl) (Wd.u rfl) rfl rfl ?_
            refine LR.v (Y.addi rfl rfl rfl (by omega)) (Wd.u rfl) rfl rfl ?_
            refine LR.v (Y.assign rfl rfl) (Wd.u rfl) rfl rfl ?_
            refine LR.nil ?_
            refine QN.sub (hN43 (i + 1, rnd q (KS.getD i 0) (w.getD i 0)) _ ?_ ?_) ⟨rfl, rfl, rfl, rfl, rfl, (iv (by omega)), rfl, (iv (by omega)), trivial⟩
            · exact ⟨(by omega), by rw [hq]; rfl, va12, hlm5⟩
            · first | omega | (simp only; omega) | (simp; omega)
          ·
            obtain rfl : i = 64 := by omega
            have hcm : add8 st q = compress st (((m ++ padOf m.length).drop (64 * j)).take 64) := by rw [hq, hwt]; rfl
            refine CW.exit (hE44 (.exit 8) nofun _ _ (hE43 (.exit 8) nofun _ _ (hX42 _ _ ?_)))
            refine hK40 _ _ ?_
            refine CW.seq (fun K53 hK53 hE53 => ?_)
            refine CW.region ?_
            refine LR.v (Y.assign rfl rfl) (Wd.u rfl) rfl rfl ?_
            refine LR.nil ?_
            refine hK53 _ _ ?_
            refine CW.block (fun K54 hK54 hX54 hE54 => ?_)
            refine CW.loop (fun (i : (Nat)) => [(2, .pointer (some ⟨H0.size, 0, none⟩)), (3, .pointer (some ⟨H2.size, 0, none⟩)), (4, .pointer (some ⟨H1_2.size, 0, none⟩)), (5, v41), (6, .pointer (some ⟨H41.size, 0, none⟩)), (7, .int .i64 ((64 * j : Nat) : Int)), (12, .pointer (some ⟨HL4.size, 0, none⟩)), (19, .int .i64 i)])
              (fun (i : (Nat)) (H : Heap) => (i ≤ 8) ∧ (Var 87 H H1_2.size ((addL st.list q.list i).map V32)) ∧ Mo (fun c => c = H1_2.size) HL5 H)
              (fun (i : (Nat)) => 8 - i) 0 ⟨rfl, rfl, rfl, rfl, rfl, rfl, rfl, rfl, trivial⟩ ?_ ?_
            ·
              exact ⟨(by omega), va4, Mo.refl _ _⟩
            intro i HL6 hI6 K55 hN55 hE55
            obtain ⟨hi, va4, hlm6⟩ := hI6
            replace hr := hr.up hlm6 (fun b hb0 hb1 hb2 => by omega)
            replace hm0 := hm0.trans hlm6 (fun b hb0 hb1 => hb1) (fun b hb0 hb1 => by omega)
            replace va2 := va2.up hlm6 (by omega)
            replace va3 := va3.up hlm6 (by omega)
            replace ow27 := ow27.up hlm6 (fun b hb0 hb1 hb2 => by omega)
            replace ow5 := ow5.up hlm6 (fun b hb0 hb1 hb2 => by omega)
            try replace hlm2 := hlm2.trans hlm6 (fun b hb0 hb1 => hb1) (fun b hb0 hb1 => by omega)
            replace va6 := va6.up hlm6 (by omega)
            replace va12 := va12.up hlm6 (by omega)
            have hz41 := hlm6.size
            have hlt_va4 := va4.lt
            have hal := addL_len st.list q.list i rfl rfl hi
            refine CW.seq (fun K56 hK56 hE56 => ?_)
            refine CW.seq (fun K57 hK57 hE57 => ?_)
            refine CW.region ?_
            refine LR.v (Y.move rfl rfl) (Wd.u rfl) rfl rfl ?_
            refine LR.v (Y.lss rfl rfl rfl) (Wd.u rfl) rfl rfl ?_
            refine LR.nil ?_
            refine hK57 _ _ ?_
            refine CW.condp rfl (fun c248 => ?_) (fun c248 => ?_)
            ·
              refine CW.skip ?_
              refine hK56 _ _ ?_
              refine CW.seq (fun K58 hK58 hE58 => ?_)
              refine CW.block (fun K59 hK59 hX59 hE59 => ?_)
              refine CW.region_tail 9 rfl (by kernel_rfl) (fun T34 hT34 => ?_)
              refine LR.v (Y.move rfl rfl) (Wd.u rfl) rfl rfl ?_
              refine LR.v (Y.move rfl rfl) (Wd.u rfl) rfl rfl ?_
              refine LR.v (Y.arrAddr va4.pt (i) rfl Try.runUnderlying87 Try.sizeOf85 rfl rfl (by first | rfl | omega) (by first | omega | (simp; omega) | (simp; done))) (Wd.u rfl) rfl rfl ?_
              refine LR.v (Y.cast (v2 := .int .u32 (st.list.getD i 0).toNat) (Y.load1 (va4.pt.at (i) (map_get _ i (by omega))) rfl Try.isAgg85 rfl) (by rw [addL_get st.list q.list i rfl rfl (by omega)])) (Wd.u rfl) rfl rfl ?_
              refine LR.v (Y.move rfl rfl) (Wd.u rfl) rfl rfl ?_
              refine LR.v (Y.arrAddr va12.pt (i) rfl Try.runUnderlying87 Try.sizeOf85 rfl rfl (by first | rfl | omega) (by first | omega | (simp; omega) | (simp; done))) (Wd.u rfl) rfl rfl ?_
              refine LR.v (Y.load1 (va12.pt.at (i) (map_get q.list i (by simp; omega))) rfl Try.isAgg85 rfl) (Wd.u rfl) rfl rfl ?_
              refine LR.v (Y.add_u32 rfl rfl rfl) (Wd.u rfl) rfl rfl ?_
              refine LR.v (Y.arrAddr va4.pt (i) rfl Try.runUnderlying87 Try.sizeOf85 rfl rfl (by first | rfl | omega) (by first | omega | (simp; omega) | (simp; done))) (Wd.u rfl) rfl rfl ?_
              refine LR.nil (hT34 _ ?_)
              refine LR.s (S.var1 va4 (0 + (i)) (_) rfl rfl rfl (rfl) Try.sizeOf85 (by simp; omega) (map_set _ i _)) (Wd.u rfl) rfl (fun H34_9 r34_9 => ?_)
              obtain ⟨va4, hs34_9⟩ := r34_9
              replace hr := hr.up hs34_9 (fun b hb0 hb1 hb2 => by omega)
              replace hm0 := hm0.trans hs34_9 (fun b hb0 hb1 => hb1) (fun b hb0 hb1 => by omega)
              replace va2 := va2.up hs34_9 (by omega)
              replace va3 := va3.up hs34_9 (by omega)
              replace ow27 := ow27.up hs34_9 (fun b hb0 hb1 hb2 => by omega)
              replace ow5 := ow5.up hs34_9 (fun b hb0 hb1 hb2 => by omega)
              try replace hlm2 := hlm2.trans hs34_9 (fun b hb0 hb1 => hb1) (fun b hb0 hb1 => by omega)
              replace va6 := va6.up hs34_9 (by omega)
              replace va12 := va12.up hs34_9 (by omega)
              try replace hlm6 := hlm6.trans hs34_9 (fun b hb0 hb1 => hb1) (fun b hb0 hb1 => by omega)
              have hz42 := hs34_9.size
              refine LR.nil ?_
              refine hK59 _ _ ?_
              refine hK58 _ _ ?_
              refine CW.region ?_
              refine LR.v (Y.move rfl rfl) (Wd.u rfl) rfl rfl ?_
              refine LR.v (Y.addi rfl rfl rfl (by omega)) (Wd.u rfl) rfl rfl ?_
              refine LR.v (Y.assign rfl rfl) (Wd.u rfl) rfl rfl ?_
              refine LR.nil ?_
              refine QN.sub (hN55 (i + 1) _ ?_ ?_) ⟨rfl, rfl, rfl, rfl, rfl, (iv (by omega)), rfl, (iv (by omega)), trivial⟩
              · exact ⟨(by omega), by rw [← addL_succ st.list q.list i rfl rfl (by omega)]; exact va4, hlm6⟩
              · first | omega | (simp only; omega) | (simp; omega)
            ·
              obtain rfl : i = 8 := by omega
              replace va4 : Var 87 HL6 H1_2.size ((add8 st q).list.map V32) := va4
              refine CW.exit (hE56 (.exit 10) nofun _ _ (hE55 (.exit 10) nofun _ _ (hX54 _ _ ?_)))
              refine hK20 _ _ ?_
              refine hK19 _ _ ?_
              refine CW.region ?_
              refine LR.v (Y.move rfl rfl) (Wd.u rfl) rfl rfl ?_
              refine LR.v (Y.addi rfl rfl rfl (by omega)) (Wd.u rfl) rfl rfl ?_
              refine LR.v (Y.assign rfl rfl) (Wd.u rfl) rfl rfl ?_
              refine LR.nil ?_
              refine QN.sub (hN16 (j + 1, compress st (((m ++ padOf m.length).drop (64 * j)).take 64), w) _ ?_ ?_) ⟨rfl, rfl, rfl, rfl, rfl, (iv (by omega)), trivial⟩
              · exact ⟨(by omega), run_take _ _ _ hst (by omega), (by omega), hcm ▸ va4, va6, hlm2⟩
              · first | omega | (simp only; omega) | (simp; omega)
    ·
      have hjj : 64 * j = (m ++ padOf m.length).length := by omega
      rw [hjj, List.take_of_length_le (Nat.le_refl _)] at hst
      have hso : outL st.list = sumOf m := by rw [sumOf, hst]
      refine CW.exit (hE17 (.exit 2) nofun _ _ (hE16 (.exit 2) nofun _ _ (hX15 _ _ ?_)))
      refine hK13 _ _ ?_
      refine CW.seq (fun K60 hK60 hE60 => ?_)
      refine CW.region ?_
      refine LR.z (Z.allocv rfl Try.zeroValue25) (Wd.u rfl) rfl rfl (fun v20 H20 r20 => ?_)
      obtain ⟨rfl, va20, hs20, ob20, hH20⟩ := r20
      have hzs20 : H20.size = HL2.size + 1 := by rw [hH20]; simp
      replace hr := hr.nw hs20
      replace hm0 := hm0.trans hs20 (fun b hb0 hb1 => hb1) (fun b hb0 hb1 => hb1.elim)
      replace va2 := va2.nw hs20
      replace va3 := va3.nw hs20
      replace ow27 := ow27.nw hs20
      replace ow5 := ow5.nw hs20
      replace va4 := va4.nw hs20
      replace va6 := va6.nw hs20
      have hz43 := hs20.size
      have hlt_va20 := va20.lt
      replace va20 : Var 25 H20 HL2.size ((List.replicate 32 (0 : UInt8)).map V8) := va20
      refine LR.nil ?_
      refine hK60 _ _ ?_
      refine CW.seq (fun K61 hK61 hE61 => ?_)
      refine CW.seq (fun K62 hK62 hE62 => ?_)
      refine CW.region ?_
      refine LR.v (Y.assign rfl rfl) (Wd.u rfl) rfl rfl ?_
      refine LR.nil ?_
      refine hK62 _ _ ?_
      refine CW.block (fun K63 hK63 hX63 hE63 => ?_)
      refine CW.loop (fun (s_ : (Nat) × (List UInt8)) => match s_ with | (i, o) => [(2, .pointer (some ⟨H0.size, 0, none⟩)), (4, .pointer (some ⟨H1_2.size, 0, none⟩)), (20, .pointer (some ⟨HL2.size, 0, none⟩)), (21, .int .i64 i)])
        (fun (s_ : (Nat) × (List UInt8)) (H : Heap) => match s_ with | (i, o) => (i ≤ 32) ∧ (o.length = 32) ∧ (o.take i = (outL st.list).take i) ∧ (Var 25 H HL2.size (o.map V8)) ∧ Mo (fun c => c = HL2.size) H20 H)
        (fun (s_ : (Nat) × (List UInt8)) => match s_ with | (i, o) => 32 - i) (0, List.replicate 32 0) ⟨rfl, rfl, rfl, rfl, trivial⟩ ?_ ?_
      ·
        exact ⟨(by omega), by simp, by simp, va20, Mo.refl _ _⟩
      rintro ⟨i, o⟩ HL7 hI7 K64 hN64 hE64
      obtain ⟨hi, hol, hot, va20, hlm7⟩ := hI7
      replace hr := hr.up hlm7 (fun b hb0 hb1 hb2 => by omega)
      replace hm0 := hm0.trans hlm7 (fun b hb0 hb1 => hb1) (fun b hb0 hb1 => by omega)
      replace va2 := va2.up hlm7 (by omega)
      replace va3 := va3.up hlm7 (by omega)
      replace ow27 := ow27.up hlm7 (fun b hb0 hb1 hb2 => by omega)
      replace ow5 := ow5.up hlm7 (fun b hb0 hb1 hb2 => by omega)
      replace va4 := va4.up hlm7 (by omega)
      replace va6 := va6.up hlm7 (by omega)
      have hz44 := hlm7.size
      have hlt_va20 := va20.lt
      refine CW.seq (fun K65 hK65 hE65 => ?_)
      refine CW.seq (fun K66 hK66 hE66 => ?_)
      refine CW.region ?_
      refine LR.v (Y.move rfl rfl) (Wd.u rfl) rfl rfl ?_
      refine LR.v (Y.lss rfl rfl rfl) (Wd.u rfl) rfl rfl ?_
      refine LR.nil ?_
      refine hK66 _ _ ?_
      refine CW.condp rfl (fun c261 => ?_) (fun c261 => ?_)
      ·
        refine CW.skip ?_
        refine hK65 _ _ ?_
        refine CW.seq (fun K67 hK67 hE67 => ?_)
        refine CW.block (fun K68 hK68 hX68 hE68 => ?_)
        refine CW.region ?_
        refine LR.v (Y.move rfl rfl) (Wd.u rfl) rfl rfl ?_
        refine LR.v (Y.move rfl rfl) (Wd.u rfl) rfl rfl ?_
        refine LR.v (Y.quoi rfl rfl rfl (by omega)) (Wd.u rfl) rfl rfl ?_
        refine LR.v (Y.arrAddr va4.pt (i / 4) rfl Try.runUnderlying87 Try.sizeOf85 rfl rfl (by omega) (by first | omega | (simp; omega) | (simp; done))) (Wd.u rfl) rfl rfl ?_
        refine LR.v (Y.load1 (va4.pt.at (i / 4) (map_get st.list (i / 4) (by simp; omega))) rfl Try.isAgg85 rfl) (Wd.u rfl) rfl rfl ?_
        refine LR.v (Y.move rfl rfl) (Wd.u rfl) rfl rfl ?_
        refine LR.v (Y.remi rfl rfl rfl (by omega)) (Wd.u rfl) rfl rfl ?_
        refine LR.v (Y.muli rfl rfl rfl (by omega)) (Wd.u rfl) rfl rfl ?_
        refine LR.v (Y.subi rfl rfl rfl (by omega)) (Wd.u rfl) rfl rfl ?_
        refine LR.v (Y.shr_u32 (24 - 8 * (i % 4)) rfl rfl rfl (by omega) (by omega)) (Wd.u rfl) rfl rfl ?_
        refine LR.v (Y.conv_u8 rfl Try.runUnderlying85 Try.runUnderlying5 rfl) (Wd.u rfl) rfl rfl ?_
        refine LR.v (Y.arrAddr va20.pt (i) rfl Try.runUnderlying25 Try.sizeOf5 rfl rfl (by first | rfl | omega) (by first | omega | (simp; omega) | (simp; done))) (Wd.u rfl) rfl rfl ?_
        refine LR.s (S.var1 va20 (0 + (i)) (_) rfl rfl rfl (rfl) Try.sizeOf5 (by simp; omega) (map_set8 o i _)) (Wd.u rfl) rfl (fun H39_12 r39_12 => ?_)
        obtain ⟨va20, hs39_12⟩ := r39_12
        replace hr := hr.up hs39_12 (fun b hb0 hb1 hb2 => by omega)
        replace hm0 := hm0.trans hs39_12 (fun b hb0 hb1 => hb1) (fun b hb0 hb1 => by omega)
        replace va2 := va2.up hs39_12 (by omega)
        replace va3 := va3.up hs39_12 (by omega)
        replace ow27 := ow27.up hs39_12 (fun b hb0 hb1 hb2 => by omega)
        replace ow5 := ow5.up hs39_12 (fun b hb0 hb1 hb2 => by omega)
        replace va4 := va4.up hs39_12 (by omega)
        replace va6 := va6.up hs39_12 (by omega)
        try replace hlm7 := hlm7.trans hs39_12 (fun b hb0 hb1 => hb1) (fun b hb0 hb1 => by omega)
        have hz45 := hs39_12.size
        refine LR.nil ?_
        refine hK68 _ _ ?_
        refine hK67 _ _ ?_
        refine CW.region ?_
        refine LR.v (Y.move rfl rfl) (Wd.u rfl) rfl rfl ?_
        refine LR.v (Y.addi rfl rfl rfl (by omega)) (Wd.u rfl) rfl rfl ?_
        refine LR.v (Y.assign rfl rfl) (Wd.u rfl) rfl rfl ?_
        refine LR.nil ?_
        refine QN.sub (hN64 (i + 1, o.set i (UInt8.ofNat (shrw_u32 (st.list.getD (i / 4) 0) (24 - 8 * (i % 4))).toNat)) _ ?_ ?_) ⟨rfl, rfl, rfl, (iv (by omega)), trivial⟩
        · exact ⟨(by omega), by simp [hol], take8_succ _ _ _ _ hot (by omega) (outL_get _ _ (by omega)), va20, hlm7⟩
        · first | omega | (simp only; omega) | (simp; omega)
      ·
        obtain rfl : i = 32 := by omega
        rw [List.take_of_length_le (by omega), List.take_of_length_le (by rw [outL_len]; omega), hso] at hot
        subst hot
        refine CW.exit (hE65 (.exit 12) nofun _ _ (hE64 (.exit 12) nofun _ _ (hX63 _ _ ?_)))
        refine hK61 _ _ ?_
        refine CW.seq (fun K69 hK69 hE69 => ?_)
        refine CW.region ?_
        refine LR.v (Y.loadN va20.pt rfl Try.isAgg25 Try.sizeOf25 (rfl) rfl) (Wd.u rfl) rfl rfl ?_
        refine LR.s (S.var va2 ((sumOf m).map V8) ((sumOf m).map V8) rfl rfl rfl rfl (by intro u hu; obtain ⟨x, _, rfl⟩ := List.mem_map.1 hu; rfl) Try.sizeOf25 (rfl) (Nat.le_of_ble_eq_true rfl) (by simp [splice, sumOf_len])) (Wd.u rfl) rfl (fun H40_1 r40_1 => ?_)
        obtain ⟨va2, hs40_1⟩ := r40_1
        replace hr := hr.up hs40_1 (fun b hb0 hb1 hb2 => by omega)
        replace hm0 := hm0.trans hs40_1 (fun b hb0 hb1 => hb1) (fun b hb0 hb1 => by omega)
        replace va3 := va3.up hs40_1 (by omega)
        replace ow27 := ow27.up hs40_1 (fun b hb0 hb1 hb2 => by omega)
        replace ow5 := ow5.up hs40_1 (fun b hb0 hb1 hb2 => by omega)
        replace va4 := va4.up hs40_1 (by omega)
        replace va6 := va6.up hs40_1 (by omega)
        replace va20 := va20.up hs40_1 (by omega)
        have hz46 := hs40_1.size
        refine LR.nil ?_
        refine hK69 _ _ ?_
        refine CW.ret (hret .ret (.inr rfl) _ _ _ (resC rfl rfl va2.pt Try.isAgg25 Try.sizeOf25 (by first | rfl | simp)) ?_)
        exact ⟨rfl, hm0⟩

end Go.Proofs.Ytegfnfhdgbcjbaa.SumF
