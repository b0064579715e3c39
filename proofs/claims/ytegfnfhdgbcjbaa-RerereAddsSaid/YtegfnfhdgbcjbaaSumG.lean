/-
  The program's sum of rows of bytes.
-/
import Derived.Test.YtegfnfhdgbcjbaaSumF
namespace Go.Proofs.Ytegfnfhdgbcjbaa.SumG
open Go.Proofs.Ytegfnfhdgbcjbaa.E Go.RowKit Go.Proofs.Ytegfnfhdgbcjbaa.SumA Go.Proofs.Ytegfnfhdgbcjbaa.SumB Go.Proofs.Ytegfnfhdgbcjbaa.SumC Go.Proofs.Ytegfnfhdgbcjbaa.SumD Go.Proofs.Ytegfnfhdgbcjbaa.SumE Go.Proofs.Ytegfnfhdgbcjbaa.SumF
set_option maxRecDepth 20000
set_option linter.unusedVariables false
set_option linter.unusedSimpArgs false
set_option linter.unusedSectionVars false
set_option maxRecDepth 100000 in
theorem inf22 : Inf Try.prog 22 5 1 1 := ⟨Try.underlying22, _, _, rfl, rfl, rfl, rfl, rfl⟩
set_option maxRecDepth 100000 in
theorem inf76 : Inf Try.prog 76 22 1 24 := ⟨Try.underlying76, _, _, rfl, rfl, rfl, rfl, rfl⟩

theorem zvHash : ∀ w, (zeroValue 99).run Try.prog w = .ok (.agg (hc (List.replicate 8 0) (List.replicate 64 0) 0 0).toArray) w := fun w => by kernel_rfl
theorem splice_all {cs vs : List Value} (h : cs.length = vs.length) : splice cs 0 vs = vs := by simp [splice, ← h]
theorem hc_one (s : List UInt32) (wt : List UInt8) (n : Nat) (al : UInt64) : ∀ u ∈ hc s wt n al, u.oneCell' = true := by
  intro u hu
  simp only [hc, List.mem_append, List.mem_map, List.mem_cons, List.not_mem_nil, or_false] at hu
  rcases hu with (⟨x, _, rfl⟩ | ⟨x, _, rfl⟩) | rfl | rfl <;> rfl
theorem run_mod_aux : ∀ (n : Nat) (s : S8) (b : List UInt8), b.length ≤ n → (run s b).2.length = b.length % 64 := by
  intro n
  induction n with
  | zero => intro s b h; rw [run_lt s b (by omega)]; simp only; omega
  | succ n ih =>
    intro s b h
    by_cases hb : b.length < 64
    · rw [run_lt s b hb]; simp only; omega
    · rw [run_ge s b (by omega), ih _ _ (by simp; omega)]; simp; omega
theorem run_mod (s : S8) (b : List UInt8) : (run s b).2.length = b.length % 64 := run_mod_aux _ s b (Nat.le_refl _)
theorem pad_set (z : Nat) : (List.replicate (1 + z) (0 : UInt8)).set 0 0x80 = 0x80 :: List.replicate z 0 := by rw [Nat.add_comm, List.replicate_succ, List.set_cons_zero]
theorem outL_at (s : List UInt32) (i k : Nat) (hi : i < 8) (hk : k < 4) : (outL s)[4 * i + k]? = some (UInt8.ofNat (shrw_u32 (s.getD i 0) (24 - 8 * k)).toNat) := by
  rw [outL_get s _ (by omega), show (4 * i + k) / 4 = i by omega, show (4 * i + k) % 4 = k by omega]

set_option maxHeartbeats 4000000 in
theorem psum_ct (hb : Nat) (m : List UInt8) (w0 : World) (H0 : Heap)
    (hS : HS H0 hb m (UInt64.ofNat m.length)) (hml : m.length ≤ 1099511627776) :
    Ct Try.prog w0 45 #[.pointer (some ⟨hb, 0, none⟩)] H0 (fun r H2 => r = .agg ((sumOf m).map V8).toArray ∧ Mo (fun c => False) H0 H2) := by
  refine Ct.enter (args := [.pointer (some ⟨hb, 0, none⟩)]) Try.func45 rfl rfl rfl ?_
  intro Q0 hret
  obtain ⟨wt, hwt, hv, hbuf⟩ := hS.ex
  have hn64 := run_rest IV m
  have hnm := run_mod IV m
  obtain ⟨n, hn⟩ : ∃ n, (run IV m).2.length = n := ⟨_, rfl⟩
  have hbuf0 := hbuf
  rw [hn] at hv hbuf hn64 hnm
  have hlt_hv := hv.lt
  have hlt_hS := hS.lt
  have hm0 : Mo (fun c => False) H0 H0 := Mo.refl _ _
  refine CW.seq (fun K1 hK1 hE1 => ?_)
  refine CW.region ?_
  refine LR.z (Z.allocv rfl Try.zeroValue25) (Wd.u rfl) rfl rfl (fun v2 H2 r2 => ?_)
  obtain ⟨rfl, va2, hs2, ob2, hH2⟩ := r2
  have hzs2 : H2.size = H0.size + 1 := by rw [hH2]; simp
  replace hv := hv.nw hs2
  replace hS := hS.nw hs2
  replace hm0 := hm0.trans hs2 (fun b hb0 hb1 => hb1) (fun b hb0 hb1 => hb1.elim)
  have hz1 := hs2.size
  have hlt_va2 := va2.lt
  replace va2 : Var 25 H2 H0.size ((List.replicate 32 (0 : UInt8)).map V8) := va2
  refine LR.nil ?_
  refine hK1 _ _ ?_
  refine CW.seq (fun K2 hK2 hE2 => ?_)
  refine CW.region ?_
  refine LR.v (Y.move rfl rfl) (Wd.u rfl) rfl rfl ?_
  refine LR.v (Y.nilCheck rfl rfl) (Wd.u rfl) rfl rfl ?_
  refine LR.v (Y.loadN hv.pt rfl Try.isAgg99 Try.sizeOf99 (hc_len rfl hwt) rfl) (Wd.u rfl) rfl rfl ?_
  refine LR.z (Z.allocv rfl zvHash) (Wd.u rfl) rfl rfl (fun v3 H3 r3 => ?_)
  obtain ⟨rfl, va3, hs3, ob3, hH3⟩ := r3
  have hzs3 : H3.size = H2.size + 1 := by rw [hH3]; simp
  replace hv := hv.nw hs3
  replace hS := hS.nw hs3
  replace hm0 := hm0.trans hs3 (fun b hb0 hb1 => hb1) (fun b hb0 hb1 => hb1.elim)
  replace va2 := va2.nw hs3
  have hz2 := hs3.size
  have hlt_va3 := va3.lt
  replace va3 : Var 99 H3 H2.size (hc (List.replicate 8 0) (List.replicate 64 0) 0 0) := va3
  refine LR.s (S.var va3 (hc (run IV m).1.list wt n (UInt64.ofNat m.length)) (hc (run IV m).1.list wt n (UInt64.ofNat m.length)) rfl rfl rfl rfl (hc_one _ _ _ _) Try.sizeOf99 (hc_len rfl hwt) (Nat.le_of_ble_eq_true rfl) (splice_all (by rw [hc_len (by simp) (by simp), hc_len rfl hwt]))) (Wd.u rfl) rfl (fun H1_4 r1_4 => ?_)
  obtain ⟨va3, hs1_4⟩ := r1_4
  replace hv := hv.up hs1_4 (by omega)
  replace hS := hS.up hs1_4 (by omega)
  replace hm0 := hm0.trans hs1_4 (fun b hb0 hb1 => hb1) (fun b hb0 hb1 => by omega)
  replace va2 := va2.up hs1_4 (by omega)
  have hz3 := hs1_4.size
  refine LR.nil ?_
  refine hK2 _ _ ?_
  refine CW.seq (fun K3 hK3 hE3 => ?_)
  have hpz : padZ m.length = (119 - m.length % 64) % 64 := rfl
  refine CW.region ?_
  refine LR.v (Y.fieldAddr va3.pt rfl Try.runUnderlying99 rfl rfl Try.sizeOf3 (by decide) rfl) (Wd.u rfl) rfl rfl ?_
  refine LR.v (Y.load1 (va3.pt.at 72 (hc_n rfl hwt)) rfl Try.isAgg3 rfl) (Wd.u rfl) rfl rfl ?_
  refine LR.v (Y.subi rfl rfl rfl (by omega)) (Wd.u rfl) rfl rfl ?_
  refine LR.v (Y.remi rfl rfl rfl (by omega)) (Wd.u rfl) rfl rfl ?_
  refine LR.v (Y.addi rfl rfl rfl (by omega)) (Wd.u rfl) rfl rfl ?_
  refine LR.z (Z.makew (1 + padZ m.length) ((0 : UInt8)) rfl inf22 Try.zeroValue5 rfl fB_len fB_one rfl rfl (by first | rfl | omega) (by omega) (by omega)) (Wd.u rfl) rfl rfl (fun v18 H18 r18 => ?_)
  obtain ⟨ow4, hs18, ob18, hH18⟩ := r18
  have hzs18 : H18.size = H1_4.size + 1 := by rw [hH18]; simp
  replace hv := hv.nw hs18
  replace hS := hS.nw hs18
  replace hm0 := hm0.trans hs18 (fun b hb0 hb1 => hb1) (fun b hb0 hb1 => hb1.elim)
  replace va2 := va2.nw hs18
  replace va3 := va3.nw hs18
  have hz4 := hs18.size
  have hle_ow4 := ow4.le
  refine LR.v (Y.assign rfl rfl) (Wd.u rfl) rfl rfl ?_
  refine LR.nil ?_
  refine hK3 _ _ ?_
  refine CW.seq (fun K4 hK4 hE4 => ?_)
  refine CW.region ?_
  refine LR.v (Y.move rfl rfl) (Wd.u rfl) rfl rfl ?_
  refine LR.v (Y.owAddr ow4 (0) rfl Try.runUnderlying22 Try.sizeOf5 rfl rfl (by first | rfl | omega) (by first | omega | (simp; omega) | (simp; done))) (Wd.u rfl) rfl rfl ?_
  refine LR.s (S.oww ow4 (0) 0 ((0x80 : UInt8)) rfl rfl rfl rfl Try.sizeOf5 (by first | omega | (simp; omega) | (simp; done)) (by decide) (rfl)) (Wd.u rfl) rfl (fun H3_2 r3_2 => ?_)
  obtain ⟨ow4, hs3_2⟩ := r3_2
  replace hv := hv.up hs3_2 (by omega)
  replace hS := hS.up hs3_2 (by omega)
  replace hm0 := hm0.trans hs3_2 (fun b hb0 hb1 => hb1) (fun b hb0 hb1 => by omega)
  replace va2 := va2.up hs3_2 (by omega)
  replace va3 := va3.up hs3_2 (by omega)
  have hz5 := hs3_2.size
  rw [pad_set] at ow4
  refine LR.nil ?_
  refine hK4 _ _ ?_
  refine CW.seq (fun K5 hK5 hE5 => ?_)
  refine CW.seq (fun K6 hK6 hE6 => ?_)
  refine CW.region ?_
  refine LR.v (Y.assign rfl rfl) (Wd.u rfl) rfl rfl ?_
  refine LR.nil ?_
  refine hK6 _ _ ?_
  refine CW.block (fun K7 hK7 hX7 hE7 => ?_)
  refine CW.loop (fun (s_ : (Nat) × (Value) × (Nat) × (List UInt8)) => match s_ with | (j, v', k', ys) => [(0, .pointer (some ⟨hb, 0, none⟩)), (2, .pointer (some ⟨H0.size, 0, none⟩)), (3, .pointer (some ⟨H2.size, 0, none⟩)), (4, v'), (5, .int .i64 (8 * (j : Int) - 8))])
    (fun (s_ : (Nat) × (Value) × (Nat) × (List UInt8)) (H : Heap) => match s_ with | (j, v', k', ys) => (j ≤ 8) ∧ (Ow k' 5 H fB 1 v' ys) ∧ (k' = 0 ∨ k' = H1_4.size + 1 ∨ H3_2.size < k') ∧ (ys ++ numL j (UInt64.ofNat (8 * m.length)) = (0x80 :: List.replicate (padZ m.length) (0 : UInt8)) ++ numL 8 (UInt64.ofNat (8 * m.length))) ∧ Mo (fun c => c = H1_4.size) H3_2 H)
    (fun (s_ : (Nat) × (Value) × (Nat) × (List UInt8)) => match s_ with | (j, v', k', ys) => j) (8, v18, H1_4.size + 1, (0x80 :: List.replicate (padZ m.length) (0 : UInt8))) ⟨rfl, rfl, rfl, rfl, rfl, trivial⟩ ?_ ?_
  ·
    exact ⟨(by omega), ow4, (by omega), rfl, Mo.refl _ _⟩
  rintro ⟨j, v', k', ys⟩ HL1 hI1 K8 hN8 hE8
  obtain ⟨hj, ow4, hk, hys, hlm1⟩ := hI1
  replace hv := hv.up hlm1 (by omega)
  replace hS := hS.up hlm1 (by omega)
  replace hm0 := hm0.trans hlm1 (fun b hb0 hb1 => hb1) (fun b hb0 hb1 => by omega)
  replace va2 := va2.up hlm1 (by omega)
  replace va3 := va3.up hlm1 (by omega)
  have hz6 := hlm1.size
  have hle_ow4 := ow4.le
  have hyl : ys.length + j = padZ m.length + 9 := by have := congrArg List.length hys; simpa [numL_len] using this
  have hpz2 : padZ m.length < 64 := by rw [padZ]; omega
  refine CW.seq (fun K9 hK9 hE9 => ?_)
  refine CW.seq (fun K10 hK10 hE10 => ?_)
  refine CW.region ?_
  refine LR.v (Y.move rfl rfl) (Wd.u rfl) rfl rfl ?_
  refine LR.v (Y.geq rfl rfl rfl) (Wd.u rfl) rfl rfl ?_
  refine LR.nil ?_
  refine hK10 _ _ ?_
  refine CW.condp rfl (fun c22 => ?_) (fun c22 => ?_)
  ·
    obtain ⟨j, rfl⟩ : ∃ q, j = q + 1 := ⟨j - 1, by omega⟩
    refine CW.skip ?_
    refine hK9 _ _ ?_
    refine CW.seq (fun K11 hK11 hE11 => ?_)
    refine CW.block (fun K12 hK12 hX12 hE12 => ?_)
    refine CW.region ?_
    refine LR.v (Y.move rfl rfl) (Wd.u rfl) rfl rfl ?_
    refine LR.v (Y.move rfl rfl) (Wd.u rfl) rfl rfl ?_
    refine LR.v (Y.nilCheck rfl rfl) (Wd.u rfl) rfl rfl ?_
    refine LR.v (Y.fieldAddr hv.pt rfl Try.runUnderlying99 rfl rfl Try.sizeOf84 (by decide) rfl) (Wd.u rfl) rfl rfl ?_
    refine LR.v (Y.load1 (hv.pt.at 73 (hc_all rfl hwt)) rfl Try.isAgg84 rfl) (Wd.u rfl) rfl rfl ?_
    refine LR.v (Y.cast (v2 := .int .u64 (UInt64.ofNat (8 * m.length)).toNat) (Y.mul_u64 (b := (UInt64.ofNat 8)) rfl rfl rfl) (by rw [← UInt64.ofNat_mul, Nat.mul_comm])) (Wd.u rfl) rfl rfl ?_
    refine LR.v (Y.move rfl rfl) (Wd.u rfl) rfl rfl ?_
    refine LR.v (Y.shr_u64 (8 * j) rfl rfl rfl (by first | rfl | omega) (by omega)) (Wd.u rfl) rfl rfl ?_
    refine LR.v (Y.conv_u8 rfl Try.runUnderlying84 Try.runUnderlying5 rfl) (Wd.u rfl) rfl rfl ?_
    refine LR.z (Z.litw _ ([UInt8.ofNat (shrw_u64 (UInt64.ofNat (8 * m.length)) (8 * j)).toNat]) rfl inf22 rfl rfl rfl (by decide) (by decide) fB_len fB_one (rfl)) (Wd.u rfl) rfl rfl (fun v34 H34 r34 => ?_)
    obtain ⟨ow34, hs34, ob34, hH34⟩ := r34
    have hzs34 : H34.size = HL1.size + 1 := by rw [hH34]; simp
    replace hv := hv.nw hs34
    replace hS := hS.nw hs34
    replace hm0 := hm0.trans hs34 (fun b hb0 hb1 => hb1) (fun b hb0 hb1 => hb1.elim)
    replace va2 := va2.nw hs34
    replace va3 := va3.nw hs34
    replace ow4 := ow4.nw hs34
    try replace hlm1 := hlm1.trans hs34 (fun b hb0 hb1 => hb1) (fun b hb0 hb1 => hb1.elim)
    have hz7 := hs34.size
    have hle_ow34 := ow34.le
    refine LR.z (Z.apnd ow4 ow34.rd rfl inf22 rfl rfl (by first | omega | (simp; omega)) (by first | omega | (simp; omega))) (Wd.u rfl) rfl rfl (fun v35 H35 r35 => ?_)
    obtain ⟨k35, ow35, hk35, hs35⟩ := r35
    replace hv := hv.up hs35 (by omega)
    replace hS := hS.up hs35 (by omega)
    replace hm0 := hm0.trans hs35 (fun b hb0 hb1 => hb1) (fun b hb0 hb1 => by omega)
    replace va2 := va2.up hs35 (by omega)
    replace va3 := va3.up hs35 (by omega)
    try replace hlm1 := hlm1.trans hs35 (fun b hb0 hb1 => hb1) (fun b hb0 hb1 => by omega)
    replace ow34 := ow34.up hs35 (fun b hb0 hb1 hb2 => by omega)
    have hz8 := hs35.size
    have hle_ow35 := ow35.le
    refine LR.v (Y.assign rfl rfl) (Wd.u rfl) rfl rfl ?_
    refine LR.nil ?_
    refine hK12 _ _ ?_
    refine hK11 _ _ ?_
    refine CW.region ?_
    refine LR.v (Y.move rfl rfl) (Wd.u rfl) rfl rfl ?_
    refine LR.v (Y.subi rfl rfl rfl (by omega)) (Wd.u rfl) rfl rfl ?_
    refine LR.v (Y.assign rfl rfl) (Wd.u rfl) rfl rfl ?_
    refine LR.nil ?_
    refine QN.sub (hN8 (j, v35, k35, ys ++ [UInt8.ofNat (shrw_u64 (UInt64.ofNat (8 * m.length)) (8 * j)).toNat]) _ ?_ ?_) ⟨rfl, rfl, rfl, rfl, (iv (by omega)), trivial⟩
    · exact ⟨(by omega), ow35, (by omega), by rw [← hys, List.append_assoc]; rfl, hlm1⟩
    · first | omega | (simp only; omega) | (simp; omega)
  ·
    obtain rfl : j = 0 := by omega
    rw [numL, List.append_nil] at hys
    replace hys : ys = padOf m.length := by rw [hys]; rfl
    subst hys
    refine CW.exit (hE9 (.exit 0) nofun _ _ (hE8 (.exit 0) nofun _ _ (hX7 _ _ ?_)))
    refine hK5 _ _ ?_
    refine CW.seq (fun K13 hK13 hE13 => ?_)
    refine CW.region ?_
    refine LR.v (Y.move rfl rfl) (Wd.u rfl) rfl rfl ?_
    refine LR.z (Z.litw _ ([((toSV v', padOf m.length) : SV × List UInt8)]) rfl inf76 rfl rfl rfl (by decide) (by decide) fP_len fP_one (by simp only [List.map_cons, List.map_nil, fP]; rw [ow4.sv, ow4.rd.cells1])) (Wd.u rfl) rfl rfl (fun v37 H37 r37 => ?_)
    obtain ⟨ow37, hs37, ob37, hH37⟩ := r37
    have hzs37 : H37.size = HL1.size + 1 := by rw [hH37]; simp
    replace hv := hv.nw hs37
    replace hS := hS.nw hs37
    replace hm0 := hm0.trans hs37 (fun b hb0 hb1 => hb1) (fun b hb0 hb1 => hb1.elim)
    replace va2 := va2.nw hs37
    replace va3 := va3.nw hs37
    replace ow4 := ow4.nw hs37
    have hz9 := hs37.size
    have hle_ow37 := ow37.le
    -- call (*selvage/sum.Hash).Write
    refine LR.call rfl Try.call44 rfl (Wd.u rfl) rfl rfl (write_ct H2.size _ m (UInt64.ofNat m.length) [((toSV v', padOf m.length) : SV × List UInt8)] w0 _ ⟨wt, hwt, hn ▸ va3, hbuf0⟩ (ow37.rd.imp (fun b _ h => by omega)) (by intro x hx; simp only [List.mem_singleton] at hx; subst hx; simp only; rw [ow4.sv]; exact ow4.rd.imp (fun b _ h => by omega))) (fun v38 H38 r38 => ?_)
    obtain ⟨rfl, hS3, hs38⟩ := r38
    have hct : m ++ cat [((toSV v', padOf m.length) : SV × List UInt8)] = m ++ padOf m.length := by simp [cat]
    rw [hct] at hS3
    obtain ⟨wt3, hwt3, va3, hbuf3⟩ := hS3.ex
    replace hv := hv.up hs38 (by omega)
    replace hS := hS.up hs38 (by omega)
    replace hm0 := hm0.trans hs38 (fun b hb0 hb1 => hb1) (fun b hb0 hb1 => by omega)
    replace va2 := va2.up hs38 (by omega)
    replace ow4 := ow4.up hs38 (fun b hb0 hb1 hb2 => by omega)
    replace ow37 := ow37.up hs38 (fun b hb0 hb1 hb2 => by omega)
    have hz10 := hs38.size
    refine LR.nil ?_
    refine hK13 _ _ ?_
    refine CW.seq (fun K14 hK14 hE14 => ?_)
    refine CW.region ?_
    refine LR.z (Z.allocv rfl Try.zeroValue25) (Wd.u rfl) rfl rfl (fun v6 H6 r6 => ?_)
    obtain ⟨rfl, va6, hs6, ob6, hH6⟩ := r6
    have hzs6 : H6.size = H38.size + 1 := by rw [hH6]; simp
    replace hv := hv.nw hs6
    replace hS := hS.nw hs6
    replace hm0 := hm0.trans hs6 (fun b hb0 hb1 => hb1) (fun b hb0 hb1 => hb1.elim)
    replace va2 := va2.nw hs6
    replace va3 := va3.nw hs6
    replace ow4 := ow4.nw hs6
    replace ow37 := ow37.nw hs6
    have hz11 := hs6.size
    have hlt_va6 := va6.lt
    replace va6 : Var 25 H6 H38.size ((List.replicate 32 (0 : UInt8)).map V8) := va6
    refine LR.nil ?_
    refine hK14 _ _ ?_
    refine CW.seq (fun K15 hK15 hE15 => ?_)
    refine CW.seq (fun K16 hK16 hE16 => ?_)
    refine CW.region ?_
    refine LR.v (Y.fieldAddr va3.pt rfl Try.runUnderlying99 rfl rfl Try.sizeOf87 (by decide) rfl) (Wd.u rfl) rfl rfl ?_
    refine LR.v (Y.cast (v2 := .agg ((run IV (m ++ padOf m.length)).1.list.map V32).toArray) (Y.loadN (va3.pt.take 8) rfl Try.isAgg87 Try.sizeOf87 (rfl) rfl) (rfl)) (Wd.u rfl) rfl rfl ?_
    refine LR.v (Y.move rfl rfl) (Wd.u rfl) rfl rfl ?_
    refine LR.nil ?_
    refine hK16 _ _ ?_
    refine CW.block (fun K17 hK17 hX17 hE17 => ?_)
    refine CW.loop (fun (s_ : (Nat) × (List UInt8)) => match s_ with | (i, o) => [(2, .pointer (some ⟨H0.size, 0, none⟩)), (6, .pointer (some ⟨H38.size, 0, none⟩)), (40, .agg ((run IV (m ++ padOf m.length)).1.list.map V32).toArray), (41, .int .i64 i)])
      (fun (s_ : (Nat) × (List UInt8)) (H : Heap) => match s_ with | (i, o) => (i ≤ 8) ∧ (o.length = 32) ∧ (o.take (4 * i) = (outL (run IV (m ++ padOf m.length)).1.list).take (4 * i)) ∧ (Var 25 H H38.size (o.map V8)) ∧ Mo (fun c => c = H38.size) H6 H)
      (fun (s_ : (Nat) × (List UInt8)) => match s_ with | (i, o) => 8 - i) (0, List.replicate 32 0) ⟨rfl, rfl, rfl, rfl, trivial⟩ ?_ ?_
    ·
      exact ⟨(by omega), by simp, by simp, va6, Mo.refl _ _⟩
    rintro ⟨i, o⟩ HL2 hI2 K18 hN18 hE18
    obtain ⟨hi, hol, hot, va6, hlm2⟩ := hI2
    replace hv := hv.up hlm2 (by omega)
    replace hS := hS.up hlm2 (by omega)
    replace hm0 := hm0.trans hlm2 (fun b hb0 hb1 => hb1) (fun b hb0 hb1 => by omega)
    replace va2 := va2.up hlm2 (by omega)
    replace va3 := va3.up hlm2 (by omega)
    replace ow4 := ow4.up hlm2 (fun b hb0 hb1 hb2 => by omega)
    replace ow37 := ow37.up hlm2 (fun b hb0 hb1 hb2 => by omega)
    have hz12 := hlm2.size
    have hlt_va6 := va6.lt
    refine CW.seq (fun K19 hK19 hE19 => ?_)
    refine CW.region ?_
    refine LR.v (Y.lss rfl rfl rfl) (Wd.u rfl) rfl rfl ?_
    refine LR.nil ?_
    refine hK19 _ _ ?_
    refine CW.seq (fun K20 hK20 hE20 => ?_)
    refine CW.condp rfl (fun c42 => ?_) (fun c42 => ?_)
    ·
      refine CW.skip ?_
      refine hK20 _ _ ?_
      refine CW.seq (fun K21 hK21 hE21 => ?_)
      refine CW.block (fun K22 hK22 hX22 hE22 => ?_)
      refine CW.seq (fun K23 hK23 hE23 => ?_)
      refine CW.region ?_
      refine LR.v (Y.move rfl rfl) (Wd.u rfl) rfl rfl ?_
      refine LR.v (Y.arrIndex (i) rfl Try.runUnderlying87 Try.sizeOf85 Try.isAgg85 rfl rfl (by first | rfl | omega) (by omega) ((by rw [List.getElem?_toArray]; exact map_get (run IV (m ++ padOf m.length)).1.list i (by simp; omega)))) (Wd.u rfl) rfl rfl ?_
      refine LR.v (Y.assign rfl rfl) (Wd.u rfl) rfl rfl ?_
      refine LR.v (Y.assign rfl rfl) (Wd.u rfl) rfl rfl ?_
      refine LR.nil ?_
      refine hK23 _ _ ?_
      refine CW.seq (fun K24 hK24 hE24 => ?_)
      refine CW.region ?_
      refine LR.v (Y.move rfl rfl) (Wd.u rfl) rfl rfl ?_
      refine LR.nil ?_
      refine hK24 _ _ ?_
      refine CW.block (fun K25 hK25 hX25 hE25 => ?_)
      refine CW.loop (fun (s_ : (Nat) × (List UInt8)) => match s_ with | (k, o) => [(2, .pointer (some ⟨H0.size, 0, none⟩)), (6, .pointer (some ⟨H38.size, 0, none⟩)), (7, .int .i64 i), (8, .int .u32 ((run IV (m ++ padOf m.length)).1.list.getD i 0).toNat), (40, .agg ((run IV (m ++ padOf m.length)).1.list.map V32).toArray), (41, .int .i64 i), (45, .int .i64 k)])
        (fun (s_ : (Nat) × (List UInt8)) (H : Heap) => match s_ with | (k, o) => (k ≤ 4) ∧ (o.length = 32) ∧ (o.take (4 * i + k) = (outL (run IV (m ++ padOf m.length)).1.list).take (4 * i + k)) ∧ (Var 25 H H38.size (o.map V8)) ∧ Mo (fun c => c = H38.size) HL2 H)
        (fun (s_ : (Nat) × (List UInt8)) => match s_ with | (k, o) => 4 - k) (0, o) ⟨rfl, rfl, rfl, rfl, rfl, rfl, rfl, trivial⟩ ?_ ?_
      ·
        exact ⟨(by omega), hol, hot, va6, Mo.refl _ _⟩
      rintro ⟨k, o⟩ HL3 hI3 K26 hN26 hE26
      obtain ⟨hk4, hol, hot, va6, hlm3⟩ := hI3
      replace hv := hv.up hlm3 (by omega)
      replace hS := hS.up hlm3 (by omega)
      replace hm0 := hm0.trans hlm3 (fun b hb0 hb1 => hb1) (fun b hb0 hb1 => by omega)
      replace va2 := va2.up hlm3 (by omega)
      replace va3 := va3.up hlm3 (by omega)
      replace ow4 := ow4.up hlm3 (fun b hb0 hb1 hb2 => by omega)
      replace ow37 := ow37.up hlm3 (fun b hb0 hb1 hb2 => by omega)
      try replace hlm2 := hlm2.trans hlm3 (fun b hb0 hb1 => hb1) (fun b hb0 hb1 => by omega)
      have hz13 := hlm3.size
      have hlt_va6 := va6.lt
      refine CW.seq (fun K27 hK27 hE27 => ?_)
      refine CW.region ?_
      refine LR.v (Y.lss rfl rfl rfl) (Wd.u rfl) rfl rfl ?_
      refine LR.nil ?_
      refine hK27 _ _ ?_
      refine CW.seq (fun K28 hK28 hE28 => ?_)
      refine CW.condp rfl (fun c46 => ?_) (fun c46 => ?_)
      ·
        refine CW.skip ?_
        refine hK28 _ _ ?_
        refine CW.seq (fun K29 hK29 hE29 => ?_)
        refine CW.block (fun K30 hK30 hX30 hE30 => ?_)
        refine CW.seq (fun K31 hK31 hE31 => ?_)
        refine CW.region ?_
        refine LR.v (Y.move rfl rfl) (Wd.u rfl) rfl rfl ?_
        refine LR.v (Y.assign rfl rfl) (Wd.u rfl) rfl rfl ?_
        refine LR.nil ?_
        refine hK31 _ _ ?_
        refine CW.region ?_
        refine LR.v (Y.move rfl rfl) (Wd.u rfl) rfl rfl ?_
        refine LR.v (Y.muli rfl rfl rfl (by omega)) (Wd.u rfl) rfl rfl ?_
        refine LR.v (Y.move rfl rfl) (Wd.u rfl) rfl rfl ?_
        refine LR.v (Y.addi rfl rfl rfl (by omega)) (Wd.u rfl) rfl rfl ?_
        refine LR.v (Y.move rfl rfl) (Wd.u rfl) rfl rfl ?_
        refine LR.v (Y.move rfl rfl) (Wd.u rfl) rfl rfl ?_
        refine LR.v (Y.muli rfl rfl rfl (by omega)) (Wd.u rfl) rfl rfl ?_
        refine LR.v (Y.subi rfl rfl rfl (by omega)) (Wd.u rfl) rfl rfl ?_
        refine LR.v (Y.shr_u32 (24 - 8 * k) rfl rfl rfl (by omega) (by omega)) (Wd.u rfl) rfl rfl ?_
        refine LR.v (Y.conv_u8 rfl Try.runUnderlying85 Try.runUnderlying5 rfl) (Wd.u rfl) rfl rfl ?_
        refine LR.v (Y.arrAddr va6.pt (4 * i + k) rfl Try.runUnderlying25 Try.sizeOf5 rfl rfl (by first | rfl | omega) (by first | omega | (simp; omega) | (simp; done))) (Wd.u rfl) rfl rfl ?_
        refine LR.s (S.var1 va6 (0 + (4 * i + k)) (_) rfl rfl rfl (rfl) Try.sizeOf5 (by simp; omega) (map_set8 o (4 * i + k) _)) (Wd.u rfl) rfl (fun H16_11 r16_11 => ?_)
        obtain ⟨va6, hs16_11⟩ := r16_11
        replace hv := hv.up hs16_11 (by omega)
        replace hS := hS.up hs16_11 (by omega)
        replace hm0 := hm0.trans hs16_11 (fun b hb0 hb1 => hb1) (fun b hb0 hb1 => by omega)
        replace va2 := va2.up hs16_11 (by omega)
        replace va3 := va3.up hs16_11 (by omega)
        replace ow4 := ow4.up hs16_11 (fun b hb0 hb1 hb2 => by omega)
        replace ow37 := ow37.up hs16_11 (fun b hb0 hb1 hb2 => by omega)
        try replace hlm2 := hlm2.trans hs16_11 (fun b hb0 hb1 => hb1) (fun b hb0 hb1 => by omega)
        try replace hlm3 := hlm3.trans hs16_11 (fun b hb0 hb1 => hb1) (fun b hb0 hb1 => by omega)
        have hz14 := hs16_11.size
        refine LR.nil ?_
        refine hK30 _ _ ?_
        refine hK29 _ _ ?_
        refine CW.region ?_
        refine LR.v (Y.addi rfl rfl rfl (by omega)) (Wd.u rfl) rfl rfl ?_
        refine LR.v (Y.move rfl rfl) (Wd.u rfl) rfl rfl ?_
        refine LR.nil ?_
        refine QN.sub (hN26 (k + 1, o.set (4 * i + k) (UInt8.ofNat (shrw_u32 ((run IV (m ++ padOf m.length)).1.list.getD i 0) (24 - 8 * k)).toNat)) _ ?_ ?_) ⟨rfl, rfl, (iv (by omega)), (iv (by omega)), rfl, (iv (by omega)), (iv (by omega)), trivial⟩
        · exact ⟨(by omega), by simp [hol], take8_succ o _ (4 * i + k) _ hot (by omega) (outL_at _ i k (by omega) (by omega)), va6, hlm3⟩
        · first | omega | (simp only; omega) | (simp; omega)
      ·
        obtain rfl : k = 4 := by omega
        rw [show 4 * i + 4 = 4 * (i + 1) by omega] at hot
        refine CW.exit (hE28 (.exit 4) nofun _ _ (hE26 (.exit 4) nofun _ _ (hX25 _ _ ?_)))
        refine hK22 _ _ ?_
        refine hK21 _ _ ?_
        refine CW.region ?_
        refine LR.v (Y.addi rfl rfl rfl (by omega)) (Wd.u rfl) rfl rfl ?_
        refine LR.v (Y.move rfl rfl) (Wd.u rfl) rfl rfl ?_
        refine LR.nil ?_
        refine QN.sub (hN18 (i + 1, o) _ ?_ ?_) ⟨rfl, rfl, rfl, (iv (by omega)), trivial⟩
        · exact ⟨(by omega), hol, hot, va6, hlm2⟩
        · first | omega | (simp only; omega) | (simp; omega)
    ·
      obtain rfl : i = 8 := by omega
      rw [List.take_of_length_le (by omega), List.take_of_length_le (by rw [outL_len]; omega), show outL (run IV (m ++ padOf m.length)).1.list = sumOf m from rfl] at hot
      subst hot
      refine CW.exit (hE20 (.exit 2) nofun _ _ (hE18 (.exit 2) nofun _ _ (hX17 _ _ ?_)))
      refine hK15 _ _ ?_
      refine CW.seq (fun K32 hK32 hE32 => ?_)
      refine CW.region ?_
      refine LR.v (Y.loadN va6.pt rfl Try.isAgg25 Try.sizeOf25 (rfl) rfl) (Wd.u rfl) rfl rfl ?_
      refine LR.s (S.var va2 ((sumOf m).map V8) ((sumOf m).map V8) rfl rfl rfl rfl (by intro u hu; obtain ⟨x, _, rfl⟩ := List.mem_map.1 hu; rfl) Try.sizeOf25 (rfl) (by simp [sumOf_len]) (by simp [splice, sumOf_len])) (Wd.u rfl) rfl (fun H19_1 r19_1 => ?_)
      obtain ⟨va2, hs19_1⟩ := r19_1
      replace hv := hv.up hs19_1 (by omega)
      replace hS := hS.up hs19_1 (by omega)
      replace hm0 := hm0.trans hs19_1 (fun b hb0 hb1 => hb1) (fun b hb0 hb1 => by omega)
      replace va3 := va3.up hs19_1 (by omega)
      replace ow4 := ow4.up hs19_1 (fun b hb0 hb1 hb2 => by omega)
      replace ow37 := ow37.up hs19_1 (fun b hb0 hb1 hb2 => by omega)
      replace va6 := va6.up hs19_1 (by omega)
      have hz15 := hs19_1.size
      refine LR.nil ?_
      refine hK32 _ _ ?_
      refine CW.ret (hret .ret (.inr rfl) _ _ _ (resC rfl rfl va2.pt Try.isAgg25 Try.sizeOf25 (by first | rfl | simp)) ?_)
      exact ⟨rfl, hm0⟩


theorem ofNat_zero_add (n : Nat) : (0 : UInt64) + UInt64.ofNat n = UInt64.ofNat n := by simp

theorem pof_ct (vl : Value) (l : List (SV × List UInt8)) (w0 : World) (H0 : Heap)
    (hl : RdT H0 fP 1 vl l) (hx : ∀ x ∈ l, RdT H0 fB 1 x.1.v x.2) (hml : (cat l).length ≤ 1099511627776) :
    Ct Try.prog w0 25 #[vl] H0 (fun r H2 => r = .agg ((sumOf (cat l)).map V8).toArray ∧ Mo (fun c => False) H0 H2) := by
  refine Ct.enter (args := [vl]) Try.func25 rfl rfl rfl ?_
  intro Q0 hret
  replace hl := hl.lt
  replace hx := fun x hx0 => (hx x hx0).lt
  have hm0 : Mo (fun c => False) H0 H0 := Mo.refl _ _
  refine CW.seq (fun K1 hK1 hE1 => ?_)
  refine CW.region ?_
  refine LR.z (Z.allocv rfl Try.zeroValue25) (Wd.u rfl) rfl rfl (fun v2 H2 r2 => ?_)
  obtain ⟨rfl, va2, hs2, ob2, hH2⟩ := r2
  have hzs2 : H2.size = H0.size + 1 := by rw [hH2]; simp
  replace hl := hl.nw hs2
  replace hx := fun x hx0 => (hx x hx0).up hs2 (fun b hb0 hb1 hb2 => hb2)
  replace hm0 := hm0.trans hs2 (fun b hb0 hb1 => hb1) (fun b hb0 hb1 => hb1.elim)
  have hz1 := hs2.size
  have hlt_va2 := va2.lt
  replace va2 : Var 25 H2 H0.size ((List.replicate 32 (0 : UInt8)).map V8) := va2
  refine LR.nil ?_
  refine hK1 _ _ ?_
  refine CW.seq (fun K2 hK2 hE2 => ?_)
  refine CW.region ?_
  -- call selvage/sum.New
  refine LR.call rfl Try.call43 rfl (Wd.u rfl) rfl rfl (new_ct w0 _) (fun v4 H4 r4 => ?_)
  obtain ⟨rfl, hS, hs4, hz4⟩ := r4
  replace hl := hl.nw hs4
  replace hx := fun x hx0 => (hx x hx0).up hs4 (fun b hb0 hb1 hb2 => hb2)
  replace hm0 := hm0.trans hs4 (fun b hb0 hb1 => hb1) (fun b hb0 hb1 => hb1.elim)
  replace va2 := va2.nw hs4
  have hz2 := hs4.size
  refine LR.v (Y.assign rfl rfl) (Wd.u rfl) rfl rfl ?_
  refine LR.nil ?_
  refine hK2 _ _ ?_
  refine CW.seq (fun K3 hK3 hE3 => ?_)
  refine CW.region ?_
  refine LR.v (Y.move rfl rfl) (Wd.u rfl) rfl rfl ?_
  refine LR.v (Y.move rfl rfl) (Wd.u rfl) rfl rfl ?_
  have hSl := hS.lt
  -- call (*selvage/sum.Hash).Write
  refine LR.call rfl Try.call44 rfl (Wd.u rfl) rfl rfl (write_ct H2.size _ [] 0 l w0 _ hS (hl.imp (fun b _ h => by omega)) (fun x hx0 => (hx x hx0).imp (fun b _ h => by omega))) (fun v7 H7 r7 => ?_)
  obtain ⟨rfl, hS, hs7⟩ := r7
  rw [List.nil_append, ofNat_zero_add] at hS
  replace hl := hl.up hs7 (fun b hb0 hb1 hb2 => by omega)
  replace hx := fun x hx0 => (hx x hx0).up hs7 (fun b hb0 hb1 hb2 => by omega)
  replace hm0 := hm0.trans hs7 (fun b hb0 hb1 => hb1) (fun b hb0 hb1 => by omega)
  replace va2 := va2.up hs7 (by omega)
  have hz3 := hs7.size
  refine LR.nil ?_
  refine hK3 _ _ ?_
  refine CW.seq (fun K4 hK4 hE4 => ?_)
  refine CW.region ?_
  refine LR.v (Y.move rfl rfl) (Wd.u rfl) rfl rfl ?_
  -- call (*selvage/sum.Hash).Sum
  refine LR.call rfl Try.call45 rfl (Wd.u rfl) rfl rfl (psum_ct _ (cat l) w0 _ hS hml) (fun v9 H9 r9 => ?_)
  obtain ⟨rfl, hs9⟩ := r9
  replace hl := hl.nw hs9
  replace hx := fun x hx0 => (hx x hx0).up hs9 (fun b hb0 hb1 hb2 => hb2)
  replace hm0 := hm0.trans hs9 (fun b hb0 hb1 => hb1) (fun b hb0 hb1 => hb1.elim)
  replace va2 := va2.nw hs9
  have hz4 := hs9.size
  refine LR.s (S.var va2 ((sumOf (cat l)).map V8) ((sumOf (cat l)).map V8) rfl rfl rfl rfl (by intro u hu; obtain ⟨x, _, rfl⟩ := List.mem_map.1 hu; rfl) Try.sizeOf25 (rfl) (by simp [sumOf_len]) (by simp [splice, sumOf_len])) (Wd.u rfl) rfl (fun H3_2 r3_2 => ?_)
  obtain ⟨va2, hs3_2⟩ := r3_2
  replace hl := hl.up hs3_2 (fun b hb0 hb1 hb2 => by omega)
  replace hx := fun x hx0 => (hx x hx0).up hs3_2 (fun b hb0 hb1 hb2 => by omega)
  replace hm0 := hm0.trans hs3_2 (fun b hb0 hb1 => hb1) (fun b hb0 hb1 => by omega)
  have hz5 := hs3_2.size
  refine LR.nil ?_
  refine hK4 _ _ ?_
  refine CW.ret (hret .ret (.inr rfl) _ _ _ (resC rfl rfl va2.pt Try.isAgg25 Try.sizeOf25 (by first | rfl | simp)) ?_)
  exact ⟨rfl, hm0⟩

end Go.Proofs.Ytegfnfhdgbcjbaa.SumG
