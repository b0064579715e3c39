/-
  Parse, and the document's Parse and Hex; Less.
-/
import Derived.Test.YtgcnkjnbdeihhaaSumK
namespace Go.Proofs.Ytgcnkjnbdeihhaa.SumL
open Go.Proofs.Ytgcnkjnbdeihhaa.E Go.RowKit Go.Proofs.Ytgcnkjnbdeihhaa.SumA Go.Proofs.Ytgcnkjnbdeihhaa.SumB Go.Proofs.Ytgcnkjnbdeihhaa.SumC Go.Proofs.Ytgcnkjnbdeihhaa.SumD Go.Proofs.Ytgcnkjnbdeihhaa.SumE Go.Proofs.Ytgcnkjnbdeihhaa.SumF Go.Proofs.Ytgcnkjnbdeihhaa.SumG Go.Proofs.Ytgcnkjnbdeihhaa.SumH Go.Proofs.Ytgcnkjnbdeihhaa.SumI Go.Proofs.Ytgcnkjnbdeihhaa.SumK
set_option linter.unusedVariables false
set_option linter.unusedSimpArgs false
set_option linter.unusedSectionVars false

theorem zid : Z32.map V8 = List.replicate 32 (Value.int .u8 0) := by simp [Z32]
theorem Z32_len : Z32.length = 32 := rfl
theorem not_ok_len {s : List UInt8} (h : ¬ s.length = 64) : ¬ hok s := fun k => h k.1
theorem not_ok_at {s : List UInt8} (i : Nat) (hi : i < 64) (h : 15 < (digw (s.getD i 0)).toNat) : ¬ hok s := fun k => by have := k.2 i hi; omega

theorem parse_ct (s : List UInt8) (w0 : World) (H0 : Heap)
    (hsl : s.length ≤ 9223372036854775807) :
    Ct Try.prog w0 15 #[Str s] H0 (fun r H2 => ∃ x : List UInt8, ∃ e : Int, r = .tuple #[idV x, .int .i64 e] ∧ (PR s x e) ∧ Mo (fun c => False) H0 H2) := by
  refine Ct.enter (args := [Str s]) Try.func15 rfl rfl rfl ?_
  intro Q0 hret
  have hm0 : Mo (fun c => False) H0 H0 := Mo.refl _ _
  refine CW.seq (fun K1 hK1 hE1 => ?_)
  refine CW.region ?_
  refine LR.z (Z.allocv rfl Try.zeroValue27) (Wd.u rfl) rfl rfl (fun v2 H2 r2 => ?_)
  obtain ⟨rfl, va2, hs2, ob2, hH2⟩ := r2
  have hzs2 : H2.size = H0.size + 1 := by rw [hH2]; simp
  replace hm0 := hm0.trans hs2 (fun b hb0 hb1 => hb1) (fun b hb0 hb1 => hb1.elim)
  have hz1 := hs2.size
  have hlt_va2 := va2.lt
  replace va2 : Var 27 H2 H0.size (Z32.map V8) := va2
  refine LR.v (Y.assign rfl rfl) (Wd.u rfl) rfl rfl ?_
  refine LR.nil ?_
  refine hK1 _ _ ?_
  refine CW.seq (fun K2 hK2 hE2 => ?_)
  refine CW.seq (fun K3 hK3 hE3 => ?_)
  refine CW.region ?_
  refine LR.v (Y.move rfl rfl) (Wd.u rfl) rfl rfl ?_
  refine LR.v (Y.slen rfl Try.runUnderlying9 rfl) (Wd.u rfl) rfl rfl ?_
  refine LR.v (Y.neq rfl rfl rfl) (Wd.u rfl) rfl rfl ?_
  refine LR.nil ?_
  refine hK3 _ _ ?_
  refine CW.condp rfl (fun c10 => ?_) (fun c10 => ?_)
  ·
    refine CW.seq (fun K4 hK4 hE4 => ?_)
    refine CW.region ?_
    refine LR.v (Y.build (v := idV Z32) rfl rfl (by intro w; kernel_rfl)) (Wd.u rfl) rfl rfl ?_
    refine LR.s (S.var va2 ((Z32).map V8) ((Z32).map V8) rfl rfl rfl rfl (by intro u hu; obtain ⟨x, _, rfl⟩ := List.mem_map.1 hu; rfl) Try.sizeOf27 (by simp [Z32_len]) (Nat.le_of_ble_eq_true rfl) (splice_all (by simp [Z32_len]))) (Wd.u rfl) rfl (fun H2_1 r2_1 => ?_)
    obtain ⟨va2, hs2_1⟩ := r2_1
    replace hm0 := hm0.trans hs2_1 (fun b hb0 hb1 => hb1) (fun b hb0 hb1 => by omega)
    have hz2 := hs2_1.size
    refine LR.v (Y.assign rfl rfl) (Wd.u rfl) rfl rfl ?_
    refine LR.nil ?_
    refine hK4 _ _ ?_
    refine CW.ret (hE2 .ret nofun _ _ (hret .ret (.inr rfl) _ _ _ (resCT rfl rfl va2.pt Try.isAgg27 Try.sizeOf27 (by first | rfl | simp) rfl) ?_))
    exact ⟨Z32, 1, rfl, .inr ⟨not_ok_len (by omega), rfl, rfl⟩, hm0⟩
  ·
    refine CW.skip ?_
    refine hK2 _ _ ?_
    refine CW.seq (fun K5 hK5 hE5 => ?_)
    refine CW.region ?_
    refine LR.z (Z.allocv rfl Try.zeroValue27) (Wd.u rfl) rfl rfl (fun v4 H4 r4 => ?_)
    obtain ⟨rfl, va4, hs4, ob4, hH4⟩ := r4
    have hzs4 : H4.size = H2.size + 1 := by rw [hH4]; simp
    replace hm0 := hm0.trans hs4 (fun b hb0 hb1 => hb1) (fun b hb0 hb1 => hb1.elim)
    replace va2 := va2.nw hs4
    have hz3 := hs4.size
    have hlt_va4 := va4.lt
    replace va4 : Var 27 H4 H2.size (Z32.map V8) := va4
    refine LR.nil ?_
    refine hK5 _ _ ?_
    refine CW.seq (fun K6 hK6 hE6 => ?_)
    refine CW.seq (fun K7 hK7 hE7 => ?_)
    refine CW.region ?_
    refine LR.v (Y.move rfl rfl) (Wd.u rfl) rfl rfl ?_
    refine LR.nil ?_
    refine hK7 _ _ ?_
    refine CW.block (fun K8 hK8 hX8 hE8 => ?_)
    -- WARN live slot not in fl: 29
    -- WARN live slot not in fl: 30
    refine CW.loop (fun (s_ : (Nat) × (List UInt8)) => match s_ with | (i, o) => [(0, Str s), (2, .pointer (some ⟨H0.size, 0, none⟩)), (4, .pointer (some ⟨H2.size, 0, none⟩)), (12, .int .i64 i)])
      (fun (s_ : (Nat) × (List UInt8)) (H : Heap) => match s_ with | (i, o) => (i ≤ 32) ∧ (o.length = 32) ∧ (o.take i = (pid s).take i) ∧ (∀ j, j < 2 * i → (digw (s.getD j 0)).toNat ≤ 15) ∧ (Var 27 H H2.size (o.map V8)) ∧ Mo (fun c => c = H2.size) H4 H)
      (fun (s_ : (Nat) × (List UInt8)) => match s_ with | (i, o) => 32 - i) (0, Z32) ⟨rfl, rfl, rfl, rfl, trivial⟩ ?_ ?_
    ·
      exact ⟨(by omega), rfl, by simp, fun j h => absurd h (by omega), va4, Mo.refl _ _⟩
    rintro ⟨i, o⟩ HL1 hI1 K9 hN9 hE9
    obtain ⟨hi, hol, hot, hdg, va4, hlm1⟩ := hI1
    replace hm0 := hm0.trans hlm1 (fun b hb0 hb1 => hb1) (fun b hb0 hb1 => by omega)
    replace va2 := va2.up hlm1 (by omega)
    have hz4 := hlm1.size
    have hlt_va4 := va4.lt
    refine CW.seq (fun K10 hK10 hE10 => ?_)
    refine CW.region ?_
    refine LR.v (Y.lss rfl rfl rfl) (Wd.u rfl) rfl rfl ?_
    refine LR.nil ?_
    refine hK10 _ _ ?_
    refine CW.seq (fun K11 hK11 hE11 => ?_)
    refine CW.condp rfl (fun c13 => ?_) (fun c13 => ?_)
    ·
      refine CW.skip ?_
      refine hK11 _ _ ?_
      refine CW.seq (fun K12 hK12 hE12 => ?_)
      refine CW.block (fun K13 hK13 hX13 hE13 => ?_)
      refine CW.seq (fun K14 hK14 hE14 => ?_)
      refine CW.region ?_
      refine LR.v (Y.move rfl rfl) (Wd.u rfl) rfl rfl ?_
      refine LR.v (Y.assign rfl rfl) (Wd.u rfl) rfl rfl ?_
      refine LR.nil ?_
      refine hK14 _ _ ?_
      refine CW.seq (fun K15 hK15 hE15 => ?_)
      refine CW.region_any (fun Hq => Nw HL1 Hq) [] rfl ?_
      have hqs := Nw.refl HL1
      refine LH.take 0 (by kernel_rfl) rfl (by kernel_rfl) (by kernel_rfl) (by kernel_rfl) (fun Hq hq => Y.move rfl rfl) (Wd.u rfl) rfl rfl hqs ?_
      refine LH.take 1 (by kernel_rfl) rfl (by kernel_rfl) (by kernel_rfl) (by kernel_rfl) (fun Hq hq => Y.move rfl rfl) (Wd.u rfl) rfl rfl hqs ?_
      refine LH.take 2 (by kernel_rfl) rfl (by kernel_rfl) (by kernel_rfl) (by kernel_rfl) (fun Hq hq => Y.muli rfl rfl rfl (by omega)) (Wd.u rfl) rfl rfl hqs ?_
      refine LH.take 3 (by kernel_rfl) rfl (by kernel_rfl) (by kernel_rfl) (by kernel_rfl) (fun Hq hq => Y.cast (v2 := .int .u8 (s.getD (2 * i) 0).toNat) (Y.sindex (2 * i) rfl Try.runUnderlying9 rfl rfl (by first | rfl | omega) (by omega)) (by rw [gd])) (Wd.u rfl) rfl rfl hqs ?_
      refine LH.take 5 (by kernel_rfl) rfl (by kernel_rfl) (by kernel_rfl) (by kernel_rfl) (fun Hq hq => Y.move rfl rfl) (Wd.u rfl) rfl rfl hqs ?_
      refine LH.take 6 (by kernel_rfl) rfl (by kernel_rfl) (by kernel_rfl) (by kernel_rfl) (fun Hq hq => Y.move rfl rfl) (Wd.u rfl) rfl rfl hqs ?_
      refine LH.take 7 (by kernel_rfl) rfl (by kernel_rfl) (by kernel_rfl) (by kernel_rfl) (fun Hq hq => Y.muli rfl rfl rfl (by omega)) (Wd.u rfl) rfl rfl hqs ?_
      refine LH.take 8 (by kernel_rfl) rfl (by kernel_rfl) (by kernel_rfl) (by kernel_rfl) (fun Hq hq => Y.addi rfl rfl rfl (by omega)) (Wd.u rfl) rfl rfl hqs ?_
      refine LH.take 9 (by kernel_rfl) rfl (by kernel_rfl) (by kernel_rfl) (by kernel_rfl) (fun Hq hq => Y.cast (v2 := .int .u8 (s.getD (2 * i + 1) 0).toNat) (Y.sindex (2 * i + 1) rfl Try.runUnderlying9 rfl rfl (by first | rfl | omega) (by omega)) (by rw [gd])) (Wd.u rfl) rfl rfl hqs ?_
      refine LH.one (i := 4) (by kernel_rfl) ?_
      -- call selvage/sum.digit
      refine LO.call rfl rfl Try.call24 rfl (Wd.u rfl) rfl rfl (digit_ct _ w0 _) (fun v19 H19 r19 => ?_)
      obtain ⟨rfl, hs19⟩ := r19
      replace hm0 := hm0.trans hs19 (fun b hb0 hb1 => hb1) (fun b hb0 hb1 => hb1.elim)
      replace va2 := va2.nw hs19
      replace va4 := va4.nw hs19
      try replace hlm1 := hlm1.trans hs19 (fun b hb0 hb1 => hb1) (fun b hb0 hb1 => hb1.elim)
      have hz5 := hs19.size
      have hq19 := hqs.tr hs19
      refine ⟨.inr hq19, LH.narrow (SH2 := fun Hq => Nw H19 Hq) (fun Hq hq => hq19.tr hq) ?_⟩
      have hqn19 := Nw.refl H19
      refine LH.one (i := 10) (by kernel_rfl) ?_
      -- call selvage/sum.digit
      refine LO.call rfl rfl Try.call24 rfl (Wd.u rfl) rfl rfl (digit_ct _ w0 _) (fun v25 H25 r25 => ?_)
      obtain ⟨rfl, hs25⟩ := r25
      replace hm0 := hm0.trans hs25 (fun b hb0 hb1 => hb1) (fun b hb0 hb1 => hb1.elim)
      replace va2 := va2.nw hs25
      replace va4 := va4.nw hs25
      try replace hlm1 := hlm1.trans hs25 (fun b hb0 hb1 => hb1) (fun b hb0 hb1 => hb1.elim)
      have hz6 := hs25.size
      have hq25 := hqn19.tr hs25
      refine ⟨.inr hq25, LH.narrow (SH2 := fun Hq => Nw H25 Hq) (fun Hq hq => hq25.tr hq) ?_⟩
      have hqn25 := Nw.refl H25
      refine LH.take 11 (by kernel_rfl) rfl (by kernel_rfl) (by kernel_rfl) (by kernel_rfl) (fun Hq hq => Y.assign rfl rfl) (Wd.u rfl) rfl rfl hqn25 ?_
      refine LH.take 12 (by kernel_rfl) rfl (by kernel_rfl) (by kernel_rfl) (by kernel_rfl) (fun Hq hq => Y.assign rfl rfl) (Wd.u rfl) rfl rfl hqn25 ?_
      refine LH.done (by kernel_rfl) ?_
      have hqe := hqn25
      refine hK15 _ _ ?_
      refine CW.seq (fun K16 hK16 hE16 => ?_)
      refine CW.seq (fun K17 hK17 hE17 => ?_)
      refine CW.region ?_
      refine LR.v (Y.move rfl rfl) (Wd.u rfl) rfl rfl ?_
      refine LR.v (Y.gtr rfl rfl rfl) (Wd.u rfl) rfl rfl ?_
      refine LR.v (Y.move rfl rfl) (Wd.u rfl) rfl rfl ?_
      refine LR.splitp (d := 28) rfl (fun g28 => ?_) (fun g28 => ?_)
      ·
        refine LR.gs rfl rfl rfl rfl rfl rfl ?_
        refine LR.gs rfl rfl rfl rfl rfl rfl ?_
        refine LR.v (Y.pick_t rfl rfl rfl) (Wd.u rfl) rfl rfl ?_
        refine LR.nil ?_
        refine hK17 _ _ ?_
        refine CW.cond_t rfl ?_
        refine CW.seq (fun K18 hK18 hE18 => ?_)
        refine CW.region ?_
        refine LR.v (Y.build (v := idV Z32) rfl rfl (by intro w; kernel_rfl)) (Wd.u rfl) rfl rfl ?_
        refine LR.s (S.var va2 ((Z32).map V8) ((Z32).map V8) rfl rfl rfl rfl (by intro u hu; obtain ⟨x, _, rfl⟩ := List.mem_map.1 hu; rfl) Try.sizeOf27 (by simp [Z32_len]) (Nat.le_of_ble_eq_true rfl) (splice_all (by simp [Z32_len]))) (Wd.u rfl) rfl (fun H9_1 r9_1 => ?_)
        obtain ⟨va2, hs9_1⟩ := r9_1
        replace hm0 := hm0.trans hs9_1 (fun b hb0 hb1 => hb1) (fun b hb0 hb1 => by omega)
        replace va4 := va4.up hs9_1 (by omega)
        try replace hlm1 := hlm1.trans hs9_1 (fun b hb0 hb1 => hb1) (fun b hb0 hb1 => by omega)
        have hz7 := hs9_1.size
        refine LR.v (Y.assign rfl rfl) (Wd.u rfl) rfl rfl ?_
        refine LR.nil ?_
        refine hK18 _ _ ?_
        refine CW.ret (hE16 .ret nofun _ _ (hE13 .ret nofun (by simp) _ _ (hE12 .ret nofun _ _ (hE9 .ret nofun _ _ (hE8 .ret nofun (by simp) _ _ (hE6 .ret nofun _ _ (hret .ret (.inr rfl) _ _ _ (resCT rfl rfl va2.pt Try.isAgg27 Try.sizeOf27 (by first | rfl | simp) rfl) ?_)))))))
        exact ⟨Z32, 1, rfl, .inr ⟨by first | exact not_ok_at (2 * i) (by omega) (by omega) | exact not_ok_at (2 * i + 1) (by omega) (by omega), rfl, rfl⟩, hm0⟩
      ·
        refine LR.v (Y.move rfl rfl) (Wd.g rfl rfl rfl) rfl rfl ?_
        refine LR.v (Y.gtr rfl rfl rfl) (Wd.g rfl rfl rfl) rfl rfl ?_
        refine LR.v (Y.pick_f rfl rfl rfl) (Wd.u rfl) rfl rfl ?_
        refine LR.nil ?_
        refine hK17 _ _ ?_
        refine CW.condp rfl (fun c31 => ?_) (fun c31 => ?_)
        ·
          refine CW.seq (fun K19 hK19 hE19 => ?_)
          refine CW.region ?_
          refine LR.v (Y.build (v := idV Z32) rfl rfl (by intro w; kernel_rfl)) (Wd.u rfl) rfl rfl ?_
          refine LR.s (S.var va2 ((Z32).map V8) ((Z32).map V8) rfl rfl rfl rfl (by intro u hu; obtain ⟨x, _, rfl⟩ := List.mem_map.1 hu; rfl) Try.sizeOf27 (by simp [Z32_len]) (Nat.le_of_ble_eq_true rfl) (splice_all (by simp [Z32_len]))) (Wd.u rfl) rfl (fun H9_1 r9_1 => ?_)
          obtain ⟨va2, hs9_1⟩ := r9_1
          replace hm0 := hm0.trans hs9_1 (fun b hb0 hb1 => hb1) (fun b hb0 hb1 => by omega)
          replace va4 := va4.up hs9_1 (by omega)
          try replace hlm1 := hlm1.trans hs9_1 (fun b hb0 hb1 => hb1) (fun b hb0 hb1 => by omega)
          have hz8 := hs9_1.size
          refine LR.v (Y.assign rfl rfl) (Wd.u rfl) rfl rfl ?_
          refine LR.nil ?_
          refine hK19 _ _ ?_
          refine CW.ret (hE16 .ret nofun _ _ (hE13 .ret nofun (by simp) _ _ (hE12 .ret nofun _ _ (hE9 .ret nofun _ _ (hE8 .ret nofun (by simp) _ _ (hE6 .ret nofun _ _ (hret .ret (.inr rfl) _ _ _ (resCT rfl rfl va2.pt Try.isAgg27 Try.sizeOf27 (by first | rfl | simp) rfl) ?_)))))))
          exact ⟨Z32, 1, rfl, .inr ⟨by first | exact not_ok_at (2 * i) (by omega) (by omega) | exact not_ok_at (2 * i + 1) (by omega) (by omega), rfl, rfl⟩, hm0⟩
        ·
          refine CW.skip ?_
          refine hK16 _ _ ?_
          refine CW.region ?_
          refine LR.v (Y.move rfl rfl) (Wd.u rfl) rfl rfl ?_
          refine LR.v (Y.move rfl rfl) (Wd.u rfl) rfl rfl ?_
          refine LR.v (Y.shl_u8 (4) rfl rfl rfl (by first | rfl | omega) (by omega)) (Wd.u rfl) rfl rfl ?_
          refine LR.v (Y.move rfl rfl) (Wd.u rfl) rfl rfl ?_
          refine LR.v (Y.or_u8 rfl rfl rfl) (Wd.u rfl) rfl rfl ?_
          refine LR.v (Y.arrAddr va4.pt (i) rfl Try.runUnderlying27 Try.sizeOf5 rfl rfl (by first | rfl | omega) (by first | omega | (simp; omega) | (simp; done))) (Wd.u rfl) rfl rfl ?_
          refine LR.s (S.var1 va4 (0 + (i)) (_) rfl rfl rfl (rfl) Try.sizeOf5 (by simp; omega) (map_set8 o i _)) (Wd.u rfl) rfl (fun H10_6 r10_6 => ?_)
          obtain ⟨va4, hs10_6⟩ := r10_6
          replace hm0 := hm0.trans hs10_6 (fun b hb0 hb1 => hb1) (fun b hb0 hb1 => by omega)
          replace va2 := va2.up hs10_6 (by omega)
          try replace hlm1 := hlm1.trans hs10_6 (fun b hb0 hb1 => hb1) (fun b hb0 hb1 => by omega)
          have hz9 := hs10_6.size
          refine LR.nil ?_
          refine hK13 _ _ ?_
          refine hK12 _ _ ?_
          refine CW.region ?_
          refine LR.v (Y.addi rfl rfl rfl (by omega)) (Wd.u rfl) rfl rfl ?_
          refine LR.v (Y.move rfl rfl) (Wd.u rfl) rfl rfl ?_
          refine LR.nil ?_
          refine QN.sub (hN9 (i + 1, o.set i (shlw_u8 (digw (s.getD (2 * i) 0)) 4 ||| digw (s.getD (2 * i + 1) 0))) _ ?_ ?_) ⟨rfl, rfl, rfl, (iv (by omega)), trivial⟩
          · exact ⟨(by omega), by simp [hol], take8_succ o _ i _ hot (by omega) (pid_get s i (by omega)), fun j h => by
              by_cases h2 : j < 2 * i
              · exact hdg j h2
              · rcases (show j = 2 * i ∨ j = 2 * i + 1 by omega) with rfl | rfl
                · omega
                · omega, va4, hlm1⟩
          · first | omega | (simp only; omega) | (simp; omega)
    ·
      obtain rfl : i = 32 := by omega
      rw [List.take_of_length_le (by omega), List.take_of_length_le (by rw [pid_len]; omega)] at hot
      subst hot
      refine CW.exit (hE11 (.exit 0) nofun _ _ (hE9 (.exit 0) nofun _ _ (hX8 _ _ ?_)))
      refine hK6 _ _ ?_
      refine CW.seq (fun K20 hK20 hE20 => ?_)
      refine CW.region ?_
      refine LR.v (Y.loadN va4.pt rfl Try.isAgg27 Try.sizeOf27 (rfl) rfl) (Wd.u rfl) rfl rfl ?_
      refine LR.s (S.var va2 ((pid s).map V8) ((pid s).map V8) rfl rfl rfl rfl (by intro u hu; obtain ⟨x, _, rfl⟩ := List.mem_map.1 hu; rfl) Try.sizeOf27 (by simp [pid_len, Z32_len]) (Nat.le_of_ble_eq_true rfl) (splice_all (by simp [pid_len, Z32_len]))) (Wd.u rfl) rfl (fun H12_1 r12_1 => ?_)
      obtain ⟨va2, hs12_1⟩ := r12_1
      replace hm0 := hm0.trans hs12_1 (fun b hb0 hb1 => hb1) (fun b hb0 hb1 => by omega)
      replace va4 := va4.up hs12_1 (by omega)
      have hz10 := hs12_1.size
      refine LR.v (Y.assign rfl rfl) (Wd.u rfl) rfl rfl ?_
      refine LR.nil ?_
      refine hK20 _ _ ?_
      refine CW.ret (hret .ret (.inr rfl) _ _ _ (resCT rfl rfl va2.pt Try.isAgg27 Try.sizeOf27 (by first | rfl | simp) rfl) ?_)
      exact ⟨pid s, 0, rfl, .inl ⟨⟨by omega, fun j hj => hdg j (by omega)⟩, rfl, rfl⟩, hm0⟩


theorem Z32_drop (i : Nat) : (Z32.drop i).set 0 (shlw_u8 ((Z32.drop i).getD 0 0) 4 ||| 0) = Z32.drop i := by
  have h : ∀ i, i < 33 → (Z32.drop i).set 0 (shlw_u8 ((Z32.drop i).getD 0 0) 4 ||| 0) = Z32.drop i := by decide +kernel
  by_cases hi : i < 33
  · exact h i hi
  · rw [List.drop_of_length_le (by rw [Z32_len]; omega)]; rfl
theorem shl0 : ∀ x : UInt8, shlw_u8 0 4 ||| x = x := all_u8 (by decide +kernel)


/-- the row behind k digits -/
def RI (s o : List UInt8) (k : Nat) : Prop := o.take (k / 2) = (pid s).take (k / 2) ∧ (k % 2 = 0 → ∀ j, k / 2 ≤ j → o.getD j 0 = 0) ∧ (k % 2 = 1 → o.getD (k / 2) 0 = digw (s.getD (k - 1) 0) ∧ ∀ j, k / 2 + 1 ≤ j → o.getD j 0 = 0)
theorem getD_set_ne {o : List UInt8} {i j : Nat} {x : UInt8} (h : i ≠ j) : (o.set i x).getD j 0 = o.getD j 0 := by simp [List.getD, List.getElem?_set_ne h]
theorem getD_set_eq {o : List UInt8} {i : Nat} {x : UInt8} (h : i < o.length) : (o.set i x).getD i 0 = x := by simp [List.getD, List.getElem?_set_self, h]
theorem RI.next {s o : List UInt8} {k : Nat} (h : RI s o k) (ho : o.length = 32) (hk : k < 64) : RI s (o.set (k / 2) (shlw_u8 (o.getD (k / 2) 0) 4 ||| digw (s.getD k 0))) (k + 1) := by
  obtain ⟨h1, h2, h3⟩ := h
  rcases Nat.mod_two_eq_zero_or_one k with hm | hm
  · have h2 := h2 hm
    refine ⟨?_, fun h => by omega, fun _ => ⟨?_, fun j hj => ?_⟩⟩
    · rw [show (k + 1) / 2 = k / 2 by omega, List.take_set_of_le (Nat.le_refl _)]; exact h1
    · rw [show (k + 1) / 2 = k / 2 by omega, getD_set_eq (by omega), h2 _ (Nat.le_refl _), shl0]; rfl
    · rw [getD_set_ne (by omega)]; exact h2 j (by omega)
  · obtain ⟨h4, h5⟩ := h3 hm
    refine ⟨?_, fun _ j hj => ?_, fun h => by omega⟩
    · rw [show (k + 1) / 2 = k / 2 + 1 by omega]
      refine take8_succ o _ (k / 2) _ h1 (by omega) ?_
      rw [pid_get s _ (by omega), h4, show 2 * (k / 2) + 1 = k by omega, show 2 * (k / 2) = k - 1 by omega]
    · rw [getD_set_ne (by omega)]; exact h5 j (by omega)

theorem rparse_ct (s : List UInt8) (w0 : World) (H0 : Heap)
    (hsl : s.length ≤ 9223372036854775807) :
    Ct Try.prog w0 16 #[Str s] H0 (fun r H2 => ∃ x : List UInt8, ∃ e : Int, r = .tuple #[idV x, .int .i64 e] ∧ (PR s x e) ∧ Mo (fun c => False) H0 H2) := by
  refine Ct.enter (args := [Str s]) Try.func16 rfl rfl rfl ?_
  intro Q0 hret
  have hm0 : Mo (fun c => False) H0 H0 := Mo.refl _ _
  refine CW.seq (fun K1 hK1 hE1 => ?_)
  refine CW.region ?_
  refine LR.z (Z.allocv rfl Try.zeroValue27) (Wd.u rfl) rfl rfl (fun v2 H2 r2 => ?_)
  obtain ⟨rfl, va2, hs2, ob2, hH2⟩ := r2
  have hzs2 : H2.size = H0.size + 1 := by rw [hH2]; simp
  replace hm0 := hm0.trans hs2 (fun b hb0 hb1 => hb1) (fun b hb0 hb1 => hb1.elim)
  have hz1 := hs2.size
  have hlt_va2 := va2.lt
  replace va2 : Var 27 H2 H0.size (Z32.map V8) := va2
  refine LR.v (Y.assign rfl rfl) (Wd.u rfl) rfl rfl ?_
  refine LR.nil ?_
  refine hK1 _ _ ?_
  refine CW.seq (fun K2 hK2 hE2 => ?_)
  refine CW.region ?_
  refine LR.z (Z.allocv rfl Try.zeroValue27) (Wd.u rfl) rfl rfl (fun v4 H4 r4 => ?_)
  obtain ⟨rfl, va4, hs4, ob4, hH4⟩ := r4
  have hzs4 : H4.size = H2.size + 1 := by rw [hH4]; simp
  replace hm0 := hm0.trans hs4 (fun b hb0 hb1 => hb1) (fun b hb0 hb1 => hb1.elim)
  replace va2 := va2.nw hs4
  have hz2 := hs4.size
  have hlt_va4 := va4.lt
  replace va4 : Var 27 H4 H2.size (Z32.map V8) := va4
  refine LR.nil ?_
  refine hK2 _ _ ?_
  refine CW.seq (fun K3 hK3 hE3 => ?_)
  refine CW.seq (fun K4 hK4 hE4 => ?_)
  refine CW.region ?_
  refine LR.v (Y.move rfl rfl) (Wd.u rfl) rfl rfl ?_
  refine LR.v (Y.slen rfl Try.runUnderlying9 rfl) (Wd.u rfl) rfl rfl ?_
  refine LR.v (Y.neq rfl rfl rfl) (Wd.u rfl) rfl rfl ?_
  refine LR.nil ?_
  refine hK4 _ _ ?_
  refine CW.condp rfl (fun c8 => ?_) (fun c8 => ?_)
  ·
    refine CW.seq (fun K5 hK5 hE5 => ?_)
    refine CW.region ?_
    refine LR.v (Y.loadN va4.pt rfl Try.isAgg27 Try.sizeOf27 (by simp [Z32_len]) rfl) (Wd.u rfl) rfl rfl ?_
    refine LR.s (S.var va2 ((Z32).map V8) ((Z32).map V8) rfl rfl rfl rfl (by intro u hu; obtain ⟨x, _, rfl⟩ := List.mem_map.1 hu; rfl) Try.sizeOf27 (by simp [Z32_len]) (Nat.le_of_ble_eq_true rfl) (splice_all (by simp [Z32_len]))) (Wd.u rfl) rfl (fun H3_1 r3_1 => ?_)
    obtain ⟨va2, hs3_1⟩ := r3_1
    replace hm0 := hm0.trans hs3_1 (fun b hb0 hb1 => hb1) (fun b hb0 hb1 => by omega)
    replace va4 := va4.up hs3_1 (by omega)
    have hz3 := hs3_1.size
    refine LR.v (Y.assign rfl rfl) (Wd.u rfl) rfl rfl ?_
    refine LR.nil ?_
    refine hK5 _ _ ?_
    refine CW.ret (hE3 .ret nofun _ _ (hret .ret (.inr rfl) _ _ _ (resCT rfl rfl va2.pt Try.isAgg27 Try.sizeOf27 (by first | rfl | simp) rfl) ?_))
    exact ⟨Z32, 1, rfl, .inr ⟨not_ok_len (by omega), rfl, rfl⟩, hm0⟩
  ·
    refine CW.skip ?_
    refine hK3 _ _ ?_
    refine CW.seq (fun K6 hK6 hE6 => ?_)
    refine CW.seq (fun K7 hK7 hE7 => ?_)
    refine CW.region ?_
    refine LR.v (Y.assign rfl rfl) (Wd.u rfl) rfl rfl ?_
    refine LR.nil ?_
    refine hK7 _ _ ?_
    refine CW.block (fun K8 hK8 hX8 hE8 => ?_)
    refine CW.loop (fun (s_ : (Nat) × (List UInt8)) => match s_ with | (k, o) => [(0, Str s), (2, .pointer (some ⟨H0.size, 0, none⟩)), (4, .pointer (some ⟨H2.size, 0, none⟩)), (5, .int .i64 k)])
      (fun (s_ : (Nat) × (List UInt8)) (H : Heap) => match s_ with | (k, o) => (k ≤ 64) ∧ (o.length = 32) ∧ (RI s o k) ∧ (∀ j, j < k → (digw (s.getD j 0)).toNat ≤ 15) ∧ (Var 27 H H2.size (o.map V8)) ∧ Mo (fun c => c = H2.size) H4 H)
      (fun (s_ : (Nat) × (List UInt8)) => match s_ with | (k, o) => 64 - k) (0, Z32) ⟨rfl, rfl, rfl, rfl, trivial⟩ ?_ ?_
    ·
      exact ⟨(by omega), rfl, ⟨by simp, fun _ j _ => by simp only [List.getD, Z32, List.getElem?_replicate]; split <;> rfl, fun h => by omega⟩, fun j h => absurd h (by omega), va4, Mo.refl _ _⟩
    rintro ⟨k, o⟩ HL1 hI1 K9 hN9 hE9
    obtain ⟨hk, hol, hri, hdg, va4, hlm1⟩ := hI1
    replace hm0 := hm0.trans hlm1 (fun b hb0 hb1 => hb1) (fun b hb0 hb1 => by omega)
    replace va2 := va2.up hlm1 (by omega)
    have hz4 := hlm1.size
    have hlt_va4 := va4.lt
    refine CW.seq (fun K10 hK10 hE10 => ?_)
    refine CW.seq (fun K11 hK11 hE11 => ?_)
    refine CW.region ?_
    refine LR.v (Y.move rfl rfl) (Wd.u rfl) rfl rfl ?_
    refine LR.v (Y.lss rfl rfl rfl) (Wd.u rfl) rfl rfl ?_
    refine LR.nil ?_
    refine hK11 _ _ ?_
    refine CW.condp rfl (fun c11 => ?_) (fun c11 => ?_)
    ·
      refine CW.skip ?_
      refine hK10 _ _ ?_
      refine CW.seq (fun K12 hK12 hE12 => ?_)
      refine CW.block (fun K13 hK13 hX13 hE13 => ?_)
      refine CW.seq (fun K14 hK14 hE14 => ?_)
      refine CW.seq (fun K15 hK15 hE15 => ?_)
      refine CW.region ?_
      refine LR.v (Y.move rfl rfl) (Wd.u rfl) rfl rfl ?_
      refine LR.v (Y.move rfl rfl) (Wd.u rfl) rfl rfl ?_
      refine LR.v (Y.cast (v2 := .int .u8 (s.getD k 0).toNat) (Y.sindex (k) rfl Try.runUnderlying9 rfl rfl (by first | rfl | omega) (by omega)) (by rw [gd])) (Wd.u rfl) rfl rfl ?_
      -- call selvage/selvageref1.digit
      refine LR.call rfl Try.call25 rfl (Wd.u rfl) rfl rfl (rdigit_ct _ w0 _) (fun v17 H17 r17 => ?_)
      obtain ⟨d17, rfl, hd117, hd217, hs17⟩ := r17
      replace hm0 := hm0.trans hs17 (fun b hb0 hb1 => hb1) (fun b hb0 hb1 => hb1.elim)
      replace va2 := va2.nw hs17
      replace va4 := va4.nw hs17
      try replace hlm1 := hlm1.trans hs17 (fun b hb0 hb1 => hb1) (fun b hb0 hb1 => hb1.elim)
      have hz5 := hs17.size
      refine LR.v (Y.lss rfl rfl rfl) (Wd.u rfl) rfl rfl ?_
      refine LR.nil ?_
      refine hK15 _ _ ?_
      refine CW.condp rfl (fun c18 => ?_) (fun c18 => ?_)
      ·
        refine CW.seq (fun K16 hK16 hE16 => ?_)
        refine CW.region ?_
        refine LR.v (Y.build (v := idV Z32) rfl rfl (by intro w; kernel_rfl)) (Wd.u rfl) rfl rfl ?_
        refine LR.s (S.var va2 ((Z32).map V8) ((Z32).map V8) rfl rfl rfl rfl (by intro u hu; obtain ⟨x, _, rfl⟩ := List.mem_map.1 hu; rfl) Try.sizeOf27 (by simp [Z32_len]) (Nat.le_of_ble_eq_true rfl) (splice_all (by simp [Z32_len]))) (Wd.u rfl) rfl (fun H8_1 r8_1 => ?_)
        obtain ⟨va2, hs8_1⟩ := r8_1
        replace hm0 := hm0.trans hs8_1 (fun b hb0 hb1 => hb1) (fun b hb0 hb1 => by omega)
        replace va4 := va4.up hs8_1 (by omega)
        try replace hlm1 := hlm1.trans hs8_1 (fun b hb0 hb1 => hb1) (fun b hb0 hb1 => by omega)
        have hz6 := hs8_1.size
        refine LR.v (Y.assign rfl rfl) (Wd.u rfl) rfl rfl ?_
        refine LR.nil ?_
        refine hK16 _ _ ?_
        refine CW.ret (hE14 .ret nofun _ _ (hE13 .ret nofun (by simp) _ _ (hE12 .ret nofun _ _ (hE9 .ret nofun _ _ (hE8 .ret nofun (by simp) _ _ (hE6 .ret nofun _ _ (hret .ret (.inr rfl) _ _ _ (resCT rfl rfl va2.pt Try.isAgg27 Try.sizeOf27 (by first | rfl | simp) rfl) ?_)))))))
        exact ⟨Z32, 1, rfl, .inr ⟨not_ok_at k (by omega) (by omega), rfl, rfl⟩, hm0⟩
      ·
        refine CW.skip ?_
        refine hK14 _ _ ?_
        refine CW.region_any (fun Hq => Nw H17 Hq) [14] rfl ?_
        have hqs := Nw.refl H17
        refine LH.take 0 (by kernel_rfl) rfl (by kernel_rfl) (by kernel_rfl) (by kernel_rfl) (fun Hq hq => Y.move rfl rfl) (Wd.u rfl) rfl rfl hqs ?_
        refine LH.take 1 (by kernel_rfl) rfl (by kernel_rfl) (by kernel_rfl) (by kernel_rfl) (fun Hq hq => Y.quoi rfl rfl rfl (by omega)) (Wd.u rfl) rfl rfl hqs ?_
        refine LH.take 2 (by kernel_rfl) rfl (by kernel_rfl) (by kernel_rfl) (by kernel_rfl) (fun Hq hq => Y.move rfl rfl) (Wd.u rfl) rfl rfl hqs ?_
        refine LH.take 3 (by kernel_rfl) rfl (by kernel_rfl) (by kernel_rfl) (by kernel_rfl) (fun Hq hq => Y.quoi rfl rfl rfl (by omega)) (Wd.u rfl) rfl rfl hqs ?_
        refine LH.take 4 (by kernel_rfl) rfl (by kernel_rfl) (by kernel_rfl) (by kernel_rfl) (fun Hq hq => Y.arrAddr (va4.pt.nw hq) (k / 2) rfl Try.runUnderlying27 Try.sizeOf5 rfl rfl (by omega) (by first | omega | (simp; omega) | (simp; done))) (Wd.u rfl) rfl rfl hqs ?_
        refine LH.take 5 (by kernel_rfl) rfl (by kernel_rfl) (by kernel_rfl) (by kernel_rfl) (fun Hq hq => Y.load1 ((va4.pt.at (k / 2) (map_get8 o (k / 2) (by omega))).nw hq) rfl Try.isAgg5 rfl) (Wd.u rfl) rfl rfl hqs ?_
        refine LH.take 6 (by kernel_rfl) rfl (by kernel_rfl) (by kernel_rfl) (by kernel_rfl) (fun Hq hq => Y.shl_u8 (4) rfl rfl rfl (by first | rfl | omega) (by omega)) (Wd.u rfl) rfl rfl hqs ?_
        refine LH.take 7 (by kernel_rfl) rfl (by kernel_rfl) (by kernel_rfl) (by kernel_rfl) (fun Hq hq => Y.move rfl rfl) (Wd.u rfl) rfl rfl hqs ?_
        refine LH.take 8 (by kernel_rfl) rfl (by kernel_rfl) (by kernel_rfl) (by kernel_rfl) (fun Hq hq => Y.move rfl rfl) (Wd.u rfl) rfl rfl hqs ?_
        refine LH.take 9 (by kernel_rfl) rfl (by kernel_rfl) (by kernel_rfl) (by kernel_rfl) (fun Hq hq => Y.cast (v2 := .int .u8 (s.getD k 0).toNat) (Y.sindex (k) rfl Try.runUnderlying9 rfl rfl (by first | rfl | omega) (by omega)) (by rw [gd])) (Wd.u rfl) rfl rfl hqs ?_
        refine LH.one (i := 10) (by kernel_rfl) ?_
        -- call selvage/selvageref1.digit
        refine LO.call rfl rfl Try.call25 rfl (Wd.u rfl) rfl rfl (rdigit_ct _ w0 _) (fun v30 H30 r30 => ?_)
        obtain ⟨d30, rfl, hd130, hd230, hs30⟩ := r30
        replace hm0 := hm0.trans hs30 (fun b hb0 hb1 => hb1) (fun b hb0 hb1 => hb1.elim)
        replace va2 := va2.nw hs30
        replace va4 := va4.nw hs30
        try replace hlm1 := hlm1.trans hs30 (fun b hb0 hb1 => hb1) (fun b hb0 hb1 => hb1.elim)
        have hz7 := hs30.size
        obtain rfl : d30 = (digw (s.getD k 0)).toNat := hd230 (by omega)
        have hq30 := hqs.tr hs30
        refine ⟨.inr hq30, LH.narrow (SH2 := fun Hq => Nw H30 Hq) (fun Hq hq => hq30.tr hq) ?_⟩
        have hqn30 := Nw.refl H30
        refine LH.take 11 (by kernel_rfl) rfl (by kernel_rfl) (by kernel_rfl) (by kernel_rfl) (fun Hq hq => Y.cast (v2 := .int .u8 (digw (s.getD k 0)).toNat) (Y.conv_u8 rfl Try.runUnderlying3 Try.runUnderlying5 rfl) (by rw [UInt8.ofNat_toNat])) (Wd.u rfl) rfl rfl hqn30 ?_
        refine LH.take 12 (by kernel_rfl) rfl (by kernel_rfl) (by kernel_rfl) (by kernel_rfl) (fun Hq hq => Y.or_u8 rfl rfl rfl) (Wd.u rfl) rfl rfl hqn30 ?_
        refine LH.take 13 (by kernel_rfl) rfl (by kernel_rfl) (by kernel_rfl) (by kernel_rfl) (fun Hq hq => Y.arrAddr (va4.pt.nw hq) (k / 2) rfl Try.runUnderlying27 Try.sizeOf5 rfl rfl (by omega) (by first | omega | (simp; omega) | (simp; done))) (Wd.u rfl) rfl rfl hqn30 ?_
        refine LH.one (i := 14) (by kernel_rfl) ?_
        refine LO.s rfl (S.var1 va4 (0 + (k / 2)) (_) rfl rfl rfl (rfl) Try.sizeOf5 (by simp; omega) (map_set8 o (k / 2) _)) (Wd.u rfl) rfl (fun H9_14 r9_14 => ?_)
        obtain ⟨va4, hs9_14⟩ := r9_14
        replace hm0 := hm0.trans hs9_14 (fun b hb0 hb1 => hb1) (fun b hb0 hb1 => by omega)
        replace va2 := va2.up hs9_14 (by omega)
        try replace hlm1 := hlm1.trans hs9_14 (fun b hb0 hb1 => hb1) (fun b hb0 hb1 => by omega)
        have hz8 := hs9_14.size
        refine ⟨.inl rfl, ?_⟩
        refine LH.done (by kernel_rfl) ?_
        have hqe := hqn30
        refine hK13 _ _ ?_
        refine hK12 _ _ ?_
        refine CW.region ?_
        refine LR.v (Y.move rfl rfl) (Wd.u rfl) rfl rfl ?_
        refine LR.v (Y.addi rfl rfl rfl (by omega)) (Wd.u rfl) rfl rfl ?_
        refine LR.v (Y.assign rfl rfl) (Wd.u rfl) rfl rfl ?_
        refine LR.nil ?_
        refine QN.sub (hN9 (k + 1, o.set (k / 2) (shlw_u8 (o.getD (k / 2) 0) 4 ||| digw (s.getD k 0))) _ ?_ ?_) ⟨rfl, rfl, rfl, (iv (by omega)), trivial⟩
        · exact ⟨(by omega), by simp [hol], hri.next hol (by omega), fun j h => by
            by_cases h2 : j < k
            · exact hdg j h2
            · obtain rfl : j = k := by omega
              omega, va4, hlm1⟩
        · first | omega | (simp only; omega) | (simp; omega)
    ·
      obtain rfl : k = 64 := by omega
      obtain ⟨hri, _, _⟩ := hri
      rw [List.take_of_length_le (by omega), List.take_of_length_le (by rw [pid_len]; omega)] at hri
      subst hri
      refine CW.exit (hE10 (.exit 0) nofun _ _ (hE9 (.exit 0) nofun _ _ (hX8 _ _ ?_)))
      refine hK6 _ _ ?_
      refine CW.seq (fun K17 hK17 hE17 => ?_)
      refine CW.region ?_
      refine LR.v (Y.loadN va4.pt rfl Try.isAgg27 Try.sizeOf27 (by simp [pid_len]) rfl) (Wd.u rfl) rfl rfl ?_
      refine LR.s (S.var va2 ((pid s).map V8) ((pid s).map V8) rfl rfl rfl rfl (by intro u hu; obtain ⟨x, _, rfl⟩ := List.mem_map.1 hu; rfl) Try.sizeOf27 (by simp [pid_len, Z32_len]) (Nat.le_of_ble_eq_true rfl) (splice_all (by simp [pid_len, Z32_len]))) (Wd.u rfl) rfl (fun H10_1 r10_1 => ?_)
      obtain ⟨va2, hs10_1⟩ := r10_1
      replace hm0 := hm0.trans hs10_1 (fun b hb0 hb1 => hb1) (fun b hb0 hb1 => by omega)
      replace va4 := va4.up hs10_1 (by omega)
      have hz9 := hs10_1.size
      refine LR.v (Y.assign rfl rfl) (Wd.u rfl) rfl rfl ?_
      refine LR.nil ?_
      refine hK17 _ _ ?_
      refine CW.ret (hret .ret (.inr rfl) _ _ _ (resCT rfl rfl va2.pt Try.isAgg27 Try.sizeOf27 (by first | rfl | simp) rfl) ?_)
      exact ⟨pid s, 0, rfl, .inl ⟨⟨by omega, hdg⟩, rfl, rfl⟩, hm0⟩

theorem cmp_ct (u v : Value) (a b : List UInt8) (w0 : World) (H0 : Heap)
    (ha : RdT H0 fB 1 u a) (hb : RdT H0 fB 1 v b) :
    Ct Try.prog w0 26 #[u, v] H0 (fun r H2 => r = .int .i64 (Lib.compareBytes a b) ∧ Mo (fun c => False) H0 H2) := by
  refine Ct.enter (args := [u, v]) Try.func26 rfl rfl rfl ?_
  intro Q0 hret
  have hm0 : Mo (fun c => False) H0 H0 := Mo.refl _ _
  refine CW.seq (fun K1 hK1 hE1 => ?_)
  refine CW.region ?_
  refine LR.v (Y.assign rfl rfl) (Wd.u rfl) rfl rfl ?_
  refine LR.nil ?_
  refine hK1 _ _ ?_
  refine CW.seq (fun K2 hK2 hE2 => ?_)
  refine CW.region ?_
  refine LR.v (Y.move rfl rfl) (Wd.u rfl) rfl rfl ?_
  refine LR.v (Y.move rfl rfl) (Wd.u rfl) rfl rfl ?_
  refine LR.v (Y.compare ha hb rfl Try.func30 (by kernel_rfl) (by kernel_rfl) (by kernel_rfl) (by kernel_rfl) rfl) (Wd.u rfl) rfl rfl ?_
  refine LR.v (Y.assign rfl rfl) (Wd.u rfl) rfl rfl ?_
  refine LR.nil ?_
  refine hK2 _ _ ?_
  refine CW.ret (hret .ret (.inr rfl) _ _ _ (res1 rfl rfl) ?_)
  exact ⟨rfl, hm0⟩

theorem less_ct (a b : List UInt8) (w0 : World) (H0 : Heap)
    (ha : a.length = 32) (hb : b.length = 32) :
    Ct Try.prog w0 19 #[idV a, idV b] H0 (fun r H2 => r = .bool (Op.bytesLess a b) ∧ Mo (fun c => False) H0 H2) := by
  refine Ct.enter (args := [idV a, idV b]) Try.func19 rfl rfl rfl ?_
  intro Q0 hret
  have hm0 : Mo (fun c => False) H0 H0 := Mo.refl _ _
  refine CW.seq (fun K1 hK1 hE1 => ?_)
  refine CW.region ?_
  refine LR.z (Z.boxv rfl rfl) (Wd.u rfl) rfl rfl (fun v2 H2 r2 => ?_)
  obtain ⟨rfl, va2, hs2, ob2, hH2⟩ := r2
  have hzs2 : H2.size = H0.size + 1 := by rw [hH2]; simp
  replace hm0 := hm0.trans hs2 (fun b hb0 hb1 => hb1) (fun b hb0 hb1 => hb1.elim)
  have hz1 := hs2.size
  have hlt_va2 := va2.lt
  replace va2 : Var 27 H2 H0.size (a.map V8) := va2
  refine LR.z (Z.boxv rfl rfl) (Wd.u rfl) rfl rfl (fun v3 H3 r3 => ?_)
  obtain ⟨rfl, va3, hs3, ob3, hH3⟩ := r3
  have hzs3 : H3.size = H2.size + 1 := by rw [hH3]; simp
  replace hm0 := hm0.trans hs3 (fun b hb0 hb1 => hb1) (fun b hb0 hb1 => hb1.elim)
  replace va2 := va2.nw hs3
  have hz2 := hs3.size
  have hlt_va3 := va3.lt
  replace va3 : Var 27 H3 H2.size (b.map V8) := va3
  refine LR.v (Y.assign rfl rfl) (Wd.u rfl) rfl rfl ?_
  refine LR.nil ?_
  refine hK1 _ _ ?_
  refine CW.seq (fun K2 hK2 hE2 => ?_)
  refine CW.region_tail 2 rfl (by kernel_rfl) (fun T1 hT1 => ?_)
  refine LR.e (g := fun v => v) (Y.sliceArrE (F := fun c => c = H0.size) (f := fB) (xs := a) va2.pt rfl va2.lt (ha) (fun i x h => ⟨by simp [h], rfl⟩) (0) (32) rfl (fun w => .inl (Try.runUnderlying27 w)) Try.sizeOf5 rfl (.inl ⟨rfl, rfl⟩) (.inl ⟨rfl, rfl⟩) (by omega) (by omega) (by decide)) (Wd.u rfl) rfl rfl (fun v5 rd5 => ?_)
  rw [List.drop_zero, List.take_of_length_le (by omega)] at rd5
  refine LR.e (g := fun v => v) (Y.sliceArrE (F := fun c => c = H2.size) (f := fB) (xs := b) va3.pt rfl va3.lt (hb) (fun i x h => ⟨by simp [h], rfl⟩) (0) (32) rfl (fun w => .inl (Try.runUnderlying27 w)) Try.sizeOf5 rfl (.inl ⟨rfl, rfl⟩) (.inl ⟨rfl, rfl⟩) (by omega) (by omega) (by decide)) (Wd.u rfl) rfl rfl (fun v6 rd6 => ?_)
  rw [List.drop_zero, List.take_of_length_le (by omega)] at rd6
  refine LR.nil (hT1 _ ?_)
  -- call bytes.Compare
  refine LR.call rfl Try.call26 rfl (Wd.u rfl) rfl rfl (cmp_ct _ _ a b w0 _ rd5.any rd6.any) (fun v7 H7 r7 => ?_)
  obtain ⟨rfl, hs7⟩ := r7
  replace hm0 := hm0.trans hs7 (fun b hb0 hb1 => hb1) (fun b hb0 hb1 => hb1.elim)
  replace va2 := va2.nw hs7
  replace va3 := va3.nw hs7
  replace rd5 := rd5.nw hs7
  replace rd6 := rd6.nw hs7
  have hz3 := hs7.size
  refine LR.v (Y.cast (v2 := .bool (Op.bytesLess a b)) (Y.lss rfl rfl rfl) (by congr 1; rw [Bool.eq_iff_iff]; simp [cmp_less])) (Wd.u rfl) rfl rfl ?_
  refine LR.v (Y.assign rfl rfl) (Wd.u rfl) rfl rfl ?_
  refine LR.nil ?_
  refine hK2 _ _ ?_
  refine CW.ret (hret .ret (.inr rfl) _ _ _ (res1 rfl rfl) ?_)
  exact ⟨rfl, hm0⟩

end Go.Proofs.Ytgcnkjnbdeihhaa.SumL
