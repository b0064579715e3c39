/-
  The contracts of SumRows, SumWrites, SumLengths.
-/
import Derived.Test.YtgcnkjnbdeihhaaSumI
namespace Go.Proofs.Ytgcnkjnbdeihhaa.SumJ
open Go.Proofs.Ytgcnkjnbdeihhaa.E Go.RowKit Go.Proofs.Ytgcnkjnbdeihhaa.SumA Go.Proofs.Ytgcnkjnbdeihhaa.SumB Go.Proofs.Ytgcnkjnbdeihhaa.SumC Go.Proofs.Ytgcnkjnbdeihhaa.SumD Go.Proofs.Ytgcnkjnbdeihhaa.SumE Go.Proofs.Ytgcnkjnbdeihhaa.SumF Go.Proofs.Ytgcnkjnbdeihhaa.SumG Go.Proofs.Ytgcnkjnbdeihhaa.SumH Go.Proofs.Ytgcnkjnbdeihhaa.SumI
set_option linter.unusedVariables false
set_option linter.unusedSimpArgs false
set_option linter.unusedSectionVars false
theorem inf22 : Inf Try.prog 22 24 1 24 := ⟨Try.underlying22, _, _, rfl, rfl, rfl, rfl, rfl⟩
theorem inf24 : Inf Try.prog 24 5 1 1 := ⟨Try.underlying24, _, _, rfl, rfl, rfl, rfl, rfl⟩
theorem sumRows_ct (vl : Value) (l : List (SV × List UInt8)) (w0 : World) (H0 : Heap)
    (hl : RdT H0 fP 1 vl l) (hx : ∀ x ∈ l, RdT H0 fB 1 x.1.v x.2) (hml : (cat l).length ≤ 1048576) :
    Ct Try.prog w0 3 #[vl] H0 (fun r H2 => r = .bool true ∧ Mo (fun c => False) H0 H2) := by
  refine Ct.enter (args := [vl]) Try.func3 rfl rfl rfl ?_
  intro Q0 hret
  replace hl := hl.lt
  replace hx := fun x hx0 => (hx x hx0).lt
  have hll := hl.len
  have hm0 : Mo (fun c => False) H0 H0 := Mo.refl _ _
  refine CW.seq (fun K1 hK1 hE1 => ?_)
  refine CW.region ?_
  refine LR.v (Y.assign rfl rfl) (Wd.u rfl) rfl rfl ?_
  refine LR.nil ?_
  refine hK1 _ _ ?_
  refine CW.seq (fun K2 hK2 hE2 => ?_)
  refine CW.seq (fun K3 hK3 hE3 => ?_)
  refine CW.region ?_
  -- call selvage/selvagelaw1.known
  refine LR.call rfl Try.call7 rfl (Wd.u rfl) rfl rfl (known_ct w0 _) (fun v5 H5 r5 => ?_)
  obtain ⟨rfl, hs5⟩ := r5
  replace hl := hl.nw hs5
  replace hx := fun x hx0 => (hx x hx0).up hs5 (fun b hb0 hb1 hb2 => hb2)
  replace hm0 := hm0.trans hs5 (fun b hb0 hb1 => hb1) (fun b hb0 hb1 => hb1.elim)
  have hz1 := hs5.size
  refine LR.v (Y.not rfl rfl) (Wd.u rfl) rfl rfl ?_
  refine LR.nil ?_
  refine hK3 _ _ ?_
  refine CW.cond_f rfl ?_
  refine CW.skip ?_
  refine hK2 _ _ ?_
  refine CW.seq (fun K4 hK4 hE4 => ?_)
  refine CW.region ?_
  refine LR.v (Y.move rfl rfl) (Wd.u rfl) rfl rfl ?_
  -- call selvage/selvagelaw1.all
  refine LR.call rfl Try.call8 rfl (Wd.u rfl) rfl rfl (all_ct _ l w0 _ hl.any (fun x hx0 => (hx x hx0).any) hml) (fun v8 H8 r8 => ?_)
  obtain ⟨v28, kb, rfl, owb, hk8, hs8⟩ := r8
  replace hl := hl.nw hs8
  replace hx := fun x hx0 => (hx x hx0).up hs8 (fun b hb0 hb1 hb2 => hb2)
  replace hm0 := hm0.trans hs8 (fun b hb0 hb1 => hb1) (fun b hb0 hb1 => hb1.elim)
  have hz2 := hs8.size
  have hle_owb := owb.le
  refine LR.v (Y.assign rfl rfl) (Wd.u rfl) rfl rfl ?_
  refine LR.nil ?_
  refine hK4 _ _ ?_
  refine CW.seq (fun K5 hK5 hE5 => ?_)
  refine CW.seq (fun K6 hK6 hE6 => ?_)
  refine CW.region ?_
  refine LR.v (Y.move rfl rfl) (Wd.u rfl) rfl rfl ?_
  refine LR.v (Y.len owb.rd rfl Try.runUnderlying24 rfl) (Wd.u rfl) rfl rfl ?_
  refine LR.v (Y.gtr rfl rfl rfl) (Wd.u rfl) rfl rfl ?_
  refine LR.nil ?_
  refine hK6 _ _ ?_
  refine CW.condp rfl (fun c11 => ?_) (fun c11 => ?_)
  ·
    refine CW.seq (fun K7 hK7 hE7 => ?_)
    refine CW.region ?_
    refine LR.v (Y.assign rfl rfl) (Wd.u rfl) rfl rfl ?_
    refine LR.nil ?_
    refine hK7 _ _ ?_
    refine CW.ret (hE5 .ret nofun _ _ (hret .ret (.inr rfl) _ _ _ (res1 rfl rfl) ?_))
    exact ⟨rfl, hm0⟩
  ·
    refine CW.skip ?_
    refine hK5 _ _ ?_
    refine CW.seq (fun K8 hK8 hE8 => ?_)
    refine CW.region ?_
    refine LR.v (Y.move rfl rfl) (Wd.u rfl) rfl rfl ?_
    -- call selvage/sum.Of
    refine LR.call rfl Try.call9 rfl (Wd.u rfl) rfl rfl (pof_ct _ l w0 _ hl.any (fun x hx0 => (hx x hx0).any) (by omega)) (fun v13 H13 r13 => ?_)
    obtain ⟨rfl, hs13⟩ := r13
    replace hl := hl.nw hs13
    replace hx := fun x hx0 => (hx x hx0).up hs13 (fun b hb0 hb1 hb2 => hb2)
    replace hm0 := hm0.trans hs13 (fun b hb0 hb1 => hb1) (fun b hb0 hb1 => hb1.elim)
    replace owb := owb.nw hs13
    have hz3 := hs13.size
    refine LR.z (Z.allocv rfl Try.zeroValue27) (Wd.u rfl) rfl rfl (fun v4 H4 r4 => ?_)
    obtain ⟨rfl, va4, hs4, ob4, hH4⟩ := r4
    have hzs4 : H4.size = H13.size + 1 := by rw [hH4]; simp
    replace hl := hl.nw hs4
    replace hx := fun x hx0 => (hx x hx0).up hs4 (fun b hb0 hb1 hb2 => hb2)
    replace hm0 := hm0.trans hs4 (fun b hb0 hb1 => hb1) (fun b hb0 hb1 => hb1.elim)
    replace owb := owb.nw hs4
    have hz4 := hs4.size
    have hlt_va4 := va4.lt
    replace va4 : Var 27 H4 H13.size (List.replicate 32 (V8 0)) := va4
    refine LR.s (S.var va4 ((sumOf (cat l)).map V8) ((sumOf (cat l)).map V8) rfl rfl rfl rfl (by intro u hu; obtain ⟨x, _, rfl⟩ := List.mem_map.1 hu; rfl) Try.sizeOf27 (by simp [sumOf_len]) (Nat.le_of_ble_eq_true rfl) (by simp [splice, sumOf_len])) (Wd.u rfl) rfl (fun H6_3 r6_3 => ?_)
    obtain ⟨va4, hs6_3⟩ := r6_3
    replace hl := hl.up hs6_3 (fun b hb0 hb1 hb2 => by omega)
    replace hx := fun x hx0 => (hx x hx0).up hs6_3 (fun b hb0 hb1 hb2 => by omega)
    replace hm0 := hm0.trans hs6_3 (fun b hb0 hb1 => hb1) (fun b hb0 hb1 => by omega)
    replace owb := owb.up hs6_3 (fun b hb0 hb1 hb2 => by omega)
    have hz5 := hs6_3.size
    refine LR.nil ?_
    refine hK8 _ _ ?_
    refine CW.seq (fun K9 hK9 hE9 => ?_)
    refine CW.region_any (fun Hq => Nw H6_3 Hq) [] rfl ?_
    have hqs := Nw.refl H6_3
    refine LH.take 0 (by kernel_rfl) rfl (by kernel_rfl) (by kernel_rfl) (by kernel_rfl) (fun Hq hq => Y.loadN (va4.pt.nw hq) rfl Try.isAgg27 Try.sizeOf27 (by simp [sumOf_len]) rfl) (Wd.u rfl) rfl rfl hqs ?_
    refine LH.take 1 (by kernel_rfl) rfl (by kernel_rfl) (by kernel_rfl) (by kernel_rfl) (fun Hq hq => Y.move rfl rfl) (Wd.u rfl) rfl rfl hqs ?_
    refine LH.one (i := 2) (by kernel_rfl) ?_
    -- call selvage/selvageref1.Of
    refine LO.call rfl rfl Try.call10 rfl (Wd.u rfl) rfl rfl (rof_ct _ (cat l) w0 _ owb.rd.any hml) (fun v16 H16 r16 => ?_)
    obtain ⟨rfl, hs16⟩ := r16
    replace hl := hl.nw hs16
    replace hx := fun x hx0 => (hx x hx0).up hs16 (fun b hb0 hb1 hb2 => hb2)
    replace hm0 := hm0.trans hs16 (fun b hb0 hb1 => hb1) (fun b hb0 hb1 => hb1.elim)
    replace owb := owb.nw hs16
    replace va4 := va4.nw hs16
    have hz6 := hs16.size
    have hq16 := hqs.tr hs16
    refine ⟨.inr hq16, LH.narrow (SH2 := fun Hq => Nw H16 Hq) (fun Hq hq => hq16.tr hq) ?_⟩
    have hqn16 := Nw.refl H16
    refine LH.take 3 (by kernel_rfl) rfl (by kernel_rfl) (by kernel_rfl) (by kernel_rfl) (fun Hq hq => (Y.aeql rfl Try.eqGuardType27 (fun w => run_equalIn_id 9998 Try.underlying27 Try.underlying5 Try.sizeOf5 Try.isAgg5 (by simp [sumOf_len]) (by simp [sumOf_len]) w) rfl rfl).isT (rfl)) (Wd.u rfl) rfl rfl hqn16 ?_
    refine LH.take 4 (by kernel_rfl) rfl (by kernel_rfl) (by kernel_rfl) (by kernel_rfl) (fun Hq hq => Y.move rfl rfl) (Wd.u rfl) rfl rfl hqn16 ?_
    refine LH.take 5 (by kernel_rfl) rfl (by kernel_rfl) (by kernel_rfl) (by kernel_rfl) (fun Hq hq => Y.move rfl rfl) (Wd.g rfl rfl rfl) rfl rfl hqn16 ?_
    refine LH.take 8 (by kernel_rfl) rfl (by kernel_rfl) (by kernel_rfl) (by kernel_rfl) (fun Hq hq => Y.move rfl rfl) (Wd.g rfl rfl rfl) rfl rfl hqn16 ?_
    refine LH.take 9 (by kernel_rfl) rfl (by kernel_rfl) (by kernel_rfl) (by kernel_rfl) (fun Hq hq => Y.bstr (owb.rd.nw hq) rfl Try.underlying24 Try.underlying9 Try.underlying5 rfl) (Wd.g rfl rfl rfl) rfl rfl hqn16 ?_
    refine LH.one (i := 6) (by kernel_rfl) ?_
    -- call selvage/selvagelaw1.all
    refine LO.call rfl rfl Try.call8 rfl (Wd.g rfl rfl rfl) rfl rfl (all_ct _ l w0 _ hl.any (fun x hx0 => (hx x hx0).any) hml) (fun v20 H20 r20 => ?_)
    obtain ⟨v220, kc, rfl, owc, hk20, hs20⟩ := r20
    replace hl := hl.nw hs20
    replace hx := fun x hx0 => (hx x hx0).up hs20 (fun b hb0 hb1 hb2 => hb2)
    replace hm0 := hm0.trans hs20 (fun b hb0 hb1 => hb1) (fun b hb0 hb1 => hb1.elim)
    replace owb := owb.nw hs20
    replace va4 := va4.nw hs20
    have hz7 := hs20.size
    have hle_owc := owc.le
    have hq20 := hqn16.tr hs20
    refine ⟨.inr hq20, LH.narrow (SH2 := fun Hq => Nw H20 Hq) (fun Hq hq => hq20.tr hq) ?_⟩
    have hqn20 := Nw.refl H20
    refine LH.take 7 (by kernel_rfl) rfl (by kernel_rfl) (by kernel_rfl) (by kernel_rfl) (fun Hq hq => Y.bstr (owc.rd.nw hq) rfl Try.underlying24 Try.underlying9 Try.underlying5 rfl) (Wd.g rfl rfl rfl) rfl rfl hqn20 ?_
    refine LH.take 10 (by kernel_rfl) rfl (by kernel_rfl) (by kernel_rfl) (by kernel_rfl) (fun Hq hq => (Y.seql rfl rfl rfl).isT (rfl)) (Wd.g rfl rfl rfl) rfl rfl hqn20 ?_
    refine LH.take 11 (by kernel_rfl) rfl (by kernel_rfl) (by kernel_rfl) (by kernel_rfl) (fun Hq hq => Y.pick_t rfl rfl rfl) (Wd.u rfl) rfl rfl hqn20 ?_
    refine LH.take 12 (by kernel_rfl) rfl (by kernel_rfl) (by kernel_rfl) (by kernel_rfl) (fun Hq hq => Y.assign rfl rfl) (Wd.u rfl) rfl rfl hqn20 ?_
    refine LH.done (by kernel_rfl) ?_
    have hqe := hqn20
    refine hK9 _ _ ?_
    refine CW.ret (hret .ret (.inr rfl) _ _ _ (res1 rfl rfl) ?_)
    exact ⟨rfl, hm0⟩

theorem sumLengths_ct (a : Int) (b : UInt8) (w0 : World) (H0 : Heap)
    (ha : -9223372036854775808 ≤ a ∧ a ≤ 9223372036854775807) :
    Ct Try.prog w0 5 #[.int .i64 a, .int .u8 b.toNat] H0 (fun r H2 => r = .bool true ∧ Mo (fun c => False) H0 H2) := by
  refine Ct.enter (args := [.int .i64 a, .int .u8 b.toNat]) Try.func5 rfl rfl rfl ?_
  intro Q0 hret
  have hm0 : Mo (fun c => False) H0 H0 := Mo.refl _ _
  refine CW.seq (fun K1 hK1 hE1 => ?_)
  refine CW.region ?_
  refine LR.v (Y.assign rfl rfl) (Wd.u rfl) rfl rfl ?_
  refine LR.nil ?_
  refine hK1 _ _ ?_
  refine CW.seq (fun K2 hK2 hE2 => ?_)
  refine CW.seq (fun K3 hK3 hE3 => ?_)
  refine CW.region ?_
  -- call selvage/selvagelaw1.known
  refine LR.call rfl Try.call7 rfl (Wd.u rfl) rfl rfl (known_ct w0 _) (fun v7 H7 r7 => ?_)
  obtain ⟨rfl, hs7⟩ := r7
  replace hm0 := hm0.trans hs7 (fun b hb0 hb1 => hb1) (fun b hb0 hb1 => hb1.elim)
  have hz1 := hs7.size
  refine LR.v (Y.not rfl rfl) (Wd.u rfl) rfl rfl ?_
  refine LR.nil ?_
  refine hK3 _ _ ?_
  refine CW.cond_f rfl ?_
  refine CW.skip ?_
  refine hK2 _ _ ?_
  refine CW.seq (fun K4 hK4 hE4 => ?_)
  refine CW.region ?_
  refine LR.v (Y.move rfl rfl) (Wd.u rfl) rfl rfl ?_
  -- call selvage/selvagelaw1.within
  refine LR.call rfl Try.call14 rfl (Wd.u rfl) rfl rfl (within_ct a 300 w0 _ (by omega) ha) (fun v10 H10 r10 => ?_)
  obtain ⟨k10, rfl, hk10, hs10⟩ := r10
  replace hm0 := hm0.trans hs10 (fun b hb0 hb1 => hb1) (fun b hb0 hb1 => hb1.elim)
  have hz2 := hs10.size
  refine LR.z (Z.makew (k10) ((0 : UInt8)) rfl inf24 Try.zeroValue5 rfl fB_len fB_one rfl rfl (by first | rfl | omega) (by omega) (by omega)) (Wd.u rfl) rfl rfl (fun v11 H11 r11 => ?_)
  obtain ⟨ow5, hs11, ob11, hH11⟩ := r11
  have hzs11 : H11.size = H10.size + 1 := by rw [hH11]; simp
  replace hm0 := hm0.trans hs11 (fun b hb0 hb1 => hb1) (fun b hb0 hb1 => hb1.elim)
  have hz3 := hs11.size
  have hle_ow5 := ow5.le
  refine LR.v (Y.assign rfl rfl) (Wd.u rfl) rfl rfl ?_
  refine LR.nil ?_
  refine hK4 _ _ ?_
  refine CW.seq (fun K5 hK5 hE5 => ?_)
  refine CW.seq (fun K6 hK6 hE6 => ?_)
  refine CW.region ?_
  refine LR.v (Y.assign rfl rfl) (Wd.u rfl) rfl rfl ?_
  refine LR.nil ?_
  refine hK6 _ _ ?_
  refine CW.block (fun K7 hK7 hX7 hE7 => ?_)
  refine CW.loop (fun (s : (Nat) × (List UInt8)) => match s with | (i, xs) => [(1, .int .u8 b.toNat), (5, v11), (6, .int .i64 i)])
    (fun (s : (Nat) × (List UInt8)) (H : Heap) => match s with | (i, xs) => (i ≤ k10) ∧ (xs.length = k10) ∧ (Ow (H10.size + 1) 5 H fB 1 v11 xs) ∧ Mo (fun c => c = H10.size) H11 H)
    (fun (s : (Nat) × (List UInt8)) => match s with | (i, xs) => k10 - i) (0, List.replicate k10 0) ⟨rfl, rfl, rfl, trivial⟩ ?_ ?_
  ·
    exact ⟨(by omega), by simp, ow5, Mo.refl _ _⟩
  rintro ⟨i, xs⟩ HL1 hI1 K8 hN8 hE8
  obtain ⟨hi, hxs, ow5, hlm1⟩ := hI1
  replace hm0 := hm0.trans hlm1 (fun b hb0 hb1 => hb1) (fun b hb0 hb1 => by omega)
  have hz4 := hlm1.size
  have hle_ow5 := ow5.le
  refine CW.seq (fun K9 hK9 hE9 => ?_)
  refine CW.seq (fun K10 hK10 hE10 => ?_)
  refine CW.region ?_
  refine LR.v (Y.move rfl rfl) (Wd.u rfl) rfl rfl ?_
  refine LR.v (Y.move rfl rfl) (Wd.u rfl) rfl rfl ?_
  refine LR.v (Y.len ow5.rd rfl Try.runUnderlying24 rfl) (Wd.u rfl) rfl rfl ?_
  refine LR.v (Y.lss rfl rfl rfl) (Wd.u rfl) rfl rfl ?_
  refine LR.nil ?_
  refine hK10 _ _ ?_
  refine CW.condp rfl (fun c15 => ?_) (fun c15 => ?_)
  ·
    refine CW.skip ?_
    refine hK9 _ _ ?_
    refine CW.seq (fun K11 hK11 hE11 => ?_)
    refine CW.block (fun K12 hK12 hX12 hE12 => ?_)
    refine CW.region ?_
    refine LR.v (Y.move rfl rfl) (Wd.u rfl) rfl rfl ?_
    refine LR.v (Y.move rfl rfl) (Wd.u rfl) rfl rfl ?_
    refine LR.v (Y.move rfl rfl) (Wd.u rfl) rfl rfl ?_
    refine LR.v (Y.move rfl rfl) (Wd.u rfl) rfl rfl ?_
    refine LR.v (Y.move rfl rfl) (Wd.u rfl) rfl rfl ?_
    refine LR.v (Y.cast (v2 := .int .i64 ((i * i : Nat) : Int)) (Y.muli rfl rfl rfl (by have h := Nat.mul_le_mul (show i ≤ 300 by omega) (show i ≤ 300 by omega); have h2 : ((i * i : Nat) : Int) = (i : Int) * i := (by simp); omega)) (by simp)) (Wd.u rfl) rfl rfl ?_
    refine LR.v (Y.conv_u8 rfl Try.runUnderlying3 Try.runUnderlying5 rfl) (Wd.u rfl) rfl rfl ?_
    refine LR.v (Y.add_u8 rfl rfl rfl) (Wd.u rfl) rfl rfl ?_
    refine LR.v (Y.owAddr ow5 (i) rfl Try.runUnderlying24 Try.sizeOf5 rfl rfl (by first | rfl | omega) (by first | omega | (simp; omega) | (simp; done))) (Wd.u rfl) rfl rfl ?_
    refine LR.s (S.oww ow5 (i) 0 (b + UInt8.ofNat (i * i)) rfl rfl rfl rfl Try.sizeOf5 (by first | omega | (simp; omega) | (simp; done)) (by decide) (rfl)) (Wd.u rfl) rfl (fun H7_9 r7_9 => ?_)
    obtain ⟨ow5, hs7_9⟩ := r7_9
    replace hm0 := hm0.trans hs7_9 (fun b hb0 hb1 => hb1) (fun b hb0 hb1 => by omega)
    replace hlm1 := hlm1.trans hs7_9 (fun b hb0 hb1 => hb1) (fun b hb0 hb1 => by omega)
    have hz5 := hs7_9.size
    refine LR.nil ?_
    refine hK12 _ _ ?_
    refine hK11 _ _ ?_
    refine CW.region ?_
    refine LR.v (Y.move rfl rfl) (Wd.u rfl) rfl rfl ?_
    refine LR.v (Y.addi rfl rfl rfl (by omega)) (Wd.u rfl) rfl rfl ?_
    refine LR.v (Y.assign rfl rfl) (Wd.u rfl) rfl rfl ?_
    refine LR.nil ?_
    refine QN.sub (hN8 (i + 1, xs.set i (b + UInt8.ofNat (i * i))) _ ?_ ?_) ⟨(iv (by omega)), rfl, (iv (by omega)), trivial⟩
    · exact ⟨(by omega), by simp [hxs], ow5, hlm1⟩
    · first | omega | (simp only; omega) | (simp; omega)
  ·
    refine CW.exit (hE9 (.exit 0) nofun _ _ (hE8 (.exit 0) nofun _ _ (hX7 _ _ ?_)))
    refine hK5 _ _ ?_
    refine CW.seq (fun K13 hK13 hE13 => ?_)
    refine CW.region ?_
    refine LR.v (Y.move rfl rfl) (Wd.u rfl) rfl rfl ?_
    refine LR.z (Z.litw _ ([((toSV v11, xs) : SV × List UInt8)]) rfl inf22 rfl rfl rfl (by decide) (by decide) fP_len fP_one (by simp only [List.map_cons, List.map_nil, fP]; rw [ow5.sv, ow5.rd.cells1])) (Wd.u rfl) rfl rfl (fun v28 H28 r28 => ?_)
    obtain ⟨ow28, hs28, ob28, hH28⟩ := r28
    have hzs28 : H28.size = HL1.size + 1 := by rw [hH28]; simp
    replace hm0 := hm0.trans hs28 (fun b hb0 hb1 => hb1) (fun b hb0 hb1 => hb1.elim)
    replace ow5 := ow5.nw hs28
    have hz6 := hs28.size
    have hle_ow28 := ow28.le
    -- call selvage/sum.Of
    refine LR.call rfl Try.call9 rfl (Wd.u rfl) rfl rfl (pof_ct _ [((toSV v11, xs) : SV × List UInt8)] w0 _ ow28.rd.any (by intro x hx; simp only [List.mem_singleton] at hx; subst hx; simp only; rw [ow5.sv]; exact ow5.rd.any) (by simp [cat, hxs]; omega)) (fun v29 H29 r29 => ?_)
    obtain ⟨rfl, hs29⟩ := r29
    replace hm0 := hm0.trans hs29 (fun b hb0 hb1 => hb1) (fun b hb0 hb1 => hb1.elim)
    replace ow5 := ow5.nw hs29
    replace ow28 := ow28.nw hs29
    have hz7 := hs29.size
    rw [show cat [((toSV v11, xs) : SV × List UInt8)] = xs by simp [cat]]
    refine LR.v (Y.move rfl rfl) (Wd.u rfl) rfl rfl ?_
    -- call selvage/selvageref1.Of
    refine LR.call rfl Try.call10 rfl (Wd.u rfl) rfl rfl (rof_ct _ xs w0 _ ow5.rd.any (by omega)) (fun v31 H31 r31 => ?_)
    obtain ⟨rfl, hs31⟩ := r31
    replace hm0 := hm0.trans hs31 (fun b hb0 hb1 => hb1) (fun b hb0 hb1 => hb1.elim)
    replace ow5 := ow5.nw hs31
    replace ow28 := ow28.nw hs31
    have hz8 := hs31.size
    refine LR.v ((Y.aeql rfl Try.eqGuardType27 (fun w => run_equalIn_id 9998 Try.underlying27 Try.underlying5 Try.sizeOf5 Try.isAgg5 (by simp [sumOf_len]) (by simp [sumOf_len]) w) rfl rfl).isT (rfl)) (Wd.u rfl) rfl rfl ?_
    refine LR.v (Y.assign rfl rfl) (Wd.u rfl) rfl rfl ?_
    refine LR.nil ?_
    refine hK13 _ _ ?_
    refine CW.ret (hret .ret (.inr rfl) _ _ _ (res1 rfl rfl) ?_)
    exact ⟨rfl, hm0⟩


theorem al_add (a b : List UInt8) : UInt64.ofNat a.length + UInt64.ofNat b.length = UInt64.ofNat (a ++ b).length := by rw [List.length_append, UInt64.ofNat_add]

set_option maxHeartbeats 4000000 in
theorem sumWrites_ct (vl va : Value) (l : List (SV × List UInt8)) (asl : List Bool) (w0 : World) (H0 : Heap)
    (hl : RdT H0 fP 1 vl l) (hx : ∀ x ∈ l, RdT H0 fB 1 x.1.v x.2) (hml : (cat l).length ≤ 1048576) (hA : RdT H0 fBo 1 va asl) :
    Ct Try.prog w0 4 #[vl, va] H0 (fun r H2 => r = .bool true ∧ Mo (fun c => False) H0 H2) := by
  refine Ct.enter (args := [vl, va]) Try.func4 rfl rfl rfl ?_
  intro Q0 hret
  replace hl := hl.lt
  replace hx := fun x hx0 => (hx x hx0).lt
  have hll := hl.len
  replace hA := hA.lt
  have hal := hA.len
  have hm0 : Mo (fun c => False) H0 H0 := Mo.refl _ _
  refine CW.seq (fun K1 hK1 hE1 => ?_)
  refine CW.region ?_
  refine LR.v (Y.assign rfl rfl) (Wd.u rfl) rfl rfl ?_
  refine LR.nil ?_
  refine hK1 _ _ ?_
  refine CW.seq (fun K2 hK2 hE2 => ?_)
  refine CW.seq (fun K3 hK3 hE3 => ?_)
  refine CW.region ?_
  -- call selvage/selvagelaw1.known
  refine LR.call rfl Try.call7 rfl (Wd.u rfl) rfl rfl (known_ct w0 _) (fun v10 H10 r10 => ?_)
  obtain ⟨rfl, hs10⟩ := r10
  replace hl := hl.nw hs10
  replace hx := fun x hx0 => (hx x hx0).up hs10 (fun b hb0 hb1 hb2 => hb2)
  replace hA := hA.nw hs10
  replace hm0 := hm0.trans hs10 (fun b hb0 hb1 => hb1) (fun b hb0 hb1 => hb1.elim)
  have hz1 := hs10.size
  refine LR.v (Y.not rfl rfl) (Wd.u rfl) rfl rfl ?_
  refine LR.nil ?_
  refine hK3 _ _ ?_
  refine CW.cond_f rfl ?_
  refine CW.skip ?_
  refine hK2 _ _ ?_
  refine CW.seq (fun K4 hK4 hE4 => ?_)
  refine CW.seq (fun K5 hK5 hE5 => ?_)
  refine CW.region ?_
  refine LR.v (Y.move rfl rfl) (Wd.u rfl) rfl rfl ?_
  -- call selvage/selvagelaw1.all
  refine LR.call rfl Try.call8 rfl (Wd.u rfl) rfl rfl (all_ct _ l w0 _ hl.any (fun x hx0 => (hx x hx0).any) hml) (fun v13 H13 r13 => ?_)
  obtain ⟨v213, kb, rfl, owb, hk13, hs13⟩ := r13
  replace hl := hl.nw hs13
  replace hx := fun x hx0 => (hx x hx0).up hs13 (fun b hb0 hb1 hb2 => hb2)
  replace hA := hA.nw hs13
  replace hm0 := hm0.trans hs13 (fun b hb0 hb1 => hb1) (fun b hb0 hb1 => hb1.elim)
  have hz2 := hs13.size
  have hle_owb := owb.le
  refine LR.v (Y.len owb.rd rfl Try.runUnderlying24 rfl) (Wd.u rfl) rfl rfl ?_
  refine LR.v (Y.gtr rfl rfl rfl) (Wd.u rfl) rfl rfl ?_
  refine LR.nil ?_
  refine hK5 _ _ ?_
  refine CW.condp rfl (fun c15 => ?_) (fun c15 => ?_)
  ·
    refine CW.seq (fun K6 hK6 hE6 => ?_)
    refine CW.region ?_
    refine LR.v (Y.assign rfl rfl) (Wd.u rfl) rfl rfl ?_
    refine LR.nil ?_
    refine hK6 _ _ ?_
    refine CW.ret (hE4 .ret nofun _ _ (hret .ret (.inr rfl) _ _ _ (res1 rfl rfl) ?_))
    exact ⟨rfl, hm0⟩
  ·
    refine CW.skip ?_
    refine hK4 _ _ ?_
    refine CW.seq (fun K7 hK7 hE7 => ?_)
    refine CW.region ?_
    -- call selvage/sum.New
    refine LR.call rfl Try.call11 rfl (Wd.u rfl) rfl rfl (new_ct w0 _) (fun v16 H16 r16 => ?_)
    obtain ⟨rfl, hS, hs16, hz16⟩ := r16
    have hSl := hS.lt
    replace hl := hl.nw hs16
    replace hx := fun x hx0 => (hx x hx0).up hs16 (fun b hb0 hb1 hb2 => hb2)
    replace hA := hA.nw hs16
    replace hm0 := hm0.trans hs16 (fun b hb0 hb1 => hb1) (fun b hb0 hb1 => hb1.elim)
    replace owb := owb.nw hs16
    have hz3 := hs16.size
    have hlt_hS := hS.lt
    refine LR.v (Y.assign rfl rfl) (Wd.u rfl) rfl rfl ?_
    refine LR.nil ?_
    refine hK7 _ _ ?_
    refine CW.seq (fun K8 hK8 hE8 => ?_)
    refine CW.seq (fun K9 hK9 hE9 => ?_)
    refine CW.region ?_
    refine LR.v (Y.move rfl rfl) (Wd.u rfl) rfl rfl ?_
    refine LR.v (Y.cast (v2 := .bool false) (Y.peq rfl (by kernel_rfl) (by kernel_rfl) rfl rfl) rfl) (Wd.u rfl) rfl rfl ?_
    refine LR.nil ?_
    refine hK9 _ _ ?_
    refine CW.cond_f rfl ?_
    refine CW.skip ?_
    refine hK8 _ _ ?_
    refine CW.seq (fun K10 hK10 hE10 => ?_)
    refine CW.region ?_
    refine LR.v (Y.assign rfl rfl) (Wd.u rfl) rfl rfl ?_
    refine LR.nil ?_
    refine hK10 _ _ ?_
    refine CW.seq (fun K11 hK11 hE11 => ?_)
    refine CW.seq (fun K12 hK12 hE12 => ?_)
    replace hS : HS H16 H13.size (cat (l.take 0)) (UInt64.ofNat (cat (l.take 0)).length) := hS
    refine CW.region ?_
    refine LR.v (Y.assign rfl rfl) (Wd.u rfl) rfl rfl ?_
    refine LR.nil ?_
    refine hK12 _ _ ?_
    refine CW.block (fun K13 hK13 hX13 hE13 => ?_)
    -- WARN live slot not in fl: 24
    -- WARN live slot not in fl: 25
    -- WARN live slot not in fl: 59
    -- WARN live slot not in fl: 60
    -- WARN live slot not in fl: 61
    -- WARN live slot not in fl: 62
    -- WARN live slot not in fl: 65
    -- WARN live slot not in fl: 66
    -- WARN live slot not in fl: 67
    -- WARN live slot not in fl: 68
    -- WARN live slot not in fl: 69
    refine CW.loop (fun (s : (Nat) × (Value) × (Nat)) => match s with | (i, v6, k6) => [(0, vl), (1, va), (5, .pointer (some ⟨H13.size, 0, none⟩)), (6, v6), (7, .int .i64 i)])
      (fun (s : (Nat) × (Value) × (Nat)) (H : Heap) => match s with | (i, v6, k6) => (i ≤ l.length) ∧ (HS H H13.size (cat (l.take i)) (UInt64.ofNat (cat (l.take i)).length)) ∧ (Ow k6 5 H fB 1 v6 (cat (l.take i))) ∧ (k6 = 0 ∨ H16.size < k6) ∧ Mo (fun c => c = H13.size) H16 H)
      (fun (s : (Nat) × (Value) × (Nat)) => match s with | (i, v6, k6) => l.length - i) (0, .slice none 0 0, 0) ⟨rfl, rfl, rfl, rfl, rfl, trivial⟩ ?_ ?_
    ·
      exact ⟨(by omega), hS, by simpa [cat] using Ow.nil fB_len fB_one, (by omega), Mo.refl _ _⟩
    rintro ⟨i, v6, k6⟩ HL1 hI1 K14 hN14 hE14
    obtain ⟨hi, hS, ow6, hk6, hlm1⟩ := hI1
    replace hl := hl.up hlm1 (fun b hb0 hb1 hb2 => by omega)
    replace hx := fun x hx0 => (hx x hx0).up hlm1 (fun b hb0 hb1 hb2 => by omega)
    replace hA := hA.up hlm1 (fun b hb0 hb1 hb2 => by omega)
    replace hm0 := hm0.trans hlm1 (fun b hb0 hb1 => hb1) (fun b hb0 hb1 => by omega)
    replace owb := owb.up hlm1 (fun b hb0 hb1 hb2 => by omega)
    have hz4 := hlm1.size
    have hlt_hS := hS.lt
    have hle_ow6 := ow6.le
    have hcl0 := cat_le l i
    refine CW.seq (fun K15 hK15 hE15 => ?_)
    refine CW.seq (fun K16 hK16 hE16 => ?_)
    refine CW.region ?_
    refine LR.v (Y.move rfl rfl) (Wd.u rfl) rfl rfl ?_
    refine LR.v (Y.move rfl rfl) (Wd.u rfl) rfl rfl ?_
    refine LR.v (Y.len hl rfl Try.runUnderlying22 rfl) (Wd.u rfl) rfl rfl ?_
    refine LR.v (Y.lss rfl rfl rfl) (Wd.u rfl) rfl rfl ?_
    refine LR.v (Y.move rfl rfl) (Wd.u rfl) rfl rfl ?_
    refine LR.splitp (d := 23) rfl (fun g23 => ?_) (fun g23 => ?_)
    ·
      refine LR.v (Y.move rfl rfl) (Wd.g rfl rfl rfl) rfl rfl ?_
      refine LR.v (Y.lss rfl rfl rfl) (Wd.g rfl rfl rfl) rfl rfl ?_
      refine LR.v (Y.pick_t rfl rfl rfl) (Wd.u rfl) rfl rfl ?_
      refine LR.nil ?_
      refine hK16 _ _ ?_
      refine CW.condp rfl (fun c26 => ?_) (fun c26 => ?_)
      ·
        refine CW.skip ?_
        refine hK15 _ _ ?_
        refine CW.seq (fun K17 hK17 hE17 => ?_)
        refine CW.block (fun K18 hK18 hX18 hE18 => ?_)
        refine CW.seq (fun K19 hK19 hE19 => ?_)
        refine CW.region ?_
        refine LR.z (Z.litw _ (([] : List UInt8)) rfl inf24 rfl rfl rfl (by decide) (by decide) fB_len fB_one (rfl)) (Wd.u rfl) rfl rfl (fun v29 H29 r29 => ?_)
        obtain ⟨ow29, hs29, ob29, hH29⟩ := r29
        have hzs29 : H29.size = HL1.size + 1 := by rw [hH29]; simp
        replace hl := hl.nw hs29
        replace hx := fun x hx0 => (hx x hx0).up hs29 (fun b hb0 hb1 hb2 => hb2)
        replace hA := hA.nw hs29
        replace hm0 := hm0.trans hs29 (fun b hb0 hb1 => hb1) (fun b hb0 hb1 => hb1.elim)
        replace owb := owb.nw hs29
        replace hS := hS.nw hs29
        replace ow6 := ow6.nw hs29
        replace hlm1 := hlm1.trans hs29 (fun b hb0 hb1 => hb1) (fun b hb0 hb1 => hb1.elim)
        have hz5 := hs29.size
        have hle_ow29 := ow29.le
        refine LR.v (Y.move rfl rfl) (Wd.u rfl) rfl rfl ?_
        refine LR.v (Y.move rfl rfl) (Wd.u rfl) rfl rfl ?_
        refine LR.e (g := fun ad => .pointer (some ad)) (Y.indexAddr hl (i) rfl Try.runUnderlying22 Try.sizeOf24 rfl rfl (by first | rfl | omega) (by first | omega | (simp; omega) | (simp; done))) (Wd.u rfl) rfl rfl (fun ad32 pt32 => ?_)
        refine LR.v (Y.load1 pt32 rfl Try.isAgg24 rfl) (Wd.u rfl) rfl rfl ?_
        have hr := hx l[i] (List.getElem_mem _)
        have hcl := cat_le l (i + 1)
        have hct := cat_take l i (by omega)
        rw [hct, List.length_append] at hcl
        refine LR.z (Z.apnd ow29 hr rfl inf24 rfl rfl (by first | omega | (simp; omega)) (by first | omega | (simp; omega))) (Wd.u rfl) rfl rfl (fun v34 H34 r34 => ?_)
        obtain ⟨k8, ow8, hk34, hs34⟩ := r34
        replace hl := hl.up hs34 (fun b hb0 hb1 hb2 => by omega)
        replace hx := fun x hx0 => (hx x hx0).up hs34 (fun b hb0 hb1 hb2 => by omega)
        replace hA := hA.up hs34 (fun b hb0 hb1 hb2 => by omega)
        replace hm0 := hm0.trans hs34 (fun b hb0 hb1 => hb1) (fun b hb0 hb1 => by omega)
        replace owb := owb.up hs34 (fun b hb0 hb1 hb2 => by omega)
        replace hS := hS.up hs34 (by omega)
        replace ow6 := ow6.up hs34 (fun b hb0 hb1 hb2 => by omega)
        replace hlm1 := hlm1.trans hs34 (fun b hb0 hb1 => hb1) (fun b hb0 hb1 => by omega)
        replace hr := hr.up hs34 (fun b hb0 hb1 hb2 => by omega)
        have hz6 := hs34.size
        have hle_ow8 := ow8.le
        rw [List.nil_append] at ow8
        refine LR.v (Y.assign rfl rfl) (Wd.u rfl) rfl rfl ?_
        refine LR.nil ?_
        refine hK19 _ _ ?_
        refine CW.seq (fun K20 hK20 hE20 => ?_)
        refine CW.region ?_
        refine LR.v (Y.move rfl rfl) (Wd.u rfl) rfl rfl ?_
        refine LR.v (Y.move rfl rfl) (Wd.u rfl) rfl rfl ?_
        refine LR.z (Z.litw _ ([((toSV v34, (l[i]).2) : SV × List UInt8)]) rfl inf22 rfl rfl rfl (by decide) (by decide) fP_len fP_one (by simp only [List.map_cons, List.map_nil, fP]; rw [ow8.sv, ow8.rd.cells1])) (Wd.u rfl) rfl rfl (fun v37 H37 r37 => ?_)
        obtain ⟨ow37, hs37, ob37, hH37⟩ := r37
        have hzs37 : H37.size = H34.size + 1 := by rw [hH37]; simp
        replace hl := hl.nw hs37
        replace hx := fun x hx0 => (hx x hx0).up hs37 (fun b hb0 hb1 hb2 => hb2)
        replace hA := hA.nw hs37
        replace hm0 := hm0.trans hs37 (fun b hb0 hb1 => hb1) (fun b hb0 hb1 => hb1.elim)
        replace owb := owb.nw hs37
        replace hS := hS.nw hs37
        replace ow6 := ow6.nw hs37
        replace hlm1 := hlm1.trans hs37 (fun b hb0 hb1 => hb1) (fun b hb0 hb1 => hb1.elim)
        replace hr := hr.nw hs37
        replace ow8 := ow8.nw hs37
        have hz7 := hs37.size
        have hle_ow37 := ow37.le
        -- call (*selvage/sum.Hash).Write
        refine LR.call rfl Try.call12 rfl (Wd.u rfl) rfl rfl (write_ct H13.size _ (cat (l.take i)) (UInt64.ofNat (cat (l.take i)).length) [((toSV v34, (l[i]).2) : SV × List UInt8)] w0 _ hS (ow37.rd.imp (fun b _ h => by omega)) (by intro x hx; simp only [List.mem_singleton] at hx; subst hx; simp only; rw [ow8.sv]; exact ow8.rd.imp (fun b _ h => by omega))) (fun v38 H38 r38 => ?_)
        obtain ⟨rfl, hS, hs38⟩ := r38
        have hc1 : cat [((toSV v34, (l[i]).2) : SV × List UInt8)] = (l[i]).2 := by simp [cat]
        rw [hc1, al_add, ← hct] at hS
        replace hl := hl.up hs38 (fun b hb0 hb1 hb2 => by omega)
        replace hx := fun x hx0 => (hx x hx0).up hs38 (fun b hb0 hb1 hb2 => by omega)
        replace hA := hA.up hs38 (fun b hb0 hb1 hb2 => by omega)
        replace hm0 := hm0.trans hs38 (fun b hb0 hb1 => hb1) (fun b hb0 hb1 => by omega)
        replace owb := owb.up hs38 (fun b hb0 hb1 hb2 => by omega)
        replace ow6 := ow6.up hs38 (fun b hb0 hb1 hb2 => by omega)
        replace hlm1 := hlm1.trans hs38 (fun b hb0 hb1 => hb1) (fun b hb0 hb1 => by omega)
        replace hr := hr.up hs38 (fun b hb0 hb1 hb2 => by omega)
        replace ow8 := ow8.up hs38 (fun b hb0 hb1 hb2 => by omega)
        replace ow37 := ow37.up hs38 (fun b hb0 hb1 hb2 => by omega)
        have hz8 := hs38.size
        refine LR.nil ?_
        refine hK20 _ _ ?_
        refine CW.seq (fun K21 hK21 hE21 => ?_)
        refine CW.region ?_
        refine LR.v (Y.move rfl rfl) (Wd.u rfl) rfl rfl ?_
        refine LR.v (Y.move rfl rfl) (Wd.u rfl) rfl rfl ?_
        refine LR.v (Y.move rfl rfl) (Wd.u rfl) rfl rfl ?_
        refine LR.e (g := fun ad => .pointer (some ad)) (Y.indexAddr hl (i) rfl Try.runUnderlying22 Try.sizeOf24 rfl rfl (by first | rfl | omega) (by first | omega | (simp; omega) | (simp; done))) (Wd.u rfl) rfl rfl (fun ad42 pt42 => ?_)
        refine LR.v (Y.load1 pt42 rfl Try.isAgg24 rfl) (Wd.u rfl) rfl rfl ?_
        refine LR.z (Z.apnd ow6 hr rfl inf24 rfl rfl (by first | omega | (simp; omega)) (by first | omega | (simp; omega))) (Wd.u rfl) rfl rfl (fun v44 H44 r44 => ?_)
        obtain ⟨k44, ow44, hk44, hs44⟩ := r44
        replace hl := hl.up hs44 (fun b hb0 hb1 hb2 => by omega)
        replace hx := fun x hx0 => (hx x hx0).up hs44 (fun b hb0 hb1 hb2 => by omega)
        replace hA := hA.up hs44 (fun b hb0 hb1 hb2 => by omega)
        replace hm0 := hm0.trans hs44 (fun b hb0 hb1 => hb1) (fun b hb0 hb1 => by omega)
        replace owb := owb.up hs44 (fun b hb0 hb1 hb2 => by omega)
        replace hS := hS.up hs44 (by omega)
        replace hlm1 := hlm1.trans hs44 (fun b hb0 hb1 => hb1) (fun b hb0 hb1 => by omega)
        replace hr := hr.up hs44 (fun b hb0 hb1 hb2 => by omega)
        replace ow8 := ow8.up hs44 (fun b hb0 hb1 hb2 => by omega)
        replace ow37 := ow37.up hs44 (fun b hb0 hb1 hb2 => by omega)
        have hz9 := hs44.size
        have hle_ow44 := ow44.le
        rw [← hct] at ow44
        refine LR.v (Y.assign rfl rfl) (Wd.u rfl) rfl rfl ?_
        refine LR.nil ?_
        refine hK21 _ _ ?_
        refine CW.seq (fun K22 hK22 hE22 => ?_)
        refine CW.seq (fun K23 hK23 hE23 => ?_)
        refine CW.region ?_
        refine LR.v (Y.assign rfl rfl) (Wd.u rfl) rfl rfl ?_
        refine LR.nil ?_
        refine hK23 _ _ ?_
        refine CW.block (fun K24 hK24 hX24 hE24 => ?_)
        -- WARN live slot not in fl: 59
        -- WARN live slot not in fl: 60
        -- WARN live slot not in fl: 61
        -- WARN live slot not in fl: 62
        -- WARN live slot not in fl: 65
        -- WARN live slot not in fl: 66
        -- WARN live slot not in fl: 67
        -- WARN live slot not in fl: 68
        -- WARN live slot not in fl: 69
        refine CW.loop (fun (s : (Nat) × (List UInt8)) => match s with | (k, xs) => [(0, vl), (1, va), (5, .pointer (some ⟨H13.size, 0, none⟩)), (6, v44), (7, .int .i64 i), (8, v34), (9, .int .i64 k)])
          (fun (s : (Nat) × (List UInt8)) (H : Heap) => match s with | (k, xs) => (k ≤ xs.length) ∧ (Ow k8 5 H fB 1 v34 xs) ∧ Mo (fun c => c + 1 = k8) H44 H)
          (fun (s : (Nat) × (List UInt8)) => match s with | (k, xs) => xs.length - k) (0, (l[i]).2) ⟨rfl, rfl, rfl, rfl, rfl, rfl, rfl, trivial⟩ ?_ ?_
        ·
          exact ⟨(by omega), ow8, Mo.refl _ _⟩
        rintro ⟨k, xs⟩ HL2 hI2 K25 hN25 hE25
        obtain ⟨hkx, ow8, hlm2⟩ := hI2
        replace hl := hl.up hlm2 (fun b hb0 hb1 hb2 => by omega)
        replace hx := fun x hx0 => (hx x hx0).up hlm2 (fun b hb0 hb1 hb2 => by omega)
        replace hA := hA.up hlm2 (fun b hb0 hb1 hb2 => by omega)
        replace hm0 := hm0.trans hlm2 (fun b hb0 hb1 => hb1) (fun b hb0 hb1 => by omega)
        replace owb := owb.up hlm2 (fun b hb0 hb1 hb2 => by omega)
        replace hS := hS.up hlm2 (by omega)
        replace hlm1 := hlm1.trans hlm2 (fun b hb0 hb1 => hb1) (fun b hb0 hb1 => by omega)
        replace hr := hr.up hlm2 (fun b hb0 hb1 hb2 => by omega)
        replace ow37 := ow37.up hlm2 (fun b hb0 hb1 hb2 => by omega)
        replace ow44 := ow44.up hlm2 (fun b hb0 hb1 hb2 => by omega)
        have hz10 := hlm2.size
        have hle_ow8 := ow8.le
        have hxl := ow8.len
        refine CW.seq (fun K26 hK26 hE26 => ?_)
        refine CW.seq (fun K27 hK27 hE27 => ?_)
        refine CW.region ?_
        refine LR.v (Y.move rfl rfl) (Wd.u rfl) rfl rfl ?_
        refine LR.v (Y.move rfl rfl) (Wd.u rfl) rfl rfl ?_
        refine LR.v (Y.len ow8.rd rfl Try.runUnderlying24 rfl) (Wd.u rfl) rfl rfl ?_
        refine LR.v (Y.lss rfl rfl rfl) (Wd.u rfl) rfl rfl ?_
        refine LR.nil ?_
        refine hK27 _ _ ?_
        refine CW.condp rfl (fun c48 => ?_) (fun c48 => ?_)
        ·
          refine CW.skip ?_
          refine hK26 _ _ ?_
          refine CW.seq (fun K28 hK28 hE28 => ?_)
          refine CW.block (fun K29 hK29 hX29 hE29 => ?_)
          refine CW.region ?_
          refine LR.v (Y.move rfl rfl) (Wd.u rfl) rfl rfl ?_
          refine LR.v (Y.move rfl rfl) (Wd.u rfl) rfl rfl ?_
          refine LR.v (Y.owAddr ow8 (k) rfl Try.runUnderlying24 Try.sizeOf5 rfl rfl (by first | rfl | omega) (by first | omega | (simp; omega) | (simp; done))) (Wd.u rfl) rfl rfl ?_
          refine LR.s (S.oww ow8 (k) 0 ((0xEE : UInt8)) rfl rfl rfl rfl Try.sizeOf5 (by first | omega | (simp; omega) | (simp; done)) (by decide) (rfl)) (Wd.u rfl) rfl (fun H18_3 r18_3 => ?_)
          obtain ⟨ow8, hs18_3⟩ := r18_3
          replace hl := hl.up hs18_3 (fun b hb0 hb1 hb2 => by omega)
          replace hx := fun x hx0 => (hx x hx0).up hs18_3 (fun b hb0 hb1 hb2 => by omega)
          replace hA := hA.up hs18_3 (fun b hb0 hb1 hb2 => by omega)
          replace hm0 := hm0.trans hs18_3 (fun b hb0 hb1 => hb1) (fun b hb0 hb1 => by omega)
          replace owb := owb.up hs18_3 (fun b hb0 hb1 hb2 => by omega)
          replace hS := hS.up hs18_3 (by omega)
          replace hlm1 := hlm1.trans hs18_3 (fun b hb0 hb1 => hb1) (fun b hb0 hb1 => by omega)
          replace hr := hr.up hs18_3 (fun b hb0 hb1 hb2 => by omega)
          replace ow37 := ow37.up hs18_3 (fun b hb0 hb1 hb2 => by omega)
          replace ow44 := ow44.up hs18_3 (fun b hb0 hb1 hb2 => by omega)
          replace hlm2 := hlm2.trans hs18_3 (fun b hb0 hb1 => hb1) (fun b hb0 hb1 => by omega)
          have hz11 := hs18_3.size
          refine LR.nil ?_
          refine hK29 _ _ ?_
          refine hK28 _ _ ?_
          refine CW.region ?_
          refine LR.v (Y.move rfl rfl) (Wd.u rfl) rfl rfl ?_
          refine LR.v (Y.addi rfl rfl rfl (by omega)) (Wd.u rfl) rfl rfl ?_
          refine LR.v (Y.assign rfl rfl) (Wd.u rfl) rfl rfl ?_
          refine LR.nil ?_
          refine QN.sub (hN25 (k + 1, xs.set k 0xEE) _ ?_ ?_) ⟨rfl, rfl, rfl, rfl, (iv (by omega)), rfl, (iv (by omega)), trivial⟩
          · exact ⟨(by simp; omega), ow8, hlm2⟩
          · simp only [List.length_set]; omega
        ·
          refine CW.exit (hE26 (.exit 2) nofun _ _ (hE25 (.exit 2) nofun _ _ (hX24 _ _ ?_)))
          refine hK22 _ _ ?_
          refine CW.seq (fun K30 hK30 hE30 => ?_)
          refine CW.region ?_
          refine LR.v (Y.move rfl rfl) (Wd.u rfl) rfl rfl ?_
          refine LR.v (Y.move rfl rfl) (Wd.u rfl) rfl rfl ?_
          refine LR.v (Y.len hA rfl Try.runUnderlying31 rfl) (Wd.u rfl) rfl rfl ?_
          refine LR.v (Y.lss rfl rfl rfl) (Wd.u rfl) rfl rfl ?_
          refine LR.v (Y.move rfl rfl) (Wd.u rfl) rfl rfl ?_
          refine LR.splitp (d := 58) rfl (fun g58 => ?_) (fun g58 => ?_)
          ·
            refine LR.v (Y.move rfl rfl) (Wd.g rfl rfl rfl) rfl rfl ?_
            refine LR.v (Y.move rfl rfl) (Wd.g rfl rfl rfl) rfl rfl ?_
            refine LR.e (g := fun ad => .pointer (some ad)) (Y.indexAddr hA (i) rfl Try.runUnderlying31 Try.sizeOf4 rfl rfl (by first | rfl | omega) (by first | omega | (simp; omega) | (simp; done))) (Wd.g rfl rfl rfl) rfl rfl (fun ad61 pt61 => ?_)
            refine LR.v (Y.load1 pt61 rfl Try.isAgg4 rfl) (Wd.g rfl rfl rfl) rfl rfl ?_
            refine LR.v (Y.pick_t rfl rfl rfl) (Wd.u rfl) rfl rfl ?_
            refine LR.v (Y.move rfl rfl) (Wd.u rfl) rfl rfl ?_
            refine LR.split (d := 64) rfl (fun g64 => ?_) (fun g64 => ?_)
            ·
              refine LR.v (Y.move rfl rfl) (Wd.g rfl rfl rfl) rfl rfl ?_
              -- call (*selvage/sum.Hash).Sum
              refine LR.call rfl Try.call13 rfl (Wd.g rfl rfl rfl) rfl rfl (psum_ct _ _ w0 _ hS (by rw [hct, List.length_append]; omega)) (fun v66 H66 r66 => ?_)
              obtain ⟨rfl, hs66⟩ := r66
              replace hl := hl.nw hs66
              replace hx := fun x hx0 => (hx x hx0).up hs66 (fun b hb0 hb1 hb2 => hb2)
              replace hA := hA.nw hs66
              replace hm0 := hm0.trans hs66 (fun b hb0 hb1 => hb1) (fun b hb0 hb1 => hb1.elim)
              replace owb := owb.nw hs66
              replace hS := hS.nw hs66
              replace hlm1 := hlm1.trans hs66 (fun b hb0 hb1 => hb1) (fun b hb0 hb1 => hb1.elim)
              replace hr := hr.nw hs66
              replace ow37 := ow37.nw hs66
              replace ow44 := ow44.nw hs66
              replace ow8 := ow8.nw hs66
              have hz12 := hs66.size
              refine LR.v (Y.move rfl rfl) (Wd.g rfl rfl rfl) rfl rfl ?_
              -- call selvage/selvageref1.Of
              refine LR.call rfl Try.call10 rfl (Wd.g rfl rfl rfl) rfl rfl (rof_ct _ _ w0 _ ow44.rd.any (by rw [hct, List.length_append]; omega)) (fun v68 H68 r68 => ?_)
              obtain ⟨rfl, hs68⟩ := r68
              replace hl := hl.nw hs68
              replace hx := fun x hx0 => (hx x hx0).up hs68 (fun b hb0 hb1 hb2 => hb2)
              replace hA := hA.nw hs68
              replace hm0 := hm0.trans hs68 (fun b hb0 hb1 => hb1) (fun b hb0 hb1 => hb1.elim)
              replace owb := owb.nw hs68
              replace hS := hS.nw hs68
              replace hlm1 := hlm1.trans hs68 (fun b hb0 hb1 => hb1) (fun b hb0 hb1 => hb1.elim)
              replace hr := hr.nw hs68
              replace ow37 := ow37.nw hs68
              replace ow44 := ow44.nw hs68
              replace ow8 := ow8.nw hs68
              have hz13 := hs68.size
              refine LR.v ((Y.aneq rfl Try.eqGuardType27 (fun w => run_equalIn_id 9998 Try.underlying27 Try.underlying5 Try.sizeOf5 Try.isAgg5 (by simp [sumOf_len]) (by simp [sumOf_len]) w) rfl rfl).isF (fun h => h rfl)) (Wd.g rfl rfl rfl) rfl rfl ?_
              refine LR.v (Y.pick_t rfl rfl rfl) (Wd.u rfl) rfl rfl ?_
              refine LR.nil ?_
              refine hK30 _ _ ?_
              refine CW.cond_f rfl ?_
              refine CW.skip ?_
              refine hK18 _ _ ?_
              refine hK17 _ _ ?_
              refine CW.region ?_
              refine LR.v (Y.move rfl rfl) (Wd.u rfl) rfl rfl ?_
              refine LR.v (Y.addi rfl rfl rfl (by omega)) (Wd.u rfl) rfl rfl ?_
              refine LR.v (Y.assign rfl rfl) (Wd.u rfl) rfl rfl ?_
              refine LR.nil ?_
              refine QN.sub (hN14 (i + 1, v44, k44) _ ?_ ?_) ⟨rfl, rfl, rfl, rfl, (iv (by omega)), trivial⟩
              · exact ⟨(by omega), hS, ow44, (by omega), hlm1⟩
              · first | omega | (simp only; omega) | (simp; omega)
            ·
              refine LR.gs rfl rfl rfl rfl rfl rfl ?_
              refine LR.gs rfl rfl rfl rfl rfl rfl ?_
              refine LR.gs rfl rfl rfl rfl rfl rfl ?_
              refine LR.gs rfl rfl rfl rfl rfl rfl ?_
              refine LR.gs rfl rfl rfl rfl rfl rfl ?_
              refine LR.v (Y.pick_f rfl rfl rfl) (Wd.u rfl) rfl rfl ?_
              refine LR.nil ?_
              refine hK30 _ _ ?_
              refine CW.cond_f rfl ?_
              refine CW.skip ?_
              refine hK18 _ _ ?_
              refine hK17 _ _ ?_
              refine CW.region ?_
              refine LR.v (Y.move rfl rfl) (Wd.u rfl) rfl rfl ?_
              refine LR.v (Y.addi rfl rfl rfl (by omega)) (Wd.u rfl) rfl rfl ?_
              refine LR.v (Y.assign rfl rfl) (Wd.u rfl) rfl rfl ?_
              refine LR.nil ?_
              refine QN.sub (hN14 (i + 1, v44, k44) _ ?_ ?_) ⟨rfl, rfl, rfl, rfl, (iv (by omega)), trivial⟩
              · exact ⟨(by omega), hS, ow44, (by omega), hlm1⟩
              · first | omega | (simp only; omega) | (simp; omega)
          ·
            refine LR.gs rfl rfl rfl rfl rfl rfl ?_
            refine LR.gs rfl rfl rfl rfl rfl rfl ?_
            refine LR.gs rfl rfl rfl rfl rfl rfl ?_
            refine LR.gs rfl rfl rfl rfl rfl rfl ?_
            refine LR.v (Y.pick_f rfl rfl rfl) (Wd.u rfl) rfl rfl ?_
            refine LR.v (Y.move rfl rfl) (Wd.u rfl) rfl rfl ?_
            refine LR.gs rfl rfl rfl rfl rfl rfl ?_
            refine LR.gs rfl rfl rfl rfl rfl rfl ?_
            refine LR.gs rfl rfl rfl rfl rfl rfl ?_
            refine LR.gs rfl rfl rfl rfl rfl rfl ?_
            refine LR.gs rfl rfl rfl rfl rfl rfl ?_
            refine LR.v (Y.pick_f rfl rfl rfl) (Wd.u rfl) rfl rfl ?_
            refine LR.nil ?_
            refine hK30 _ _ ?_
            refine CW.cond_f rfl ?_
            refine CW.skip ?_
            refine hK18 _ _ ?_
            refine hK17 _ _ ?_
            refine CW.region ?_
            refine LR.v (Y.move rfl rfl) (Wd.u rfl) rfl rfl ?_
            refine LR.v (Y.addi rfl rfl rfl (by omega)) (Wd.u rfl) rfl rfl ?_
            refine LR.v (Y.assign rfl rfl) (Wd.u rfl) rfl rfl ?_
            refine LR.nil ?_
            refine QN.sub (hN14 (i + 1, v44, k44) _ ?_ ?_) ⟨rfl, rfl, rfl, rfl, (iv (by omega)), trivial⟩
            · exact ⟨(by omega), hS, ow44, (by omega), hlm1⟩
            · first | omega | (simp only; omega) | (simp; omega)
      ·
        refine CW.exit (hE15 (.exit 0) nofun _ _ (hE14 (.exit 0) nofun _ _ (hX13 _ _ ?_)))
        refine hK11 _ _ ?_
        refine CW.seq (fun K31 hK31 hE31 => ?_)
        refine CW.region ?_
        refine LR.v (Y.move rfl rfl) (Wd.u rfl) rfl rfl ?_
        -- call (*selvage/sum.Hash).Sum
        refine LR.call rfl Try.call13 rfl (Wd.u rfl) rfl rfl (psum_ct _ _ w0 _ hS (by omega)) (fun v72 H72 r72 => ?_)
        obtain ⟨rfl, hs72⟩ := r72
        replace hl := hl.nw hs72
        replace hx := fun x hx0 => (hx x hx0).up hs72 (fun b hb0 hb1 hb2 => hb2)
        replace hA := hA.nw hs72
        replace hm0 := hm0.trans hs72 (fun b hb0 hb1 => hb1) (fun b hb0 hb1 => hb1.elim)
        replace owb := owb.nw hs72
        replace hS := hS.nw hs72
        replace ow6 := ow6.nw hs72
        have hz14 := hs72.size
        refine LR.v (Y.move rfl rfl) (Wd.u rfl) rfl rfl ?_
        -- call selvage/selvageref1.Of
        refine LR.call rfl Try.call10 rfl (Wd.u rfl) rfl rfl (rof_ct _ _ w0 _ ow6.rd.any (by omega)) (fun v74 H74 r74 => ?_)
        obtain ⟨rfl, hs74⟩ := r74
        replace hl := hl.nw hs74
        replace hx := fun x hx0 => (hx x hx0).up hs74 (fun b hb0 hb1 hb2 => hb2)
        replace hA := hA.nw hs74
        replace hm0 := hm0.trans hs74 (fun b hb0 hb1 => hb1) (fun b hb0 hb1 => hb1.elim)
        replace owb := owb.nw hs74
        replace hS := hS.nw hs74
        replace ow6 := ow6.nw hs74
        have hz15 := hs74.size
        refine LR.v ((Y.aeql rfl Try.eqGuardType27 (fun w => run_equalIn_id 9998 Try.underlying27 Try.underlying5 Try.sizeOf5 Try.isAgg5 (by simp [sumOf_len]) (by simp [sumOf_len]) w) rfl rfl).isT (rfl)) (Wd.u rfl) rfl rfl ?_
        refine LR.v (Y.assign rfl rfl) (Wd.u rfl) rfl rfl ?_
        refine LR.nil ?_
        refine hK31 _ _ ?_
        refine CW.ret (hret .ret (.inr rfl) _ _ _ (res1 rfl rfl) ?_)
        exact ⟨rfl, hm0⟩
    ·
      refine LR.gs rfl rfl rfl rfl rfl rfl ?_
      refine LR.gs rfl rfl rfl rfl rfl rfl ?_
      refine LR.v (Y.pick_f rfl rfl rfl) (Wd.u rfl) rfl rfl ?_
      refine LR.nil ?_
      refine hK16 _ _ ?_
      refine CW.cond_f rfl ?_
      refine CW.exit (hE15 (.exit 0) nofun _ _ (hE14 (.exit 0) nofun _ _ (hX13 _ _ ?_)))
      refine hK11 _ _ ?_
      refine CW.seq (fun K32 hK32 hE32 => ?_)
      refine CW.region ?_
      refine LR.v (Y.move rfl rfl) (Wd.u rfl) rfl rfl ?_
      -- call (*selvage/sum.Hash).Sum
      refine LR.call rfl Try.call13 rfl (Wd.u rfl) rfl rfl (psum_ct _ _ w0 _ hS (by omega)) (fun v72 H72 r72 => ?_)
      obtain ⟨rfl, hs72⟩ := r72
      replace hl := hl.nw hs72
      replace hx := fun x hx0 => (hx x hx0).up hs72 (fun b hb0 hb1 hb2 => hb2)
      replace hA := hA.nw hs72
      replace hm0 := hm0.trans hs72 (fun b hb0 hb1 => hb1) (fun b hb0 hb1 => hb1.elim)
      replace owb := owb.nw hs72
      replace hS := hS.nw hs72
      replace ow6 := ow6.nw hs72
      have hz16 := hs72.size
      refine LR.v (Y.move rfl rfl) (Wd.u rfl) rfl rfl ?_
      -- call selvage/selvageref1.Of
      refine LR.call rfl Try.call10 rfl (Wd.u rfl) rfl rfl (rof_ct _ _ w0 _ ow6.rd.any (by omega)) (fun v74 H74 r74 => ?_)
      obtain ⟨rfl, hs74⟩ := r74
      replace hl := hl.nw hs74
      replace hx := fun x hx0 => (hx x hx0).up hs74 (fun b hb0 hb1 hb2 => hb2)
      replace hA := hA.nw hs74
      replace hm0 := hm0.trans hs74 (fun b hb0 hb1 => hb1) (fun b hb0 hb1 => hb1.elim)
      replace owb := owb.nw hs74
      replace hS := hS.nw hs74
      replace ow6 := ow6.nw hs74
      have hz17 := hs74.size
      refine LR.v ((Y.aeql rfl Try.eqGuardType27 (fun w => run_equalIn_id 9998 Try.underlying27 Try.underlying5 Try.sizeOf5 Try.isAgg5 (by simp [sumOf_len]) (by simp [sumOf_len]) w) rfl rfl).isT (rfl)) (Wd.u rfl) rfl rfl ?_
      refine LR.v (Y.assign rfl rfl) (Wd.u rfl) rfl rfl ?_
      refine LR.nil ?_
      refine hK32 _ _ ?_
      refine CW.ret (hret .ret (.inr rfl) _ _ _ (res1 rfl rfl) ?_)
      exact ⟨rfl, hm0⟩

end Go.Proofs.Ytgcnkjnbdeihhaa.SumJ
