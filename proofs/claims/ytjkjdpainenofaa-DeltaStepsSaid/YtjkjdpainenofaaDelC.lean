/-
  A delta made, by the document.
-/
import Derived.Test.YtjkjdpainenofaaDelB
namespace Go.Proofs.Ytjkjdpainenofaa.DelC
open Go.Proofs.Ytjkjdpainenofaa.E Go.RowKit Go.Proofs.Ytjkjdpainenofaa.Num Go.Proofs.Ytjkjdpainenofaa.DelA Go.Proofs.Ytjkjdpainenofaa.DelB
set_option linter.unusedVariables false
set_option linter.unusedSimpArgs false
set_option linter.unusedSectionVars false
theorem inf22 : Inf Try.prog 22 5 1 1 := ⟨Try.underlying22, _, _, rfl, rfl, rfl, rfl, rfl⟩

theorem num_of (n : Nat) (h : n ≤ 1048576) : numL 4 (UInt64.ofNat n) = be32 n := num_be32 n (by omega)

set_option maxHeartbeats 4000000 in
theorem rmake_ct (v1 v2 : Value) (bs tg : List UInt8) (w0 : World) (H0 : Heap)
    (hb : RdT H0 fB 1 v1 bs) (ht : RdT H0 fB 1 v2 tg) (hbl : bs.length ≤ 1048576) (htl : tg.length ≤ 1048576) :
    Ct Try.prog w0 11 #[v1, v2] H0 (fun r H2 => ∃ v : Value, ∃ k : Nat, ∃ p : Nat, ∃ s : Nat, r = v ∧ (Edg bs tg p s) ∧ (Ow k 5 H2 fB 1 v (mkL bs tg p s)) ∧ (Nx 0 H0.size k) ∧ Nw H0 H2) := by
  refine Ct.enter (args := [v1, v2]) Try.func11 rfl rfl rfl ?_
  intro Q0 hret
  have hm0 : Nw H0 H0 := Mo.refl _ _
  replace hb := hb.bnd
  have bf_hb := Rd.bf hb
  replace ht := ht.bnd
  have bf_ht := Rd.bf ht
  refine CW.seq (fun K1 hK1 hE1 => ?_)
  refine CW.region ?_
  refine LR.v (Y.assign rfl rfl) (Wd.u rfl) rfl rfl ?_
  refine LR.nil ?_
  refine hK1 _ _ ?_
  refine CW.seq (fun K2 hK2 hE2 => ?_)
  refine CW.region ?_
  refine LR.v (Y.assign rfl rfl) (Wd.u rfl) rfl rfl ?_
  refine LR.nil ?_
  refine hK2 _ _ ?_
  refine CW.seq (fun K3 hK3 hE3 => ?_)
  refine CW.block (fun K4 hK4 hX4 hE4 => ?_)
  refine CW.loop (fun (p : (Nat)) => [(0, v1), (1, v2), (5, .int .i64 p)])
    (fun (p : (Nat)) (H : Heap) => (p ≤ min bs.length tg.length) ∧ (∀ i, i < p → fr bs tg i = true) ∧ Nw H0 H)
    (fun (p : (Nat)) => bs.length - p) 0 ⟨rfl, rfl, rfl, trivial⟩ ?_ ?_
  ·
    exact ⟨(by omega), fun j h => absurd h (by omega), Mo.refl _ _⟩
  intro p HL1 hI1 K5 hN5 hE5
  obtain ⟨hp0, hp1, hlm1⟩ := hI1
  replace hb := hb.nw hlm1
  replace ht := ht.nw hlm1
  replace hm0 := hm0.tr hlm1
  have hz1 := hlm1.size
  refine CW.seq (fun K6 hK6 hE6 => ?_)
  refine CW.cut (fun (b : (Bool)) => [(0, v1), (1, v2), (5, .int .i64 p), (29, .bool b)])
    (fun (b : (Bool)) (H : Heap) => (b = true ↔ (p < bs.length ∧ p < tg.length ∧ fr bs tg p = true)) ∧ Nw HL1 H) (fun K7 hK7 hE7 => ?_) ?_
  ·
    have hcm7 : Nw HL1 HL1 := Mo.refl _ _
    refine CW.region_draw rfl (by kernel_rfl) ?_
    refine LR.v (Y.move rfl rfl) (Wd.u rfl) rfl rfl ?_
    refine LR.v (Y.move rfl rfl) (Wd.u rfl) rfl rfl ?_
    refine LR.v (Y.len hb rfl Try.runUnderlying22 rfl) (Wd.u rfl) rfl rfl ?_
    refine LR.v (Y.lss rfl rfl rfl) (Wd.u rfl) rfl rfl ?_
    refine LR.v (Y.move rfl rfl) (Wd.u rfl) rfl rfl ?_
    refine LR.splitp (d := 13) rfl (fun g13 => ?_) (fun g13 => ?_)
    ·
      refine LR.v (Y.move rfl rfl) (Wd.g rfl rfl rfl) rfl rfl ?_
      refine LR.v (Y.move rfl rfl) (Wd.g rfl rfl rfl) rfl rfl ?_
      refine LR.v (Y.len ht rfl Try.runUnderlying22 rfl) (Wd.g rfl rfl rfl) rfl rfl ?_
      refine LR.v (Y.lss rfl rfl rfl) (Wd.g rfl rfl rfl) rfl rfl ?_
      refine LR.v (Y.pick_t rfl rfl rfl) (Wd.u rfl) rfl rfl ?_
      refine LR.v (Y.move rfl rfl) (Wd.u rfl) rfl rfl ?_
      refine LR.splitp (d := 19) rfl (fun g19 => ?_) (fun g19 => ?_)
      ·
        refine LR.v (Y.move rfl rfl) (Wd.g rfl rfl rfl) rfl rfl ?_
        refine LR.v (Y.move rfl rfl) (Wd.g rfl rfl rfl) rfl rfl ?_
        refine LR.e (g := fun ad => .pointer (some ad)) (Y.indexAddr hb (p) rfl Try.runUnderlying22 Try.sizeOf5 rfl rfl (by first | rfl | omega) (by first | omega | (simp; omega) | (simp; done))) (Wd.g rfl rfl rfl) rfl rfl (fun ad22 pt22 => ?_)
        refine LR.v (Y.load1 pt22 rfl Try.isAgg5 rfl) (Wd.g rfl rfl rfl) rfl rfl ?_
        refine LR.v (Y.move rfl rfl) (Wd.g rfl rfl rfl) rfl rfl ?_
        refine LR.v (Y.move rfl rfl) (Wd.g rfl rfl rfl) rfl rfl ?_
        refine LR.e (g := fun ad => .pointer (some ad)) (Y.indexAddr ht (p) rfl Try.runUnderlying22 Try.sizeOf5 rfl rfl (by first | rfl | omega) (by first | omega | (simp; omega) | (simp; done))) (Wd.g rfl rfl rfl) rfl rfl (fun ad26 pt26 => ?_)
        refine LR.v (Y.load1 pt26 rfl Try.isAgg5 rfl) (Wd.g rfl rfl rfl) rfl rfl ?_
        refine LR.v (Y.cast (v2 := .bool (fr bs tg p)) (Y.eql rfl rfl rfl) (by rw [u8dec, gd, gd]; rfl)) (Wd.g rfl rfl rfl) rfl rfl ?_
        refine LR.v (Y.pick_t rfl rfl rfl) (Wd.u rfl) rfl rfl ?_
        refine LR.nil ?_
        refine QN.sub (hK7 (fr bs tg p) _ ?_) ⟨rfl, rfl, (iv (by omega)), rfl, trivial⟩
        exact ⟨⟨fun h => ⟨by omega, by omega, h⟩, fun h => h.2.2⟩, hcm7⟩
      ·
        refine LR.gs rfl rfl rfl rfl rfl rfl ?_
        refine LR.gs rfl rfl rfl rfl rfl rfl ?_
        refine LR.gs rfl rfl rfl rfl rfl rfl ?_
        refine LR.gs rfl rfl rfl rfl rfl rfl ?_
        refine LR.gs rfl rfl rfl rfl rfl rfl ?_
        refine LR.gs rfl rfl rfl rfl rfl rfl ?_
        refine LR.gs rfl rfl rfl rfl rfl rfl ?_
        refine LR.gs rfl rfl rfl rfl rfl rfl ?_
        refine LR.gs rfl rfl rfl rfl rfl rfl ?_
        refine LR.v (Y.pick_f rfl rfl rfl) (Wd.u rfl) rfl rfl ?_
        refine LR.nil ?_
        refine QN.sub (hK7 false _ ?_) ⟨rfl, rfl, (iv (by omega)), rfl, trivial⟩
        exact ⟨⟨fun h => (by cases h), fun h => (by exfalso; omega)⟩, hcm7⟩
    ·
      refine LR.gs rfl rfl rfl rfl rfl rfl ?_
      refine LR.gs rfl rfl rfl rfl rfl rfl ?_
      refine LR.gs rfl rfl rfl rfl rfl rfl ?_
      refine LR.gs rfl rfl rfl rfl rfl rfl ?_
      refine LR.v (Y.pick_f rfl rfl rfl) (Wd.u rfl) rfl rfl ?_
      refine LR.v (Y.move rfl rfl) (Wd.u rfl) rfl rfl ?_
      refine LR.gs rfl rfl rfl rfl rfl rfl ?_
      refine LR.gs rfl rfl rfl rfl rfl rfl ?_
      refine LR.gs rfl rfl rfl rfl rfl rfl ?_
      refine LR.gs rfl rfl rfl rfl rfl rfl ?_
      refine LR.gs rfl rfl rfl rfl rfl rfl ?_
      refine LR.gs rfl rfl rfl rfl rfl rfl ?_
      refine LR.gs rfl rfl rfl rfl rfl rfl ?_
      refine LR.gs rfl rfl rfl rfl rfl rfl ?_
      refine LR.gs rfl rfl rfl rfl rfl rfl ?_
      refine LR.v (Y.pick_f rfl rfl rfl) (Wd.u rfl) rfl rfl ?_
      refine LR.nil ?_
      refine QN.sub (hK7 false _ ?_) ⟨rfl, rfl, (iv (by omega)), rfl, trivial⟩
      exact ⟨⟨fun h => (by cases h), fun h => (by exfalso; omega)⟩, hcm7⟩
  ·
    intro b Hcutr2 hIcutr2
    obtain ⟨hb1, hlmcutr2⟩ := hIcutr2
    replace hb := hb.nw hlmcutr2
    replace ht := ht.nw hlmcutr2
    replace hm0 := hm0.tr hlmcutr2
    replace hlm1 := hlm1.tr hlmcutr2
    have hz2 := hlmcutr2.size
    refine CW.cond rfl (fun c29 => ?_) (fun c29 => ?_)
    ·
      refine CW.skip ?_
      refine hK6 _ _ ?_
      refine CW.block (fun K8 hK8 hX8 hE8 => ?_)
      refine CW.region ?_
      refine LR.v (Y.move rfl rfl) (Wd.u rfl) rfl rfl ?_
      refine LR.v (Y.addi rfl rfl rfl (by omega)) (Wd.u rfl) rfl rfl ?_
      refine LR.v (Y.assign rfl rfl) (Wd.u rfl) rfl rfl ?_
      refine LR.nil ?_
      refine hK8 _ _ ?_
      refine QN.sub (hN5 (p + 1) _ ?_ ?_) ⟨rfl, rfl, (iv (by omega)), trivial⟩
      · exact ⟨(by have := hb1.1 c29; omega), fun j h => by
          by_cases h2 : j < p
          · exact hp1 j h2
          · obtain rfl : j = p := by omega
            exact (hb1.1 c29).2.2, hlm1⟩
      · have := hb1.1 c29; omega
    ·
      have hp : IsP (min bs.length tg.length) (fr bs tg) p := ⟨hp0, hp1, fun h => by cases hq : fr bs tg p with | false => rfl | true => rw [hb1.2 ⟨by omega, by omega, hq⟩] at c29; cases c29⟩
      refine CW.exit (hE6 (.exit 0) nofun _ _ (hE5 (.exit 0) nofun _ _ (hX4 _ _ ?_)))
      refine hK3 _ _ ?_
      refine CW.seq (fun K9 hK9 hE9 => ?_)
      refine CW.region ?_
      refine LR.v (Y.assign rfl rfl) (Wd.u rfl) rfl rfl ?_
      refine LR.nil ?_
      refine hK9 _ _ ?_
      refine CW.seq (fun K10 hK10 hE10 => ?_)
      refine CW.block (fun K11 hK11 hX11 hE11 => ?_)
      refine CW.loop (fun (s : (Nat)) => [(0, v1), (1, v2), (5, .int .i64 p), (6, .int .i64 s)])
        (fun (s : (Nat)) (H : Heap) => (s ≤ min bs.length tg.length - p) ∧ (∀ i, i < s → bk bs tg i = true) ∧ Nw Hcutr2 H)
        (fun (s : (Nat)) => bs.length - s) 0 ⟨rfl, rfl, rfl, rfl, trivial⟩ ?_ ?_
      ·
        exact ⟨(by omega), fun j h => absurd h (by omega), Mo.refl _ _⟩
      intro s HL2 hI2 K12 hN12 hE12
      obtain ⟨hs0, hs1, hlm2⟩ := hI2
      replace hb := hb.nw hlm2
      replace ht := ht.nw hlm2
      replace hm0 := hm0.tr hlm2
      have hz3 := hlm2.size
      refine CW.seq (fun K13 hK13 hE13 => ?_)
      refine CW.cut (fun (b2 : (Bool)) => [(0, v1), (1, v2), (5, .int .i64 p), (6, .int .i64 s), (64, .bool b2)])
        (fun (b2 : (Bool)) (H : Heap) => (b2 = true ↔ (s < bs.length - p ∧ s < tg.length - p ∧ bk bs tg s = true)) ∧ Nw HL2 H) (fun K14 hK14 hE14 => ?_) ?_
      ·
        have hcm14 : Nw HL2 HL2 := Mo.refl _ _
        refine CW.region_draw rfl (by kernel_rfl) ?_
        refine LR.v (Y.move rfl rfl) (Wd.u rfl) rfl rfl ?_
        refine LR.v (Y.move rfl rfl) (Wd.u rfl) rfl rfl ?_
        refine LR.v (Y.len hb rfl Try.runUnderlying22 rfl) (Wd.u rfl) rfl rfl ?_
        refine LR.v (Y.move rfl rfl) (Wd.u rfl) rfl rfl ?_
        refine LR.v (Y.subi rfl rfl rfl (by omega)) (Wd.u rfl) rfl rfl ?_
        refine LR.v (Y.lss rfl rfl rfl) (Wd.u rfl) rfl rfl ?_
        refine LR.v (Y.move rfl rfl) (Wd.u rfl) rfl rfl ?_
        refine LR.splitp (d := 38) rfl (fun g38 => ?_) (fun g38 => ?_)
        ·
          refine LR.v (Y.move rfl rfl) (Wd.g rfl rfl rfl) rfl rfl ?_
          refine LR.v (Y.move rfl rfl) (Wd.g rfl rfl rfl) rfl rfl ?_
          refine LR.v (Y.len ht rfl Try.runUnderlying22 rfl) (Wd.g rfl rfl rfl) rfl rfl ?_
          refine LR.v (Y.move rfl rfl) (Wd.g rfl rfl rfl) rfl rfl ?_
          refine LR.v (Y.subi rfl rfl rfl (by omega)) (Wd.g rfl rfl rfl) rfl rfl ?_
          refine LR.v (Y.lss rfl rfl rfl) (Wd.g rfl rfl rfl) rfl rfl ?_
          refine LR.v (Y.pick_t rfl rfl rfl) (Wd.u rfl) rfl rfl ?_
          refine LR.v (Y.move rfl rfl) (Wd.u rfl) rfl rfl ?_
          refine LR.splitp (d := 46) rfl (fun g46 => ?_) (fun g46 => ?_)
          ·
            refine LR.v (Y.move rfl rfl) (Wd.g rfl rfl rfl) rfl rfl ?_
            refine LR.v (Y.move rfl rfl) (Wd.g rfl rfl rfl) rfl rfl ?_
            refine LR.v (Y.len hb rfl Try.runUnderlying22 rfl) (Wd.g rfl rfl rfl) rfl rfl ?_
            refine LR.v (Y.subi rfl rfl rfl (by omega)) (Wd.g rfl rfl rfl) rfl rfl ?_
            refine LR.v (Y.move rfl rfl) (Wd.g rfl rfl rfl) rfl rfl ?_
            refine LR.v (Y.subi rfl rfl rfl (by omega)) (Wd.g rfl rfl rfl) rfl rfl ?_
            refine LR.e (g := fun ad => .pointer (some ad)) (Y.indexAddr hb (bs.length - 1 - s) rfl Try.runUnderlying22 Try.sizeOf5 rfl rfl (by omega) (by first | omega | (simp; omega) | (simp; done))) (Wd.g rfl rfl rfl) rfl rfl (fun ad53 pt53 => ?_)
            refine LR.v (Y.load1 pt53 rfl Try.isAgg5 rfl) (Wd.g rfl rfl rfl) rfl rfl ?_
            refine LR.v (Y.move rfl rfl) (Wd.g rfl rfl rfl) rfl rfl ?_
            refine LR.v (Y.move rfl rfl) (Wd.g rfl rfl rfl) rfl rfl ?_
            refine LR.v (Y.len ht rfl Try.runUnderlying22 rfl) (Wd.g rfl rfl rfl) rfl rfl ?_
            refine LR.v (Y.subi rfl rfl rfl (by omega)) (Wd.g rfl rfl rfl) rfl rfl ?_
            refine LR.v (Y.move rfl rfl) (Wd.g rfl rfl rfl) rfl rfl ?_
            refine LR.v (Y.subi rfl rfl rfl (by omega)) (Wd.g rfl rfl rfl) rfl rfl ?_
            refine LR.e (g := fun ad => .pointer (some ad)) (Y.indexAddr ht (tg.length - 1 - s) rfl Try.runUnderlying22 Try.sizeOf5 rfl rfl (by omega) (by first | omega | (simp; omega) | (simp; done))) (Wd.g rfl rfl rfl) rfl rfl (fun ad61 pt61 => ?_)
            refine LR.v (Y.load1 pt61 rfl Try.isAgg5 rfl) (Wd.g rfl rfl rfl) rfl rfl ?_
            refine LR.v (Y.cast (v2 := .bool (bk bs tg s)) (Y.eql rfl rfl rfl) (by rw [u8dec, gd, gd]; rfl)) (Wd.g rfl rfl rfl) rfl rfl ?_
            refine LR.v (Y.pick_t rfl rfl rfl) (Wd.u rfl) rfl rfl ?_
            refine LR.nil ?_
            refine QN.sub (hK14 (bk bs tg s) _ ?_) ⟨rfl, rfl, (iv (by omega)), (iv (by omega)), rfl, trivial⟩
            exact ⟨⟨fun h => ⟨by omega, by omega, h⟩, fun h => h.2.2⟩, hcm14⟩
          ·
            refine LR.gs rfl rfl rfl rfl rfl rfl ?_
            refine LR.gs rfl rfl rfl rfl rfl rfl ?_
            refine LR.gs rfl rfl rfl rfl rfl rfl ?_
            refine LR.gs rfl rfl rfl rfl rfl rfl ?_
            refine LR.gs rfl rfl rfl rfl rfl rfl ?_
            refine LR.gs rfl rfl rfl rfl rfl rfl ?_
            refine LR.gs rfl rfl rfl rfl rfl rfl ?_
            refine LR.gs rfl rfl rfl rfl rfl rfl ?_
            refine LR.gs rfl rfl rfl rfl rfl rfl ?_
            refine LR.gs rfl rfl rfl rfl rfl rfl ?_
            refine LR.gs rfl rfl rfl rfl rfl rfl ?_
            refine LR.gs rfl rfl rfl rfl rfl rfl ?_
            refine LR.gs rfl rfl rfl rfl rfl rfl ?_
            refine LR.gs rfl rfl rfl rfl rfl rfl ?_
            refine LR.gs rfl rfl rfl rfl rfl rfl ?_
            refine LR.gs rfl rfl rfl rfl rfl rfl ?_
            refine LR.gs rfl rfl rfl rfl rfl rfl ?_
            refine LR.v (Y.pick_f rfl rfl rfl) (Wd.u rfl) rfl rfl ?_
            refine LR.nil ?_
            refine QN.sub (hK14 false _ ?_) ⟨rfl, rfl, (iv (by omega)), (iv (by omega)), rfl, trivial⟩
            exact ⟨⟨fun h => (by cases h), fun h => (by exfalso; omega)⟩, hcm14⟩
        ·
          refine LR.gs rfl rfl rfl rfl rfl rfl ?_
          refine LR.gs rfl rfl rfl rfl rfl rfl ?_
          refine LR.gs rfl rfl rfl rfl rfl rfl ?_
          refine LR.gs rfl rfl rfl rfl rfl rfl ?_
          refine LR.gs rfl rfl rfl rfl rfl rfl ?_
          refine LR.gs rfl rfl rfl rfl rfl rfl ?_
          refine LR.v (Y.pick_f rfl rfl rfl) (Wd.u rfl) rfl rfl ?_
          refine LR.v (Y.move rfl rfl) (Wd.u rfl) rfl rfl ?_
          refine LR.gs rfl rfl rfl rfl rfl rfl ?_
          refine LR.gs rfl rfl rfl rfl rfl rfl ?_
          refine LR.gs rfl rfl rfl rfl rfl rfl ?_
          refine LR.gs rfl rfl rfl rfl rfl rfl ?_
          refine LR.gs rfl rfl rfl rfl rfl rfl ?_
          refine LR.gs rfl rfl rfl rfl rfl rfl ?_
          refine LR.gs rfl rfl rfl rfl rfl rfl ?_
          refine LR.gs rfl rfl rfl rfl rfl rfl ?_
          refine LR.gs rfl rfl rfl rfl rfl rfl ?_
          refine LR.gs rfl rfl rfl rfl rfl rfl ?_
          refine LR.gs rfl rfl rfl rfl rfl rfl ?_
          refine LR.gs rfl rfl rfl rfl rfl rfl ?_
          refine LR.gs rfl rfl rfl rfl rfl rfl ?_
          refine LR.gs rfl rfl rfl rfl rfl rfl ?_
          refine LR.gs rfl rfl rfl rfl rfl rfl ?_
          refine LR.gs rfl rfl rfl rfl rfl rfl ?_
          refine LR.gs rfl rfl rfl rfl rfl rfl ?_
          refine LR.v (Y.pick_f rfl rfl rfl) (Wd.u rfl) rfl rfl ?_
          refine LR.nil ?_
          refine QN.sub (hK14 false _ ?_) ⟨rfl, rfl, (iv (by omega)), (iv (by omega)), rfl, trivial⟩
          exact ⟨⟨fun h => (by cases h), fun h => (by exfalso; omega)⟩, hcm14⟩
      ·
        intro b2 Hcutr5 hIcutr5
        obtain ⟨hb2, hlmcutr5⟩ := hIcutr5
        replace hb := hb.nw hlmcutr5
        replace ht := ht.nw hlmcutr5
        replace hm0 := hm0.tr hlmcutr5
        replace hlm2 := hlm2.tr hlmcutr5
        have hz4 := hlmcutr5.size
        refine CW.cond rfl (fun c64 => ?_) (fun c64 => ?_)
        ·
          refine CW.skip ?_
          refine hK13 _ _ ?_
          refine CW.block (fun K15 hK15 hX15 hE15 => ?_)
          refine CW.region ?_
          refine LR.v (Y.move rfl rfl) (Wd.u rfl) rfl rfl ?_
          refine LR.v (Y.addi rfl rfl rfl (by omega)) (Wd.u rfl) rfl rfl ?_
          refine LR.v (Y.assign rfl rfl) (Wd.u rfl) rfl rfl ?_
          refine LR.nil ?_
          refine hK15 _ _ ?_
          refine QN.sub (hN12 (s + 1) _ ?_ ?_) ⟨rfl, rfl, (iv (by omega)), (iv (by omega)), trivial⟩
          · exact ⟨(by have := hb2.1 c64; omega), fun j h => by
              by_cases h2 : j < s
              · exact hs1 j h2
              · obtain rfl : j = s := by omega
                exact (hb2.1 c64).2.2, hlm2⟩
          · have := hb2.1 c64; omega
        ·
          have hs : IsP (min bs.length tg.length - p) (bk bs tg) s := ⟨hs0, hs1, fun h => by cases hq : bk bs tg s with | false => rfl | true => rw [hb2.2 ⟨by omega, by omega, hq⟩] at c64; cases c64⟩
          have hE : Edg bs tg p s := ⟨hp, hs⟩
          have hml : (mid tg p s).length = tg.length - s - p := by simp [mid]
          refine CW.exit (hE13 (.exit 2) nofun _ _ (hE12 (.exit 2) nofun _ _ (hX11 _ _ ?_)))
          refine hK10 _ _ ?_
          refine CW.seq (fun K16 hK16 hE16 => ?_)
          refine CW.region ?_
          refine LR.v (Y.move rfl rfl) (Wd.u rfl) rfl rfl ?_
          refine LR.v (Y.len hb rfl Try.runUnderlying22 rfl) (Wd.u rfl) rfl rfl ?_
          refine LR.v (Y.conv_u64 rfl Try.runUnderlying3 Try.runUnderlying48 rfl) (Wd.u rfl) rfl rfl ?_
          -- call selvage/selvageref1.Num
          refine LR.call rfl Try.call21 rfl (Wd.u rfl) rfl rfl (num_ct 0 _ _ 4 (UInt64.ofNat (bs.length)) w0 _ (Ow.nil fB_len fB_one) (by omega) (by first | (simp [be32_len, cp]; done) | (simp [be32_len, cp]; omega))) (fun v70 H70 r70 => ?_)
          obtain ⟨v270, k70, rfl, ow70, hk70, hs70⟩ := r70
          have df1 := DF.app (DF.z) (bf_hb.mono hm0.size) hk70
          have df2 := DF.app (DF.z) (bf_ht.mono hm0.size) hk70
          have nx3 : Nx 0 H0.size k70 := Nx.tr (Nx.refl 0 _) hk70 hm0.size
          replace hb := hb.upL hs70 (DFL.cons DF.z DFL.nil)
          replace ht := ht.upL hs70 (DFL.cons DF.z DFL.nil)
          replace hm0 := (Mo.trL (ks := []) (hm0.mdn []) hs70 (MIL.cons MI.z MIL.nil)).nil
          have hz5 := hs70.size
          have hle_ow70 := ow70.le
          rw [num_of (bs.length) (by omega)] at ow70
          refine LR.v (Y.move rfl rfl) (Wd.u rfl) rfl rfl ?_
          refine LR.v (Y.len ht rfl Try.runUnderlying22 rfl) (Wd.u rfl) rfl rfl ?_
          refine LR.v (Y.conv_u64 rfl Try.runUnderlying3 Try.runUnderlying48 rfl) (Wd.u rfl) rfl rfl ?_
          -- call selvage/selvageref1.Num
          refine LR.call rfl Try.call21 rfl (Wd.u rfl) rfl rfl (num_ct k70 _ _ 4 (UInt64.ofNat (tg.length)) w0 _ ow70 (by omega) (by first | (simp [be32_len, cp]; done) | (simp [be32_len, cp]; omega))) (fun v74 H74 r74 => ?_)
          obtain ⟨v274, k8, rfl, ow8, hk74, hs74⟩ := r74
          have df4 := DF.app (df1) (bf_hb.mono hm0.size) hk74
          have df5 := DF.app (df2) (bf_ht.mono hm0.size) hk74
          have nx6 : Nx 0 H0.size k8 := Nx.tr (nx3) hk74 hm0.size
          replace hb := hb.upL hs74 (DFL.cons df1 DFL.nil)
          replace ht := ht.upL hs74 (DFL.cons df2 DFL.nil)
          replace hm0 := (Mo.trL (ks := []) (hm0.mdn []) hs74 (MIL.cons (MI.app MI.z (nx3) (Nat.le_refl _)) MIL.nil)).nil
          have hz6 := hs74.size
          have hle_ow8 := ow8.le
          rw [num_of (tg.length) (by omega)] at ow8
          refine LR.v (Y.assign rfl rfl) (Wd.u rfl) rfl rfl ?_
          refine LR.nil ?_
          refine hK16 _ _ ?_
          refine CW.seq (fun K17 hK17 hE17 => ?_)
          refine CW.seq (fun K18 hK18 hE18 => ?_)
          refine CW.region ?_
          refine LR.v (Y.move rfl rfl) (Wd.u rfl) rfl rfl ?_
          refine LR.v (Y.gtr rfl rfl rfl) (Wd.u rfl) rfl rfl ?_
          refine LR.nil ?_
          refine hK18 _ _ ?_
          refine CW.condp rfl (fun c76 => ?_) (fun c76 => ?_)
          ·
            refine CW.region ?_
            refine LR.v (Y.move rfl rfl) (Wd.u rfl) rfl rfl ?_
            refine LR.z (Z.litw _ ([(1 : UInt8)]) rfl inf22 rfl rfl rfl (by decide) (by decide) fB_len fB_one (rfl)) (Wd.u rfl) rfl rfl (fun v78 H78 r78 => ?_)
            obtain ⟨ow78, hs78, ob78, hH78⟩ := r78
            have hzs78 : H78.size = H74.size + 1 := by rw [hH78]; simp
            have df7 := (DF.new (bf_hb.mono hm0.size) : DF _ (H74.size + 1))
            have df8 := (DF.new (bf_ht.mono hm0.size) : DF _ (H74.size + 1))
            have dj9 : Dj k8 (H74.size + 1) := Dj.new ow8.le
            have nx10 : Nx 0 H0.size (H74.size + 1) := Nx.new hm0.size
            replace hb := hb.nw hs78
            replace ht := ht.nw hs78
            replace ow8 := ow8.nw hs78
            replace hm0 := hm0.tr hs78
            have hz7 := hs78.size
            refine LR.z (Z.apnd ow8 ow78.rd rfl inf22 rfl rfl (by first | (simp [be32_len, cp]; done) | (simp [be32_len, cp]; omega)) (by first | (simp [be32_len, cp]; done) | (simp [be32_len, cp]; omega))) (Wd.u rfl) rfl rfl (fun v79 H79 r79 => ?_)
            obtain ⟨k79, ow79, hk79, hs79⟩ := r79
            replace hk79 : Nx k8 H78.size k79 := hk79
            replace hs79 := hs79.md
            have df11 := DF.app (df4) (bf_hb.mono hm0.size) hk79
            have df12 := DF.app (df5) (bf_ht.mono hm0.size) hk79
            have dj13 : Dj (H74.size + 1) k79 := Dj.app (dj9.symm) ow78.le hk79
            have nx14 : Nx 0 H0.size k79 := Nx.tr (nx6) hk79 hm0.size
            replace hb := hb.upL hs79 (DFL.cons df4 DFL.nil)
            replace ht := ht.upL hs79 (DFL.cons df5 DFL.nil)
            replace ow78 := ow78.upL hs79 (DL.cons dj9.symm DL.nil)
            replace hm0 := (Mo.trL (ks := []) (hm0.mdn []) hs79 (MIL.cons (MI.app MI.z (nx6) (Nat.le_refl _)) MIL.nil)).nil
            have hz8 := hs79.size
            have hle_ow79 := ow79.le
            -- call selvage/selvageref1.Num
            refine LR.call rfl Try.call21 rfl (Wd.u rfl) rfl rfl (num_ct k79 _ _ 4 (UInt64.ofNat (0)) w0 _ ow79 (by omega) (by first | (simp [be32_len, cp]; done) | (simp [be32_len, cp]; omega))) (fun v80 H80 r80 => ?_)
            obtain ⟨v280, k80, rfl, ow80, hk80, hs80⟩ := r80
            have df15 := DF.app (df11) (bf_hb.mono hm0.size) hk80
            have df16 := DF.app (df12) (bf_ht.mono hm0.size) hk80
            have dj17 : Dj (H74.size + 1) k80 := Dj.app (dj13) ow78.le hk80
            have nx18 : Nx 0 H0.size k80 := Nx.tr (nx14) hk80 hm0.size
            replace hb := hb.upL hs80 (DFL.cons df11 DFL.nil)
            replace ht := ht.upL hs80 (DFL.cons df12 DFL.nil)
            replace ow78 := ow78.upL hs80 (DL.cons dj13 DL.nil)
            replace hm0 := (Mo.trL (ks := []) (hm0.mdn []) hs80 (MIL.cons (MI.app MI.z (nx14) (Nat.le_refl _)) MIL.nil)).nil
            have hz9 := hs80.size
            have hle_ow80 := ow80.le
            rw [num_of (0) (by omega)] at ow80
            refine LR.v (Y.move rfl rfl) (Wd.u rfl) rfl rfl ?_
            refine LR.v (Y.conv_u64 rfl Try.runUnderlying3 Try.runUnderlying48 rfl) (Wd.u rfl) rfl rfl ?_
            -- call selvage/selvageref1.Num
            refine LR.call rfl Try.call21 rfl (Wd.u rfl) rfl rfl (num_ct k80 _ _ 4 (UInt64.ofNat (p)) w0 _ ow80 (by omega) (by first | (simp [be32_len, cp]; done) | (simp [be32_len, cp]; omega))) (fun v83 H83 r83 => ?_)
            obtain ⟨v283, k9, rfl, ow8, hk83, hs83⟩ := r83
            have df19 := DF.app (df15) (bf_hb.mono hm0.size) hk83
            have df20 := DF.app (df16) (bf_ht.mono hm0.size) hk83
            have dj21 : Dj (H74.size + 1) k9 := Dj.app (dj17) ow78.le hk83
            have nx22 : Nx 0 H0.size k9 := Nx.tr (nx18) hk83 hm0.size
            replace hb := hb.upL hs83 (DFL.cons df15 DFL.nil)
            replace ht := ht.upL hs83 (DFL.cons df16 DFL.nil)
            replace ow78 := ow78.upL hs83 (DL.cons dj17 DL.nil)
            replace hm0 := (Mo.trL (ks := []) (hm0.mdn []) hs83 (MIL.cons (MI.app MI.z (nx18) (Nat.le_refl _)) MIL.nil)).nil
            have hz10 := hs83.size
            have hle_ow8 := ow8.le
            rw [num_of (p) (by omega)] at ow8
            refine LR.v (Y.assign rfl rfl) (Wd.u rfl) rfl rfl ?_
            refine LR.nil ?_
            refine hK17 _ _ ?_
            refine CW.seq (fun K19 hK19 hE19 => ?_)
            refine CW.region ?_
            refine LR.v (Y.move rfl rfl) (Wd.u rfl) rfl rfl ?_
            refine LR.v (Y.move rfl rfl) (Wd.u rfl) rfl rfl ?_
            refine LR.v (Y.move rfl rfl) (Wd.u rfl) rfl rfl ?_
            refine LR.v (Y.len ht rfl Try.runUnderlying22 rfl) (Wd.u rfl) rfl rfl ?_
            refine LR.v (Y.move rfl rfl) (Wd.u rfl) rfl rfl ?_
            refine LR.v (Y.subi rfl rfl rfl (by omega)) (Wd.u rfl) rfl rfl ?_
            refine LR.e (g := fun v => v) (Y.slice ht (p) (tg.length - s) rfl Try.runUnderlying22 Try.sizeOf5 rfl (.inr ⟨_, _, _, rfl, rfl, by first | rfl | omega⟩) (.inr ⟨_, _, _, rfl, rfl, by omega⟩) (by omega) (by omega)) (Wd.u rfl) rfl rfl (fun v90 rd90 => ?_)
            have bf_rd90 := bf_ht
            replace rd90 : Rd _ _ fB 1 v90 (mid tg p s) := rd90
            refine LR.v (Y.assign rfl rfl) (Wd.u rfl) rfl rfl ?_
            refine LR.nil ?_
            refine hK19 _ _ ?_
            refine CW.seq (fun K20 hK20 hE20 => ?_)
            refine CW.seq (fun K21 hK21 hE21 => ?_)
            refine CW.region ?_
            refine LR.v (Y.move rfl rfl) (Wd.u rfl) rfl rfl ?_
            refine LR.v (Y.len rd90 rfl Try.runUnderlying22 rfl) (Wd.u rfl) rfl rfl ?_
            refine LR.v (Y.gtr rfl rfl rfl) (Wd.u rfl) rfl rfl ?_
            refine LR.nil ?_
            refine hK21 _ _ ?_
            refine CW.condp rfl (fun c93 => ?_) (fun c93 => ?_)
            ·
              refine CW.region ?_
              refine LR.v (Y.move rfl rfl) (Wd.u rfl) rfl rfl ?_
              refine LR.z (Z.litw _ ([(2 : UInt8)]) rfl inf22 rfl rfl rfl (by decide) (by decide) fB_len fB_one (rfl)) (Wd.u rfl) rfl rfl (fun v95 H95 r95 => ?_)
              obtain ⟨ow95, hs95, ob95, hH95⟩ := r95
              have hzs95 : H95.size = H83.size + 1 := by rw [hH95]; simp
              have df23 := (DF.new (bf_hb.mono hm0.size) : DF _ (H83.size + 1))
              have df24 := (DF.new (bf_ht.mono hm0.size) : DF _ (H83.size + 1))
              have dj25 : Dj k9 (H83.size + 1) := Dj.new ow8.le
              have df26 := (DF.new (bf_rd90.mono hm0.size) : DF _ (H83.size + 1))
              have nx27 : Nx 0 H0.size (H83.size + 1) := Nx.new hm0.size
              replace hb := hb.nw hs95
              replace ht := ht.nw hs95
              replace ow8 := ow8.nw hs95
              replace rd90 := rd90.nw hs95
              replace hm0 := hm0.tr hs95
              have hz11 := hs95.size
              refine LR.z (Z.apnd ow8 ow95.rd rfl inf22 rfl rfl (by first | (simp [be32_len, cp]; done) | (simp [be32_len, cp]; omega)) (by first | (simp [be32_len, cp]; done) | (simp [be32_len, cp]; omega))) (Wd.u rfl) rfl rfl (fun v96 H96 r96 => ?_)
              obtain ⟨k96, ow96, hk96, hs96⟩ := r96
              replace hk96 : Nx k9 H95.size k96 := hk96
              replace hs96 := hs96.md
              have df28 := DF.app (df19) (bf_hb.mono hm0.size) hk96
              have df29 := DF.app (df20) (bf_ht.mono hm0.size) hk96
              have df30 := DF.app (df20) (bf_rd90.mono hm0.size) hk96
              have dj31 : Dj (H83.size + 1) k96 := Dj.app (dj25.symm) ow95.le hk96
              have nx32 : Nx 0 H0.size k96 := Nx.tr (nx22) hk96 hm0.size
              replace hb := hb.upL hs96 (DFL.cons df19 DFL.nil)
              replace ht := ht.upL hs96 (DFL.cons df20 DFL.nil)
              replace rd90 := rd90.upL hs96 (DFL.cons df20 DFL.nil)
              replace ow95 := ow95.upL hs96 (DL.cons dj25.symm DL.nil)
              replace hm0 := (Mo.trL (ks := []) (hm0.mdn []) hs96 (MIL.cons (MI.app MI.z (nx22) (Nat.le_refl _)) MIL.nil)).nil
              have hz12 := hs96.size
              have hle_ow96 := ow96.le
              refine LR.v (Y.move rfl rfl) (Wd.u rfl) rfl rfl ?_
              refine LR.v (Y.len rd90 rfl Try.runUnderlying22 rfl) (Wd.u rfl) rfl rfl ?_
              refine LR.v (Y.conv_u64 rfl Try.runUnderlying3 Try.runUnderlying48 rfl) (Wd.u rfl) rfl rfl ?_
              -- call selvage/selvageref1.Num
              refine LR.call rfl Try.call21 rfl (Wd.u rfl) rfl rfl (num_ct k96 _ _ 4 (UInt64.ofNat ((mid tg p s).length)) w0 _ ow96 (by omega) (by first | (simp [be32_len, cp]; done) | (simp [be32_len, cp]; omega))) (fun v100 H100 r100 => ?_)
              obtain ⟨v2100, k100, rfl, ow100, hk100, hs100⟩ := r100
              have df33 := DF.app (df28) (bf_hb.mono hm0.size) hk100
              have df34 := DF.app (df29) (bf_ht.mono hm0.size) hk100
              have df35 := DF.app (df30) (bf_rd90.mono hm0.size) hk100
              have dj36 : Dj (H83.size + 1) k100 := Dj.app (dj31) ow95.le hk100
              have nx37 : Nx 0 H0.size k100 := Nx.tr (nx32) hk100 hm0.size
              replace hb := hb.upL hs100 (DFL.cons df28 DFL.nil)
              replace ht := ht.upL hs100 (DFL.cons df29 DFL.nil)
              replace rd90 := rd90.upL hs100 (DFL.cons df30 DFL.nil)
              replace ow95 := ow95.upL hs100 (DL.cons dj31 DL.nil)
              replace hm0 := (Mo.trL (ks := []) (hm0.mdn []) hs100 (MIL.cons (MI.app MI.z (nx32) (Nat.le_refl _)) MIL.nil)).nil
              have hz13 := hs100.size
              have hle_ow100 := ow100.le
              rw [num_of ((mid tg p s).length) (by omega)] at ow100
              refine LR.v (Y.move rfl rfl) (Wd.u rfl) rfl rfl ?_
              refine LR.z (Z.apnd ow100 rd90 rfl inf22 rfl rfl (by first | (simp [be32_len, cp]; done) | (simp [be32_len, cp]; omega)) (by first | (simp [be32_len, cp]; done) | (simp [be32_len, cp]; omega))) (Wd.u rfl) rfl rfl (fun v102 H102 r102 => ?_)
              obtain ⟨k102, ow8, hk102, hs102⟩ := r102
              replace hk102 : Nx k100 H100.size k102 := hk102
              replace hs102 := hs102.md
              have df38 := DF.app (df33) (bf_hb.mono hm0.size) hk102
              have df39 := DF.app (df34) (bf_ht.mono hm0.size) hk102
              have df40 := DF.app (df35) (bf_rd90.mono hm0.size) hk102
              have dj41 : Dj (H83.size + 1) k102 := Dj.app (dj36) ow95.le hk102
              have nx42 : Nx 0 H0.size k102 := Nx.tr (nx37) hk102 hm0.size
              replace hb := hb.upL hs102 (DFL.cons df33 DFL.nil)
              replace ht := ht.upL hs102 (DFL.cons df34 DFL.nil)
              replace rd90 := rd90.upL hs102 (DFL.cons df35 DFL.nil)
              replace ow95 := ow95.upL hs102 (DL.cons dj36 DL.nil)
              replace hm0 := (Mo.trL (ks := []) (hm0.mdn []) hs102 (MIL.cons (MI.app MI.z (nx37) (Nat.le_refl _)) MIL.nil)).nil
              have hz14 := hs102.size
              have hle_ow8 := ow8.le
              refine LR.v (Y.assign rfl rfl) (Wd.u rfl) rfl rfl ?_
              refine LR.nil ?_
              refine hK20 _ _ ?_
              refine CW.seq (fun K22 hK22 hE22 => ?_)
              refine CW.seq (fun K23 hK23 hE23 => ?_)
              refine CW.region ?_
              refine LR.v (Y.move rfl rfl) (Wd.u rfl) rfl rfl ?_
              refine LR.v (Y.gtr rfl rfl rfl) (Wd.u rfl) rfl rfl ?_
              refine LR.nil ?_
              refine hK23 _ _ ?_
              refine CW.condp rfl (fun c104 => ?_) (fun c104 => ?_)
              ·
                refine CW.region ?_
                refine LR.v (Y.move rfl rfl) (Wd.u rfl) rfl rfl ?_
                refine LR.z (Z.litw _ ([(1 : UInt8)]) rfl inf22 rfl rfl rfl (by decide) (by decide) fB_len fB_one (rfl)) (Wd.u rfl) rfl rfl (fun v106 H106 r106 => ?_)
                obtain ⟨ow106, hs106, ob106, hH106⟩ := r106
                have hzs106 : H106.size = H102.size + 1 := by rw [hH106]; simp
                have df43 := (DF.new (bf_hb.mono hm0.size) : DF _ (H102.size + 1))
                have df44 := (DF.new (bf_ht.mono hm0.size) : DF _ (H102.size + 1))
                have dj45 : Dj k102 (H102.size + 1) := Dj.new ow8.le
                have nx46 : Nx 0 H0.size (H102.size + 1) := Nx.new hm0.size
                replace hb := hb.nw hs106
                replace ht := ht.nw hs106
                replace ow8 := ow8.nw hs106
                replace hm0 := hm0.tr hs106
                have hz15 := hs106.size
                refine LR.z (Z.apnd ow8 ow106.rd rfl inf22 rfl rfl (by first | (simp [be32_len, cp]; done) | (simp [be32_len, cp]; omega)) (by first | (simp [be32_len, cp]; done) | (simp [be32_len, cp]; omega))) (Wd.u rfl) rfl rfl (fun v107 H107 r107 => ?_)
                obtain ⟨k107, ow107, hk107, hs107⟩ := r107
                replace hk107 : Nx k102 H106.size k107 := hk107
                replace hs107 := hs107.md
                have df47 := DF.app (df38) (bf_hb.mono hm0.size) hk107
                have df48 := DF.app (df39) (bf_ht.mono hm0.size) hk107
                have dj49 : Dj (H102.size + 1) k107 := Dj.app (dj45.symm) ow106.le hk107
                have nx50 : Nx 0 H0.size k107 := Nx.tr (nx42) hk107 hm0.size
                replace hb := hb.upL hs107 (DFL.cons df38 DFL.nil)
                replace ht := ht.upL hs107 (DFL.cons df39 DFL.nil)
                replace ow106 := ow106.upL hs107 (DL.cons dj45.symm DL.nil)
                replace hm0 := (Mo.trL (ks := []) (hm0.mdn []) hs107 (MIL.cons (MI.app MI.z (nx42) (Nat.le_refl _)) MIL.nil)).nil
                have hz16 := hs107.size
                have hle_ow107 := ow107.le
                refine LR.v (Y.move rfl rfl) (Wd.u rfl) rfl rfl ?_
                refine LR.v (Y.len hb rfl Try.runUnderlying22 rfl) (Wd.u rfl) rfl rfl ?_
                refine LR.v (Y.move rfl rfl) (Wd.u rfl) rfl rfl ?_
                refine LR.v (Y.cast (v2 := .int .i64 ((bs.length - s : Nat) : Int)) (Y.subi rfl rfl rfl (by omega)) (ivv (by omega))) (Wd.u rfl) rfl rfl ?_
                refine LR.v (Y.conv_u64 rfl Try.runUnderlying3 Try.runUnderlying48 rfl) (Wd.u rfl) rfl rfl ?_
                -- call selvage/selvageref1.Num
                refine LR.call rfl Try.call21 rfl (Wd.u rfl) rfl rfl (num_ct k107 _ _ 4 (UInt64.ofNat (bs.length - s)) w0 _ ow107 (by omega) (by first | (simp [be32_len, cp]; done) | (simp [be32_len, cp]; omega))) (fun v113 H113 r113 => ?_)
                obtain ⟨v2113, k113, rfl, ow113, hk113, hs113⟩ := r113
                have df51 := DF.app (df47) (bf_hb.mono hm0.size) hk113
                have df52 := DF.app (df48) (bf_ht.mono hm0.size) hk113
                have dj53 : Dj (H102.size + 1) k113 := Dj.app (dj49) ow106.le hk113
                have nx54 : Nx 0 H0.size k113 := Nx.tr (nx50) hk113 hm0.size
                replace hb := hb.upL hs113 (DFL.cons df47 DFL.nil)
                replace ht := ht.upL hs113 (DFL.cons df48 DFL.nil)
                replace ow106 := ow106.upL hs113 (DL.cons dj49 DL.nil)
                replace hm0 := (Mo.trL (ks := []) (hm0.mdn []) hs113 (MIL.cons (MI.app MI.z (nx50) (Nat.le_refl _)) MIL.nil)).nil
                have hz17 := hs113.size
                have hle_ow113 := ow113.le
                rw [num_of (bs.length - s) (by omega)] at ow113
                refine LR.v (Y.move rfl rfl) (Wd.u rfl) rfl rfl ?_
                refine LR.v (Y.conv_u64 rfl Try.runUnderlying3 Try.runUnderlying48 rfl) (Wd.u rfl) rfl rfl ?_
                -- call selvage/selvageref1.Num
                refine LR.call rfl Try.call21 rfl (Wd.u rfl) rfl rfl (num_ct k113 _ _ 4 (UInt64.ofNat (s)) w0 _ ow113 (by omega) (by first | (simp [be32_len, cp]; done) | (simp [be32_len, cp]; omega))) (fun v116 H116 r116 => ?_)
                obtain ⟨v2116, k116, rfl, ow8, hk116, hs116⟩ := r116
                have df55 := DF.app (df51) (bf_hb.mono hm0.size) hk116
                have df56 := DF.app (df52) (bf_ht.mono hm0.size) hk116
                have dj57 : Dj (H102.size + 1) k116 := Dj.app (dj53) ow106.le hk116
                have nx58 : Nx 0 H0.size k116 := Nx.tr (nx54) hk116 hm0.size
                replace hb := hb.upL hs116 (DFL.cons df51 DFL.nil)
                replace ht := ht.upL hs116 (DFL.cons df52 DFL.nil)
                replace ow106 := ow106.upL hs116 (DL.cons dj53 DL.nil)
                replace hm0 := (Mo.trL (ks := []) (hm0.mdn []) hs116 (MIL.cons (MI.app MI.z (nx54) (Nat.le_refl _)) MIL.nil)).nil
                have hz18 := hs116.size
                have hle_ow8 := ow8.le
                rw [num_of (s) (by omega)] at ow8
                refine LR.v (Y.assign rfl rfl) (Wd.u rfl) rfl rfl ?_
                refine LR.nil ?_
                refine hK22 _ _ ?_
                refine CW.seq (fun K24 hK24 hE24 => ?_)
                refine CW.region ?_
                refine LR.v (Y.move rfl rfl) (Wd.u rfl) rfl rfl ?_
                refine LR.v (Y.assign rfl rfl) (Wd.u rfl) rfl rfl ?_
                refine LR.nil ?_
                refine hK24 _ _ ?_
                refine CW.ret (hret .ret (.inr rfl) _ _ _ (res1 rfl rfl) ?_)
                exact ⟨_, k116, p, s, rfl, hE, by
                    unfold mkL
                    first | rw [if_pos (show 0 < p by omega)] | rw [if_neg (show ¬ 0 < p by omega)]
                    first | rw [if_pos (show 0 < (mid tg p s).length by omega)] | rw [if_neg (show ¬ 0 < (mid tg p s).length by omega)]
                    first | rw [if_pos (show 0 < s by omega)] | rw [if_neg (show ¬ 0 < s by omega)]
                    simpa [cp] using ow8, nx58, hm0⟩
              ·
                refine CW.skip ?_
                refine hK22 _ _ ?_
                refine CW.seq (fun K25 hK25 hE25 => ?_)
                refine CW.region ?_
                refine LR.v (Y.move rfl rfl) (Wd.u rfl) rfl rfl ?_
                refine LR.v (Y.assign rfl rfl) (Wd.u rfl) rfl rfl ?_
                refine LR.nil ?_
                refine hK25 _ _ ?_
                refine CW.ret (hret .ret (.inr rfl) _ _ _ (res1 rfl rfl) ?_)
                exact ⟨_, k102, p, s, rfl, hE, by
                    unfold mkL
                    first | rw [if_pos (show 0 < p by omega)] | rw [if_neg (show ¬ 0 < p by omega)]
                    first | rw [if_pos (show 0 < (mid tg p s).length by omega)] | rw [if_neg (show ¬ 0 < (mid tg p s).length by omega)]
                    first | rw [if_pos (show 0 < s by omega)] | rw [if_neg (show ¬ 0 < s by omega)]
                    simpa [cp] using ow8, nx42, hm0⟩
            ·
              refine CW.skip ?_
              refine hK20 _ _ ?_
              refine CW.seq (fun K26 hK26 hE26 => ?_)
              refine CW.seq (fun K27 hK27 hE27 => ?_)
              refine CW.region ?_
              refine LR.v (Y.move rfl rfl) (Wd.u rfl) rfl rfl ?_
              refine LR.v (Y.gtr rfl rfl rfl) (Wd.u rfl) rfl rfl ?_
              refine LR.nil ?_
              refine hK27 _ _ ?_
              refine CW.condp rfl (fun c104 => ?_) (fun c104 => ?_)
              ·
                refine CW.region ?_
                refine LR.v (Y.move rfl rfl) (Wd.u rfl) rfl rfl ?_
                refine LR.z (Z.litw _ ([(1 : UInt8)]) rfl inf22 rfl rfl rfl (by decide) (by decide) fB_len fB_one (rfl)) (Wd.u rfl) rfl rfl (fun v106 H106 r106 => ?_)
                obtain ⟨ow106, hs106, ob106, hH106⟩ := r106
                have hzs106 : H106.size = H83.size + 1 := by rw [hH106]; simp
                have df59 := (DF.new (bf_hb.mono hm0.size) : DF _ (H83.size + 1))
                have df60 := (DF.new (bf_ht.mono hm0.size) : DF _ (H83.size + 1))
                have dj61 : Dj k9 (H83.size + 1) := Dj.new ow8.le
                have nx62 : Nx 0 H0.size (H83.size + 1) := Nx.new hm0.size
                replace hb := hb.nw hs106
                replace ht := ht.nw hs106
                replace ow8 := ow8.nw hs106
                replace hm0 := hm0.tr hs106
                have hz19 := hs106.size
                refine LR.z (Z.apnd ow8 ow106.rd rfl inf22 rfl rfl (by first | (simp [be32_len, cp]; done) | (simp [be32_len, cp]; omega)) (by first | (simp [be32_len, cp]; done) | (simp [be32_len, cp]; omega))) (Wd.u rfl) rfl rfl (fun v107 H107 r107 => ?_)
                obtain ⟨k107, ow107, hk107, hs107⟩ := r107
                replace hk107 : Nx k9 H106.size k107 := hk107
                replace hs107 := hs107.md
                have df63 := DF.app (df19) (bf_hb.mono hm0.size) hk107
                have df64 := DF.app (df20) (bf_ht.mono hm0.size) hk107
                have dj65 : Dj (H83.size + 1) k107 := Dj.app (dj61.symm) ow106.le hk107
                have nx66 : Nx 0 H0.size k107 := Nx.tr (nx22) hk107 hm0.size
                replace hb := hb.upL hs107 (DFL.cons df19 DFL.nil)
                replace ht := ht.upL hs107 (DFL.cons df20 DFL.nil)
                replace ow106 := ow106.upL hs107 (DL.cons dj61.symm DL.nil)
                replace hm0 := (Mo.trL (ks := []) (hm0.mdn []) hs107 (MIL.cons (MI.app MI.z (nx22) (Nat.le_refl _)) MIL.nil)).nil
                have hz20 := hs107.size
                have hle_ow107 := ow107.le
                refine LR.v (Y.move rfl rfl) (Wd.u rfl) rfl rfl ?_
                refine LR.v (Y.len hb rfl Try.runUnderlying22 rfl) (Wd.u rfl) rfl rfl ?_
                refine LR.v (Y.move rfl rfl) (Wd.u rfl) rfl rfl ?_
                refine LR.v (Y.cast (v2 := .int .i64 ((bs.length - s : Nat) : Int)) (Y.subi rfl rfl rfl (by omega)) (ivv (by omega))) (Wd.u rfl) rfl rfl ?_
                refine LR.v (Y.conv_u64 rfl Try.runUnderlying3 Try.runUnderlying48 rfl) (Wd.u rfl) rfl rfl ?_
                -- call selvage/selvageref1.Num
                refine LR.call rfl Try.call21 rfl (Wd.u rfl) rfl rfl (num_ct k107 _ _ 4 (UInt64.ofNat (bs.length - s)) w0 _ ow107 (by omega) (by first | (simp [be32_len, cp]; done) | (simp [be32_len, cp]; omega))) (fun v113 H113 r113 => ?_)
                obtain ⟨v2113, k113, rfl, ow113, hk113, hs113⟩ := r113
                have df67 := DF.app (df63) (bf_hb.mono hm0.size) hk113
                have df68 := DF.app (df64) (bf_ht.mono hm0.size) hk113
                have dj69 : Dj (H83.size + 1) k113 := Dj.app (dj65) ow106.le hk113
                have nx70 : Nx 0 H0.size k113 := Nx.tr (nx66) hk113 hm0.size
                replace hb := hb.upL hs113 (DFL.cons df63 DFL.nil)
                replace ht := ht.upL hs113 (DFL.cons df64 DFL.nil)
                replace ow106 := ow106.upL hs113 (DL.cons dj65 DL.nil)
                replace hm0 := (Mo.trL (ks := []) (hm0.mdn []) hs113 (MIL.cons (MI.app MI.z (nx66) (Nat.le_refl _)) MIL.nil)).nil
                have hz21 := hs113.size
                have hle_ow113 := ow113.le
                rw [num_of (bs.length - s) (by omega)] at ow113
                refine LR.v (Y.move rfl rfl) (Wd.u rfl) rfl rfl ?_
                refine LR.v (Y.conv_u64 rfl Try.runUnderlying3 Try.runUnderlying48 rfl) (Wd.u rfl) rfl rfl ?_
                -- call selvage/selvageref1.Num
                refine LR.call rfl Try.call21 rfl (Wd.u rfl) rfl rfl (num_ct k113 _ _ 4 (UInt64.ofNat (s)) w0 _ ow113 (by omega) (by first | (simp [be32_len, cp]; done) | (simp [be32_len, cp]; omega))) (fun v116 H116 r116 => ?_)
                obtain ⟨v2116, k116, rfl, ow8, hk116, hs116⟩ := r116
                have df71 := DF.app (df67) (bf_hb.mono hm0.size) hk116
                have df72 := DF.app (df68) (bf_ht.mono hm0.size) hk116
                have dj73 : Dj (H83.size + 1) k116 := Dj.app (dj69) ow106.le hk116
                have nx74 : Nx 0 H0.size k116 := Nx.tr (nx70) hk116 hm0.size
                replace hb := hb.upL hs116 (DFL.cons df67 DFL.nil)
                replace ht := ht.upL hs116 (DFL.cons df68 DFL.nil)
                replace ow106 := ow106.upL hs116 (DL.cons dj69 DL.nil)
                replace hm0 := (Mo.trL (ks := []) (hm0.mdn []) hs116 (MIL.cons (MI.app MI.z (nx70) (Nat.le_refl _)) MIL.nil)).nil
                have hz22 := hs116.size
                have hle_ow8 := ow8.le
                rw [num_of (s) (by omega)] at ow8
                refine LR.v (Y.assign rfl rfl) (Wd.u rfl) rfl rfl ?_
                refine LR.nil ?_
                refine hK26 _ _ ?_
                refine CW.seq (fun K28 hK28 hE28 => ?_)
                refine CW.region ?_
                refine LR.v (Y.move rfl rfl) (Wd.u rfl) rfl rfl ?_
                refine LR.v (Y.assign rfl rfl) (Wd.u rfl) rfl rfl ?_
                refine LR.nil ?_
                refine hK28 _ _ ?_
                refine CW.ret (hret .ret (.inr rfl) _ _ _ (res1 rfl rfl) ?_)
                exact ⟨_, k116, p, s, rfl, hE, by
                    unfold mkL
                    first | rw [if_pos (show 0 < p by omega)] | rw [if_neg (show ¬ 0 < p by omega)]
                    first | rw [if_pos (show 0 < (mid tg p s).length by omega)] | rw [if_neg (show ¬ 0 < (mid tg p s).length by omega)]
                    first | rw [if_pos (show 0 < s by omega)] | rw [if_neg (show ¬ 0 < s by omega)]
                    simpa [cp] using ow8, nx74, hm0⟩
              ·
                refine CW.skip ?_
                refine hK26 _ _ ?_
                refine CW.seq (fun K29 hK29 hE29 => ?_)
                refine CW.region ?_
                refine LR.v (Y.move rfl rfl) (Wd.u rfl) rfl rfl ?_
                refine LR.v (Y.assign rfl rfl) (Wd.u rfl) rfl rfl ?_
                refine LR.nil ?_
                refine hK29 _ _ ?_
                refine CW.ret (hret .ret (.inr rfl) _ _ _ (res1 rfl rfl) ?_)
                exact ⟨_, k9, p, s, rfl, hE, by
                    unfold mkL
                    first | rw [if_pos (show 0 < p by omega)] | rw [if_neg (show ¬ 0 < p by omega)]
                    first | rw [if_pos (show 0 < (mid tg p s).length by omega)] | rw [if_neg (show ¬ 0 < (mid tg p s).length by omega)]
                    first | rw [if_pos (show 0 < s by omega)] | rw [if_neg (show ¬ 0 < s by omega)]
                    simpa [cp] using ow8, nx22, hm0⟩
          ·
            refine CW.skip ?_
            refine hK17 _ _ ?_
            refine CW.seq (fun K30 hK30 hE30 => ?_)
            refine CW.region ?_
            refine LR.v (Y.move rfl rfl) (Wd.u rfl) rfl rfl ?_
            refine LR.v (Y.move rfl rfl) (Wd.u rfl) rfl rfl ?_
            refine LR.v (Y.move rfl rfl) (Wd.u rfl) rfl rfl ?_
            refine LR.v (Y.len ht rfl Try.runUnderlying22 rfl) (Wd.u rfl) rfl rfl ?_
            refine LR.v (Y.move rfl rfl) (Wd.u rfl) rfl rfl ?_
            refine LR.v (Y.subi rfl rfl rfl (by omega)) (Wd.u rfl) rfl rfl ?_
            refine LR.e (g := fun v => v) (Y.slice ht (p) (tg.length - s) rfl Try.runUnderlying22 Try.sizeOf5 rfl (.inr ⟨_, _, _, rfl, rfl, by first | rfl | omega⟩) (.inr ⟨_, _, _, rfl, rfl, by omega⟩) (by omega) (by omega)) (Wd.u rfl) rfl rfl (fun v90 rd90 => ?_)
            have bf_rd90 := bf_ht
            replace rd90 : Rd _ _ fB 1 v90 (mid tg p s) := rd90
            refine LR.v (Y.assign rfl rfl) (Wd.u rfl) rfl rfl ?_
            refine LR.nil ?_
            refine hK30 _ _ ?_
            refine CW.seq (fun K31 hK31 hE31 => ?_)
            refine CW.seq (fun K32 hK32 hE32 => ?_)
            refine CW.region ?_
            refine LR.v (Y.move rfl rfl) (Wd.u rfl) rfl rfl ?_
            refine LR.v (Y.len rd90 rfl Try.runUnderlying22 rfl) (Wd.u rfl) rfl rfl ?_
            refine LR.v (Y.gtr rfl rfl rfl) (Wd.u rfl) rfl rfl ?_
            refine LR.nil ?_
            refine hK32 _ _ ?_
            refine CW.condp rfl (fun c93 => ?_) (fun c93 => ?_)
            ·
              refine CW.region ?_
              refine LR.v (Y.move rfl rfl) (Wd.u rfl) rfl rfl ?_
              refine LR.z (Z.litw _ ([(2 : UInt8)]) rfl inf22 rfl rfl rfl (by decide) (by decide) fB_len fB_one (rfl)) (Wd.u rfl) rfl rfl (fun v95 H95 r95 => ?_)
              obtain ⟨ow95, hs95, ob95, hH95⟩ := r95
              have hzs95 : H95.size = H74.size + 1 := by rw [hH95]; simp
              have df75 := (DF.new (bf_hb.mono hm0.size) : DF _ (H74.size + 1))
              have df76 := (DF.new (bf_ht.mono hm0.size) : DF _ (H74.size + 1))
              have dj77 : Dj k8 (H74.size + 1) := Dj.new ow8.le
              have df78 := (DF.new (bf_rd90.mono hm0.size) : DF _ (H74.size + 1))
              have nx79 : Nx 0 H0.size (H74.size + 1) := Nx.new hm0.size
              replace hb := hb.nw hs95
              replace ht := ht.nw hs95
              replace ow8 := ow8.nw hs95
              replace rd90 := rd90.nw hs95
              replace hm0 := hm0.tr hs95
              have hz23 := hs95.size
              refine LR.z (Z.apnd ow8 ow95.rd rfl inf22 rfl rfl (by first | (simp [be32_len, cp]; done) | (simp [be32_len, cp]; omega)) (by first | (simp [be32_len, cp]; done) | (simp [be32_len, cp]; omega))) (Wd.u rfl) rfl rfl (fun v96 H96 r96 => ?_)
              obtain ⟨k96, ow96, hk96, hs96⟩ := r96
              replace hk96 : Nx k8 H95.size k96 := hk96
              replace hs96 := hs96.md
              have df80 := DF.app (df4) (bf_hb.mono hm0.size) hk96
              have df81 := DF.app (df5) (bf_ht.mono hm0.size) hk96
              have df82 := DF.app (df5) (bf_rd90.mono hm0.size) hk96
              have dj83 : Dj (H74.size + 1) k96 := Dj.app (dj77.symm) ow95.le hk96
              have nx84 : Nx 0 H0.size k96 := Nx.tr (nx6) hk96 hm0.size
              replace hb := hb.upL hs96 (DFL.cons df4 DFL.nil)
              replace ht := ht.upL hs96 (DFL.cons df5 DFL.nil)
              replace rd90 := rd90.upL hs96 (DFL.cons df5 DFL.nil)
              replace ow95 := ow95.upL hs96 (DL.cons dj77.symm DL.nil)
              replace hm0 := (Mo.trL (ks := []) (hm0.mdn []) hs96 (MIL.cons (MI.app MI.z (nx6) (Nat.le_refl _)) MIL.nil)).nil
              have hz24 := hs96.size
              have hle_ow96 := ow96.le
              refine LR.v (Y.move rfl rfl) (Wd.u rfl) rfl rfl ?_
              refine LR.v (Y.len rd90 rfl Try.runUnderlying22 rfl) (Wd.u rfl) rfl rfl ?_
              refine LR.v (Y.conv_u64 rfl Try.runUnderlying3 Try.runUnderlying48 rfl) (Wd.u rfl) rfl rfl ?_
              -- call selvage/selvageref1.Num
              refine LR.call rfl Try.call21 rfl (Wd.u rfl) rfl rfl (num_ct k96 _ _ 4 (UInt64.ofNat ((mid tg p s).length)) w0 _ ow96 (by omega) (by first | (simp [be32_len, cp]; done) | (simp [be32_len, cp]; omega))) (fun v100 H100 r100 => ?_)
              obtain ⟨v2100, k100, rfl, ow100, hk100, hs100⟩ := r100
              have df85 := DF.app (df80) (bf_hb.mono hm0.size) hk100
              have df86 := DF.app (df81) (bf_ht.mono hm0.size) hk100
              have df87 := DF.app (df82) (bf_rd90.mono hm0.size) hk100
              have dj88 : Dj (H74.size + 1) k100 := Dj.app (dj83) ow95.le hk100
              have nx89 : Nx 0 H0.size k100 := Nx.tr (nx84) hk100 hm0.size
              replace hb := hb.upL hs100 (DFL.cons df80 DFL.nil)
              replace ht := ht.upL hs100 (DFL.cons df81 DFL.nil)
              replace rd90 := rd90.upL hs100 (DFL.cons df82 DFL.nil)
              replace ow95 := ow95.upL hs100 (DL.cons dj83 DL.nil)
              replace hm0 := (Mo.trL (ks := []) (hm0.mdn []) hs100 (MIL.cons (MI.app MI.z (nx84) (Nat.le_refl _)) MIL.nil)).nil
              have hz25 := hs100.size
              have hle_ow100 := ow100.le
              rw [num_of ((mid tg p s).length) (by omega)] at ow100
              refine LR.v (Y.move rfl rfl) (Wd.u rfl) rfl rfl ?_
              refine LR.z (Z.apnd ow100 rd90 rfl inf22 rfl rfl (by first | (simp [be32_len, cp]; done) | (simp [be32_len, cp]; omega)) (by first | (simp [be32_len, cp]; done) | (simp [be32_len, cp]; omega))) (Wd.u rfl) rfl rfl (fun v102 H102 r102 => ?_)
              obtain ⟨k102, ow8, hk102, hs102⟩ := r102
              replace hk102 : Nx k100 H100.size k102 := hk102
              replace hs102 := hs102.md
              have df90 := DF.app (df85) (bf_hb.mono hm0.size) hk102
              have df91 := DF.app (df86) (bf_ht.mono hm0.size) hk102
              have df92 := DF.app (df87) (bf_rd90.mono hm0.size) hk102
              have dj93 : Dj (H74.size + 1) k102 := Dj.app (dj88) ow95.le hk102
              have nx94 : Nx 0 H0.size k102 := Nx.tr (nx89) hk102 hm0.size
              replace hb := hb.upL hs102 (DFL.cons df85 DFL.nil)
              replace ht := ht.upL hs102 (DFL.cons df86 DFL.nil)
              replace rd90 := rd90.upL hs102 (DFL.cons df87 DFL.nil)
              replace ow95 := ow95.upL hs102 (DL.cons dj88 DL.nil)
              replace hm0 := (Mo.trL (ks := []) (hm0.mdn []) hs102 (MIL.cons (MI.app MI.z (nx89) (Nat.le_refl _)) MIL.nil)).nil
              have hz26 := hs102.size
              have hle_ow8 := ow8.le
              refine LR.v (Y.assign rfl rfl) (Wd.u rfl) rfl rfl ?_
              refine LR.nil ?_
              refine hK31 _ _ ?_
              refine CW.seq (fun K33 hK33 hE33 => ?_)
              refine CW.seq (fun K34 hK34 hE34 => ?_)
              refine CW.region ?_
              refine LR.v (Y.move rfl rfl) (Wd.u rfl) rfl rfl ?_
              refine LR.v (Y.gtr rfl rfl rfl) (Wd.u rfl) rfl rfl ?_
              refine LR.nil ?_
              refine hK34 _ _ ?_
              refine CW.condp rfl (fun c104 => ?_) (fun c104 => ?_)
              ·
                refine CW.region ?_
                refine LR.v (Y.move rfl rfl) (Wd.u rfl) rfl rfl ?_
                refine LR.z (Z.litw _ ([(1 : UInt8)]) rfl inf22 rfl rfl rfl (by decide) (by decide) fB_len fB_one (rfl)) (Wd.u rfl) rfl rfl (fun v106 H106 r106 => ?_)
                obtain ⟨ow106, hs106, ob106, hH106⟩ := r106
                have hzs106 : H106.size = H102.size + 1 := by rw [hH106]; simp
                have df95 := (DF.new (bf_hb.mono hm0.size) : DF _ (H102.size + 1))
                have df96 := (DF.new (bf_ht.mono hm0.size) : DF _ (H102.size + 1))
                have dj97 : Dj k102 (H102.size + 1) := Dj.new ow8.le
                have nx98 : Nx 0 H0.size (H102.size + 1) := Nx.new hm0.size
                replace hb := hb.nw hs106
                replace ht := ht.nw hs106
                replace ow8 := ow8.nw hs106
                replace hm0 := hm0.tr hs106
                have hz27 := hs106.size
                refine LR.z (Z.apnd ow8 ow106.rd rfl inf22 rfl rfl (by first | (simp [be32_len, cp]; done) | (simp [be32_len, cp]; omega)) (by first | (simp [be32_len, cp]; done) | (simp [be32_len, cp]; omega))) (Wd.u rfl) rfl rfl (fun v107 H107 r107 => ?_)
                obtain ⟨k107, ow107, hk107, hs107⟩ := r107
                replace hk107 : Nx k102 H106.size k107 := hk107
                replace hs107 := hs107.md
                have df99 := DF.app (df90) (bf_hb.mono hm0.size) hk107
                have df100 := DF.app (df91) (bf_ht.mono hm0.size) hk107
                have dj101 : Dj (H102.size + 1) k107 := Dj.app (dj97.symm) ow106.le hk107
                have nx102 : Nx 0 H0.size k107 := Nx.tr (nx94) hk107 hm0.size
                replace hb := hb.upL hs107 (DFL.cons df90 DFL.nil)
                replace ht := ht.upL hs107 (DFL.cons df91 DFL.nil)
                replace ow106 := ow106.upL hs107 (DL.cons dj97.symm DL.nil)
                replace hm0 := (Mo.trL (ks := []) (hm0.mdn []) hs107 (MIL.cons (MI.app MI.z (nx94) (Nat.le_refl _)) MIL.nil)).nil
                have hz28 := hs107.size
                have hle_ow107 := ow107.le
                refine LR.v (Y.move rfl rfl) (Wd.u rfl) rfl rfl ?_
                refine LR.v (Y.len hb rfl Try.runUnderlying22 rfl) (Wd.u rfl) rfl rfl ?_
                refine LR.v (Y.move rfl rfl) (Wd.u rfl) rfl rfl ?_
                refine LR.v (Y.cast (v2 := .int .i64 ((bs.length - s : Nat) : Int)) (Y.subi rfl rfl rfl (by omega)) (ivv (by omega))) (Wd.u rfl) rfl rfl ?_
                refine LR.v (Y.conv_u64 rfl Try.runUnderlying3 Try.runUnderlying48 rfl) (Wd.u rfl) rfl rfl ?_
                -- call selvage/selvageref1.Num
                refine LR.call rfl Try.call21 rfl (Wd.u rfl) rfl rfl (num_ct k107 _ _ 4 (UInt64.ofNat (bs.length - s)) w0 _ ow107 (by omega) (by first | (simp [be32_len, cp]; done) | (simp [be32_len, cp]; omega))) (fun v113 H113 r113 => ?_)
                obtain ⟨v2113, k113, rfl, ow113, hk113, hs113⟩ := r113
                have df103 := DF.app (df99) (bf_hb.mono hm0.size) hk113
                have df104 := DF.app (df100) (bf_ht.mono hm0.size) hk113
                have dj105 : Dj (H102.size + 1) k113 := Dj.app (dj101) ow106.le hk113
                have nx106 : Nx 0 H0.size k113 := Nx.tr (nx102) hk113 hm0.size
                replace hb := hb.upL hs113 (DFL.cons df99 DFL.nil)
                replace ht := ht.upL hs113 (DFL.cons df100 DFL.nil)
                replace ow106 := ow106.upL hs113 (DL.cons dj101 DL.nil)
                replace hm0 := (Mo.trL (ks := []) (hm0.mdn []) hs113 (MIL.cons (MI.app MI.z (nx102) (Nat.le_refl _)) MIL.nil)).nil
                have hz29 := hs113.size
                have hle_ow113 := ow113.le
                rw [num_of (bs.length - s) (by omega)] at ow113
                refine LR.v (Y.move rfl rfl) (Wd.u rfl) rfl rfl ?_
                refine LR.v (Y.conv_u64 rfl Try.runUnderlying3 Try.runUnderlying48 rfl) (Wd.u rfl) rfl rfl ?_
                -- call selvage/selvageref1.Num
                refine LR.call rfl Try.call21 rfl (Wd.u rfl) rfl rfl (num_ct k113 _ _ 4 (UInt64.ofNat (s)) w0 _ ow113 (by omega) (by first | (simp [be32_len, cp]; done) | (simp [be32_len, cp]; omega))) (fun v116 H116 r116 => ?_)
                obtain ⟨v2116, k116, rfl, ow8, hk116, hs116⟩ := r116
                have df107 := DF.app (df103) (bf_hb.mono hm0.size) hk116
                have df108 := DF.app (df104) (bf_ht.mono hm0.size) hk116
                have dj109 : Dj (H102.size + 1) k116 := Dj.app (dj105) ow106.le hk116
                have nx110 : Nx 0 H0.size k116 := Nx.tr (nx106) hk116 hm0.size
                replace hb := hb.upL hs116 (DFL.cons df103 DFL.nil)
                replace ht := ht.upL hs116 (DFL.cons df104 DFL.nil)
                replace ow106 := ow106.upL hs116 (DL.cons dj105 DL.nil)
                replace hm0 := (Mo.trL (ks := []) (hm0.mdn []) hs116 (MIL.cons (MI.app MI.z (nx106) (Nat.le_refl _)) MIL.nil)).nil
                have hz30 := hs116.size
                have hle_ow8 := ow8.le
                rw [num_of (s) (by omega)] at ow8
                refine LR.v (Y.assign rfl rfl) (Wd.u rfl) rfl rfl ?_
                refine LR.nil ?_
                refine hK33 _ _ ?_
                refine CW.seq (fun K35 hK35 hE35 => ?_)
                refine CW.region ?_
                refine LR.v (Y.move rfl rfl) (Wd.u rfl) rfl rfl ?_
                refine LR.v (Y.assign rfl rfl) (Wd.u rfl) rfl rfl ?_
                refine LR.nil ?_
                refine hK35 _ _ ?_
                refine CW.ret (hret .ret (.inr rfl) _ _ _ (res1 rfl rfl) ?_)
                exact ⟨_, k116, p, s, rfl, hE, by
                    unfold mkL
                    first | rw [if_pos (show 0 < p by omega)] | rw [if_neg (show ¬ 0 < p by omega)]
                    first | rw [if_pos (show 0 < (mid tg p s).length by omega)] | rw [if_neg (show ¬ 0 < (mid tg p s).length by omega)]
                    first | rw [if_pos (show 0 < s by omega)] | rw [if_neg (show ¬ 0 < s by omega)]
                    simpa [cp] using ow8, nx110, hm0⟩
              ·
                refine CW.skip ?_
                refine hK33 _ _ ?_
                refine CW.seq (fun K36 hK36 hE36 => ?_)
                refine CW.region ?_
                refine LR.v (Y.move rfl rfl) (Wd.u rfl) rfl rfl ?_
                refine LR.v (Y.assign rfl rfl) (Wd.u rfl) rfl rfl ?_
                refine LR.nil ?_
                refine hK36 _ _ ?_
                refine CW.ret (hret .ret (.inr rfl) _ _ _ (res1 rfl rfl) ?_)
                exact ⟨_, k102, p, s, rfl, hE, by
                    unfold mkL
                    first | rw [if_pos (show 0 < p by omega)] | rw [if_neg (show ¬ 0 < p by omega)]
                    first | rw [if_pos (show 0 < (mid tg p s).length by omega)] | rw [if_neg (show ¬ 0 < (mid tg p s).length by omega)]
                    first | rw [if_pos (show 0 < s by omega)] | rw [if_neg (show ¬ 0 < s by omega)]
                    simpa [cp] using ow8, nx94, hm0⟩
            ·
              refine CW.skip ?_
              refine hK31 _ _ ?_
              refine CW.seq (fun K37 hK37 hE37 => ?_)
              refine CW.seq (fun K38 hK38 hE38 => ?_)
              refine CW.region ?_
              refine LR.v (Y.move rfl rfl) (Wd.u rfl) rfl rfl ?_
              refine LR.v (Y.gtr rfl rfl rfl) (Wd.u rfl) rfl rfl ?_
              refine LR.nil ?_
              refine hK38 _ _ ?_
              refine CW.condp rfl (fun c104 => ?_) (fun c104 => ?_)
              ·
                refine CW.region ?_
                refine LR.v (Y.move rfl rfl) (Wd.u rfl) rfl rfl ?_
                refine LR.z (Z.litw _ ([(1 : UInt8)]) rfl inf22 rfl rfl rfl (by decide) (by decide) fB_len fB_one (rfl)) (Wd.u rfl) rfl rfl (fun v106 H106 r106 => ?_)
                obtain ⟨ow106, hs106, ob106, hH106⟩ := r106
                have hzs106 : H106.size = H74.size + 1 := by rw [hH106]; simp
                have df111 := (DF.new (bf_hb.mono hm0.size) : DF _ (H74.size + 1))
                have df112 := (DF.new (bf_ht.mono hm0.size) : DF _ (H74.size + 1))
                have dj113 : Dj k8 (H74.size + 1) := Dj.new ow8.le
                have nx114 : Nx 0 H0.size (H74.size + 1) := Nx.new hm0.size
                replace hb := hb.nw hs106
                replace ht := ht.nw hs106
                replace ow8 := ow8.nw hs106
                replace hm0 := hm0.tr hs106
                have hz31 := hs106.size
                refine LR.z (Z.apnd ow8 ow106.rd rfl inf22 rfl rfl (by first | (simp [be32_len, cp]; done) | (simp [be32_len, cp]; omega)) (by first | (simp [be32_len, cp]; done) | (simp [be32_len, cp]; omega))) (Wd.u rfl) rfl rfl (fun v107 H107 r107 => ?_)
                obtain ⟨k107, ow107, hk107, hs107⟩ := r107
                replace hk107 : Nx k8 H106.size k107 := hk107
                replace hs107 := hs107.md
                have df115 := DF.app (df4) (bf_hb.mono hm0.size) hk107
                have df116 := DF.app (df5) (bf_ht.mono hm0.size) hk107
                have dj117 : Dj (H74.size + 1) k107 := Dj.app (dj113.symm) ow106.le hk107
                have nx118 : Nx 0 H0.size k107 := Nx.tr (nx6) hk107 hm0.size
                replace hb := hb.upL hs107 (DFL.cons df4 DFL.nil)
                replace ht := ht.upL hs107 (DFL.cons df5 DFL.nil)
                replace ow106 := ow106.upL hs107 (DL.cons dj113.symm DL.nil)
                replace hm0 := (Mo.trL (ks := []) (hm0.mdn []) hs107 (MIL.cons (MI.app MI.z (nx6) (Nat.le_refl _)) MIL.nil)).nil
                have hz32 := hs107.size
                have hle_ow107 := ow107.le
                refine LR.v (Y.move rfl rfl) (Wd.u rfl) rfl rfl ?_
                refine LR.v (Y.len hb rfl Try.runUnderlying22 rfl) (Wd.u rfl) rfl rfl ?_
                refine LR.v (Y.move rfl rfl) (Wd.u rfl) rfl rfl ?_
                refine LR.v (Y.cast (v2 := .int .i64 ((bs.length - s : Nat) : Int)) (Y.subi rfl rfl rfl (by omega)) (ivv (by omega))) (Wd.u rfl) rfl rfl ?_
                refine LR.v (Y.conv_u64 rfl Try.runUnderlying3 Try.runUnderlying48 rfl) (Wd.u rfl) rfl rfl ?_
                -- call selvage/selvageref1.Num
                refine LR.call rfl Try.call21 rfl (Wd.u rfl) rfl rfl (num_ct k107 _ _ 4 (UInt64.ofNat (bs.length - s)) w0 _ ow107 (by omega) (by first | (simp [be32_len, cp]; done) | (simp [be32_len, cp]; omega))) (fun v113 H113 r113 => ?_)
                obtain ⟨v2113, k113, rfl, ow113, hk113, hs113⟩ := r113
                have df119 := DF.app (df115) (bf_hb.mono hm0.size) hk113
                have df120 := DF.app (df116) (bf_ht.mono hm0.size) hk113
                have dj121 : Dj (H74.size + 1) k113 := Dj.app (dj117) ow106.le hk113
                have nx122 : Nx 0 H0.size k113 := Nx.tr (nx118) hk113 hm0.size
                replace hb := hb.upL hs113 (DFL.cons df115 DFL.nil)
                replace ht := ht.upL hs113 (DFL.cons df116 DFL.nil)
                replace ow106 := ow106.upL hs113 (DL.cons dj117 DL.nil)
                replace hm0 := (Mo.trL (ks := []) (hm0.mdn []) hs113 (MIL.cons (MI.app MI.z (nx118) (Nat.le_refl _)) MIL.nil)).nil
                have hz33 := hs113.size
                have hle_ow113 := ow113.le
                rw [num_of (bs.length - s) (by omega)] at ow113
                refine LR.v (Y.move rfl rfl) (Wd.u rfl) rfl rfl ?_
                refine LR.v (Y.conv_u64 rfl Try.runUnderlying3 Try.runUnderlying48 rfl) (Wd.u rfl) rfl rfl ?_
                -- call selvage/selvageref1.Num
                refine LR.call rfl Try.call21 rfl (Wd.u rfl) rfl rfl (num_ct k113 _ _ 4 (UInt64.ofNat (s)) w0 _ ow113 (by omega) (by first | (simp [be32_len, cp]; done) | (simp [be32_len, cp]; omega))) (fun v116 H116 r116 => ?_)
                obtain ⟨v2116, k116, rfl, ow8, hk116, hs116⟩ := r116
                have df123 := DF.app (df119) (bf_hb.mono hm0.size) hk116
                have df124 := DF.app (df120) (bf_ht.mono hm0.size) hk116
                have dj125 : Dj (H74.size + 1) k116 := Dj.app (dj121) ow106.le hk116
                have nx126 : Nx 0 H0.size k116 := Nx.tr (nx122) hk116 hm0.size
                replace hb := hb.upL hs116 (DFL.cons df119 DFL.nil)
                replace ht := ht.upL hs116 (DFL.cons df120 DFL.nil)
                replace ow106 := ow106.upL hs116 (DL.cons dj121 DL.nil)
                replace hm0 := (Mo.trL (ks := []) (hm0.mdn []) hs116 (MIL.cons (MI.app MI.z (nx122) (Nat.le_refl _)) MIL.nil)).nil
                have hz34 := hs116.size
                have hle_ow8 := ow8.le
                rw [num_of (s) (by omega)] at ow8
                refine LR.v (Y.assign rfl rfl) (Wd.u rfl) rfl rfl ?_
                refine LR.nil ?_
                refine hK37 _ _ ?_
                refine CW.seq (fun K39 hK39 hE39 => ?_)
                refine CW.region ?_
                refine LR.v (Y.move rfl rfl) (Wd.u rfl) rfl rfl ?_
                refine LR.v (Y.assign rfl rfl) (Wd.u rfl) rfl rfl ?_
                refine LR.nil ?_
                refine hK39 _ _ ?_
                refine CW.ret (hret .ret (.inr rfl) _ _ _ (res1 rfl rfl) ?_)
                exact ⟨_, k116, p, s, rfl, hE, by
                    unfold mkL
                    first | rw [if_pos (show 0 < p by omega)] | rw [if_neg (show ¬ 0 < p by omega)]
                    first | rw [if_pos (show 0 < (mid tg p s).length by omega)] | rw [if_neg (show ¬ 0 < (mid tg p s).length by omega)]
                    first | rw [if_pos (show 0 < s by omega)] | rw [if_neg (show ¬ 0 < s by omega)]
                    simpa [cp] using ow8, nx126, hm0⟩
              ·
                refine CW.skip ?_
                refine hK37 _ _ ?_
                refine CW.seq (fun K40 hK40 hE40 => ?_)
                refine CW.region ?_
                refine LR.v (Y.move rfl rfl) (Wd.u rfl) rfl rfl ?_
                refine LR.v (Y.assign rfl rfl) (Wd.u rfl) rfl rfl ?_
                refine LR.nil ?_
                refine hK40 _ _ ?_
                refine CW.ret (hret .ret (.inr rfl) _ _ _ (res1 rfl rfl) ?_)
                exact ⟨_, k8, p, s, rfl, hE, by
                    unfold mkL
                    first | rw [if_pos (show 0 < p by omega)] | rw [if_neg (show ¬ 0 < p by omega)]
                    first | rw [if_pos (show 0 < (mid tg p s).length by omega)] | rw [if_neg (show ¬ 0 < (mid tg p s).length by omega)]
                    first | rw [if_pos (show 0 < s by omega)] | rw [if_neg (show ¬ 0 < s by omega)]
                    simpa [cp] using ow8, nx6, hm0⟩

end Go.Proofs.Ytjkjdpainenofaa.DelC
