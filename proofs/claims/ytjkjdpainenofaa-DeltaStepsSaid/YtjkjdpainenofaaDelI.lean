/-
  The contract of DeltaTurns.
-/
import Derived.Test.YtjkjdpainenofaaDelH
namespace Go.Proofs.Ytjkjdpainenofaa.DelI
open Go.Proofs.Ytjkjdpainenofaa.E Go.RowKit Go.Proofs.Ytjkjdpainenofaa.Num Go.Proofs.Ytjkjdpainenofaa.DelA Go.Proofs.Ytjkjdpainenofaa.DelB Go.Proofs.Ytjkjdpainenofaa.DelC Go.Proofs.Ytjkjdpainenofaa.DelD Go.Proofs.Ytjkjdpainenofaa.DelE Go.Proofs.Ytjkjdpainenofaa.DelF Go.Proofs.Ytjkjdpainenofaa.DelG Go.Proofs.Ytjkjdpainenofaa.DelH
set_option linter.unusedVariables false
set_option linter.unusedSimpArgs false
set_option linter.unusedSectionVars false
theorem inf22 : Inf Try.prog 22 5 1 1 := ⟨Try.underlying22, _, _, rfl, rfl, rfl, rfl, rfl⟩

theorem mid_len (t : List UInt8) (p s : Nat) : (mid t p s).length ≤ t.length := by simp [mid]; omega
theorem mkL_len (b t : List UInt8) (p s : Nat) : 8 ≤ (mkL b t p s).length ∧ (mkL b t p s).length ≤ t.length + 31 := by
  have := mid_len t p s
  unfold mkL cp
  simp only [List.length_append, be32_len]
  constructor
  · omega
  · split <;> split <;> split <;> simp only [List.length_cons, List.length_append, be32_len, List.length_nil] <;> omega

theorem within_ct (a b : Int) (w0 : World) (H0 : Heap)
    (hb : 1 ≤ b ∧ b ≤ 1000000) (ha : -9223372036854775808 ≤ a ∧ a ≤ 9223372036854775807) :
    Ct Try.prog w0 12 #[.int .i64 a, .int .i64 b] H0 (fun r H2 => ∃ k : Nat, r = .int .i64 k ∧ ((k : Int) < b) ∧ Nw H0 H2) := by
  refine Ct.enter (args := [.int .i64 a, .int .i64 b]) Try.func12 rfl rfl rfl ?_
  intro Q0 hret
  have hm0 : Nw H0 H0 := Mo.refl _ _
  refine CW.seq (fun K1 hK1 hE1 => ?_)
  refine CW.region ?_
  refine LR.v (Y.assign rfl rfl) (Wd.u rfl) rfl rfl ?_
  refine LR.nil ?_
  refine hK1 _ _ ?_
  refine CW.seq (fun K2 hK2 hE2 => ?_)
  refine CW.region ?_
  refine LR.v (Y.move rfl rfl) (Wd.u rfl) rfl rfl ?_
  refine LR.v (Y.move rfl rfl) (Wd.u rfl) rfl rfl ?_
  refine LR.v (Y.rem rfl rfl rfl (by omega)) (Wd.u rfl) rfl rfl ?_
  have ht1 := Int.tmod_lt_of_pos a (show 0 < b by omega)
  have ht2 := Int.lt_tmod_of_pos a (show 0 < b by omega)
  refine LR.v (Y.assign rfl rfl) (Wd.u rfl) rfl rfl ?_
  refine LR.nil ?_
  refine hK2 _ _ ?_
  refine CW.seq (fun K3 hK3 hE3 => ?_)
  refine CW.seq (fun K4 hK4 hE4 => ?_)
  refine CW.region ?_
  refine LR.v (Y.move rfl rfl) (Wd.u rfl) rfl rfl ?_
  refine LR.v (Y.lss rfl rfl rfl) (Wd.u rfl) rfl rfl ?_
  refine LR.nil ?_
  refine hK4 _ _ ?_
  refine CW.condp rfl (fun c10 => ?_) (fun c10 => ?_)
  ·
    refine CW.region ?_
    refine LR.v (Y.move rfl rfl) (Wd.u rfl) rfl rfl ?_
    refine LR.v (Y.move rfl rfl) (Wd.u rfl) rfl rfl ?_
    refine LR.v (Y.addi rfl rfl rfl (by omega)) (Wd.u rfl) rfl rfl ?_
    refine LR.v (Y.assign rfl rfl) (Wd.u rfl) rfl rfl ?_
    refine LR.nil ?_
    refine hK3 _ _ ?_
    refine CW.seq (fun K5 hK5 hE5 => ?_)
    refine CW.region ?_
    refine LR.v (Y.move rfl rfl) (Wd.u rfl) rfl rfl ?_
    refine LR.v (Y.assign rfl rfl) (Wd.u rfl) rfl rfl ?_
    refine LR.nil ?_
    refine hK5 _ _ ?_
    refine CW.ret (hret .ret (.inr rfl) _ _ _ (res1 rfl rfl) ?_)
    exact ⟨(a.tmod b + b).toNat, ivv (by omega), (by omega), hm0⟩
  ·
    refine CW.skip ?_
    refine hK3 _ _ ?_
    refine CW.seq (fun K6 hK6 hE6 => ?_)
    refine CW.region ?_
    refine LR.v (Y.move rfl rfl) (Wd.u rfl) rfl rfl ?_
    refine LR.v (Y.assign rfl rfl) (Wd.u rfl) rfl rfl ?_
    refine LR.nil ?_
    refine hK6 _ _ ?_
    refine CW.ret (hret .ret (.inr rfl) _ _ _ (res1 rfl rfl) ?_)
    exact ⟨(a.tmod b).toNat, ivv (by omega), (by omega), hm0⟩

set_option maxHeartbeats 4000000 in
theorem deltaTurns_ct (v0 v1 v2 v3 v5 : Value) (c : Int) (bs tg : List UInt8) (al : List Int) (yl mo : List UInt8) (w0 : World) (H0 : Heap)
    (hb : RdT H0 fB 1 v0 bs) (ht : RdT H0 fB 1 v1 tg) (ha : RdT H0 fI 1 v2 al) (hy : RdT H0 fB 1 v3 yl) (hmo : RdT H0 fB 1 v5 mo) (hal : ∀ x ∈ al, -9223372036854775808 ≤ x ∧ x ≤ 9223372036854775807) (hc : -9223372036854775808 ≤ c ∧ c ≤ 9223372036854775807) :
    Ct Try.prog w0 4 #[v0, v1, v2, v3, .int .i64 c, v5] H0 (fun r H2 => r = .bool true ∧ Nw H0 H2) := by
  refine Ct.enter (args := [v0, v1, v2, v3, .int .i64 c, v5]) Try.func4 rfl rfl rfl ?_
  intro Q0 hret
  have hm0 : Nw H0 H0 := Mo.refl _ _
  replace hb := hb.bnd
  have bf_hb := Rd.bf hb
  replace ht := ht.bnd
  have bf_ht := Rd.bf ht
  replace ha := ha.bnd
  have bf_ha := Rd.bf ha
  replace hy := hy.bnd
  have bf_hy := Rd.bf hy
  replace hmo := hmo.bnd
  have bf_hmo := Rd.bf hmo
  refine CW.seq (fun K1 hK1 hE1 => ?_)
  refine CW.region ?_
  refine LR.v (Y.assign rfl rfl) (Wd.u rfl) rfl rfl ?_
  refine LR.nil ?_
  refine hK1 _ _ ?_
  refine CW.seq (fun K2 hK2 hE2 => ?_)
  refine CW.seq (fun K3 hK3 hE3 => ?_)
  refine CW.region ?_
  -- call selvage/selvagelaw6.known
  refine LR.call rfl Try.call7 rfl (Wd.u rfl) rfl rfl (known_ct w0 _) (fun v20 H20 r20 => ?_)
  obtain ⟨rfl, hs20⟩ := r20
  replace hb := hb.nw hs20
  replace ht := ht.nw hs20
  replace ha := ha.nw hs20
  replace hy := hy.nw hs20
  replace hmo := hmo.nw hs20
  replace hm0 := hm0.tr hs20
  have hz1 := hs20.size
  refine LR.v (Y.not rfl rfl) (Wd.u rfl) rfl rfl ?_
  refine LR.nil ?_
  refine hK3 _ _ ?_
  refine CW.cond_f rfl ?_
  refine CW.skip ?_
  refine hK2 _ _ ?_
  refine CW.seq (fun K4 hK4 hE4 => ?_)
  refine CW.seq (fun K5 hK5 hE5 => ?_)
  refine CW.region ?_
  refine LR.v (Y.move rfl rfl) (Wd.u rfl) rfl rfl ?_
  refine LR.v (Y.len hb rfl Try.runUnderlying22 rfl) (Wd.u rfl) rfl rfl ?_
  refine LR.v (Y.gtr rfl rfl rfl) (Wd.u rfl) rfl rfl ?_
  refine LR.v (Y.move rfl rfl) (Wd.u rfl) rfl rfl ?_
  refine LR.splitp (d := 25) rfl (fun g25 => ?_) (fun g25 => ?_)
  ·
    refine LR.gs rfl rfl rfl rfl rfl rfl ?_
    refine LR.gs rfl rfl rfl rfl rfl rfl ?_
    refine LR.gs rfl rfl rfl rfl rfl rfl ?_
    refine LR.v (Y.pick_t rfl rfl rfl) (Wd.u rfl) rfl rfl ?_
    refine LR.v (Y.move rfl rfl) (Wd.u rfl) rfl rfl ?_
    refine LR.gs rfl rfl rfl rfl rfl rfl ?_
    refine LR.gs rfl rfl rfl rfl rfl rfl ?_
    refine LR.gs rfl rfl rfl rfl rfl rfl ?_
    refine LR.v (Y.pick_t rfl rfl rfl) (Wd.u rfl) rfl rfl ?_
    refine LR.nil ?_
    refine hK5 _ _ ?_
    refine CW.cond_t rfl ?_
    refine CW.seq (fun K6 hK6 hE6 => ?_)
    refine CW.region ?_
    refine LR.v (Y.assign rfl rfl) (Wd.u rfl) rfl rfl ?_
    refine LR.nil ?_
    refine hK6 _ _ ?_
    refine CW.ret (hE4 .ret nofun _ _ (hret .ret (.inr rfl) _ _ _ (res1 rfl rfl) ?_))
    exact ⟨rfl, hm0⟩
  ·
    refine LR.v (Y.move rfl rfl) (Wd.g rfl rfl rfl) rfl rfl ?_
    refine LR.v (Y.len ht rfl Try.runUnderlying22 rfl) (Wd.g rfl rfl rfl) rfl rfl ?_
    refine LR.v (Y.gtr rfl rfl rfl) (Wd.g rfl rfl rfl) rfl rfl ?_
    refine LR.v (Y.pick_f rfl rfl rfl) (Wd.u rfl) rfl rfl ?_
    refine LR.v (Y.move rfl rfl) (Wd.u rfl) rfl rfl ?_
    refine LR.splitp (d := 30) rfl (fun g30 => ?_) (fun g30 => ?_)
    ·
      refine LR.gs rfl rfl rfl rfl rfl rfl ?_
      refine LR.gs rfl rfl rfl rfl rfl rfl ?_
      refine LR.gs rfl rfl rfl rfl rfl rfl ?_
      refine LR.v (Y.pick_t rfl rfl rfl) (Wd.u rfl) rfl rfl ?_
      refine LR.nil ?_
      refine hK5 _ _ ?_
      refine CW.cond_t rfl ?_
      refine CW.seq (fun K7 hK7 hE7 => ?_)
      refine CW.region ?_
      refine LR.v (Y.assign rfl rfl) (Wd.u rfl) rfl rfl ?_
      refine LR.nil ?_
      refine hK7 _ _ ?_
      refine CW.ret (hE4 .ret nofun _ _ (hret .ret (.inr rfl) _ _ _ (res1 rfl rfl) ?_))
      exact ⟨rfl, hm0⟩
    ·
      refine LR.v (Y.move rfl rfl) (Wd.g rfl rfl rfl) rfl rfl ?_
      refine LR.v (Y.len hmo rfl Try.runUnderlying22 rfl) (Wd.g rfl rfl rfl) rfl rfl ?_
      refine LR.v (Y.gtr rfl rfl rfl) (Wd.g rfl rfl rfl) rfl rfl ?_
      refine LR.v (Y.pick_f rfl rfl rfl) (Wd.u rfl) rfl rfl ?_
      refine LR.nil ?_
      refine hK5 _ _ ?_
      refine CW.condp rfl (fun c34 => ?_) (fun c34 => ?_)
      ·
        refine CW.seq (fun K8 hK8 hE8 => ?_)
        refine CW.region ?_
        refine LR.v (Y.assign rfl rfl) (Wd.u rfl) rfl rfl ?_
        refine LR.nil ?_
        refine hK8 _ _ ?_
        refine CW.ret (hE4 .ret nofun _ _ (hret .ret (.inr rfl) _ _ _ (res1 rfl rfl) ?_))
        exact ⟨rfl, hm0⟩
      ·
        refine CW.skip ?_
        refine hK4 _ _ ?_
        refine CW.seq (fun K9 hK9 hE9 => ?_)
        refine CW.region ?_
        refine LR.v (Y.move rfl rfl) (Wd.u rfl) rfl rfl ?_
        refine LR.v (Y.move rfl rfl) (Wd.u rfl) rfl rfl ?_
        -- call selvage/selvageref6.Make
        refine LR.call rfl Try.call11 rfl (Wd.u rfl) rfl rfl (rmake_ct _ _ bs tg w0 _ hb.any ht.any (by omega) (by omega)) (fun v37 H37 r37 => ?_)
        obtain ⟨v37, k37, p37, s37, rfl, hE37, ow13, hk37, hs37⟩ := r37
        have df1 := DF.app (DF.z) (bf_hb.mono hm0.size) hk37
        have df2 := DF.app (DF.z) (bf_ht.mono hm0.size) hk37
        have df3 := DF.app (DF.z) (bf_ha.mono hm0.size) hk37
        have df4 := DF.app (DF.z) (bf_hy.mono hm0.size) hk37
        have df5 := DF.app (DF.z) (bf_hmo.mono hm0.size) hk37
        have nx6 : Nx 0 H0.size k37 := Nx.tr (Nx.refl 0 _) hk37 hm0.size
        replace hb := hb.nw hs37
        replace ht := ht.nw hs37
        replace ha := ha.nw hs37
        replace hy := hy.nw hs37
        replace hmo := hmo.nw hs37
        replace hm0 := hm0.tr hs37
        have hz2 := hs37.size
        have hle_ow13 := ow13.le
        obtain ⟨hn8, hn31⟩ := mkL_len bs tg p37 s37
        generalize mkL bs tg p37 s37 = X0 at ow13 hn8 hn31
        obtain ⟨N, hN⟩ : ∃ N, X0.length = N := ⟨_, rfl⟩
        refine LR.v (Y.assign rfl rfl) (Wd.u rfl) rfl rfl ?_
        refine LR.nil ?_
        refine hK9 _ _ ?_
        refine CW.seq (fun K10 hK10 hE10 => ?_)
        refine CW.seq (fun K11 hK11 hE11 => ?_)
        refine CW.region ?_
        refine LR.v (Y.assign rfl rfl) (Wd.u rfl) rfl rfl ?_
        refine LR.nil ?_
        refine hK11 _ _ ?_
        refine CW.block (fun K12 hK12 hX12 hE12 => ?_)
        refine CW.loop (fun (s_ : (Nat) × (List UInt8)) => match s_ with | (i, xs) => [(0, v0), (2, v2), (3, v3), (4, .int .i64 c), (5, v5), (13, v37), (14, .int .i64 i)])
          (fun (s_ : (Nat) × (List UInt8)) (H : Heap) => match s_ with | (i, xs) => (i ≤ 4) ∧ (xs.length = N) ∧ (Ow k37 5 H fB 1 v37 xs) ∧ (Nx k37 H37.size k37) ∧ Mo (Ms [k37]) H37 H)
          (fun (s_ : (Nat) × (List UInt8)) => match s_ with | (i, xs) => 4 - i) (0, X0) ⟨rfl, rfl, rfl, rfl, rfl, rfl, rfl, trivial⟩ ?_ ?_
        ·
          exact ⟨(by omega), hN, ow13, Nx.refl _ _, Mo.refl _ _⟩
        rintro ⟨i, xs⟩ HL1 hI1 K13 hN13 hE13
        obtain ⟨hi, hxl, ow13, nxl_ow13, hlm1⟩ := hI1
        have df7 := DF.app (df1) (bf_hb.mono hm0.size) nxl_ow13
        have df8 := DF.app (df2) (bf_ht.mono hm0.size) nxl_ow13
        have df9 := DF.app (df3) (bf_ha.mono hm0.size) nxl_ow13
        have df10 := DF.app (df4) (bf_hy.mono hm0.size) nxl_ow13
        have df11 := DF.app (df5) (bf_hmo.mono hm0.size) nxl_ow13
        have nx12 : Nx 0 H0.size k37 := Nx.tr (nx6) nxl_ow13 hm0.size
        replace hb := hb.upL hlm1 (DFL.cons df1 DFL.nil)
        replace ht := ht.upL hlm1 (DFL.cons df2 DFL.nil)
        replace ha := ha.upL hlm1 (DFL.cons df3 DFL.nil)
        replace hy := hy.upL hlm1 (DFL.cons df4 DFL.nil)
        replace hmo := hmo.upL hlm1 (DFL.cons df5 DFL.nil)
        replace hm0 := (Mo.trL (ks := []) (hm0.mdn []) hlm1 (MIL.cons (MI.app MI.z (nx6) (Nat.le_refl _)) MIL.nil)).nil
        have hz3 := hlm1.size
        have hle_ow13 := ow13.le
        have nx13 := nxl_ow13
        refine CW.seq (fun K14 hK14 hE14 => ?_)
        refine CW.cut (fun (b : (Bool)) => [(0, v0), (2, v2), (3, v3), (4, .int .i64 c), (5, v5), (13, v37), (14, .int .i64 i), (51, .bool b)])
          (fun (b : (Bool)) (H : Heap) => (b = true ↔ (i < al.length ∧ i < yl.length ∧ i < 4)) ∧ Nw HL1 H) (fun K15 hK15 hE15 => ?_) ?_
        ·
          have hcm15 : Nw HL1 HL1 := Mo.refl _ _
          refine CW.region ?_
          refine LR.v (Y.move rfl rfl) (Wd.u rfl) rfl rfl ?_
          refine LR.v (Y.move rfl rfl) (Wd.u rfl) rfl rfl ?_
          refine LR.v (Y.len ha rfl Try.runUnderlying31 rfl) (Wd.u rfl) rfl rfl ?_
          refine LR.v (Y.lss rfl rfl rfl) (Wd.u rfl) rfl rfl ?_
          refine LR.v (Y.move rfl rfl) (Wd.u rfl) rfl rfl ?_
          refine LR.splitp (d := 42) rfl (fun g42 => ?_) (fun g42 => ?_)
          ·
            refine LR.v (Y.move rfl rfl) (Wd.g rfl rfl rfl) rfl rfl ?_
            refine LR.v (Y.move rfl rfl) (Wd.g rfl rfl rfl) rfl rfl ?_
            refine LR.v (Y.len hy rfl Try.runUnderlying22 rfl) (Wd.g rfl rfl rfl) rfl rfl ?_
            refine LR.v (Y.lss rfl rfl rfl) (Wd.g rfl rfl rfl) rfl rfl ?_
            refine LR.v (Y.pick_t rfl rfl rfl) (Wd.u rfl) rfl rfl ?_
            refine LR.v (Y.move rfl rfl) (Wd.u rfl) rfl rfl ?_
            refine LR.splitp (d := 48) rfl (fun g48 => ?_) (fun g48 => ?_)
            ·
              refine LR.v (Y.move rfl rfl) (Wd.g rfl rfl rfl) rfl rfl ?_
              refine LR.v (Y.lss rfl rfl rfl) (Wd.g rfl rfl rfl) rfl rfl ?_
              refine LR.v (Y.pick_t rfl rfl rfl) (Wd.u rfl) rfl rfl ?_
              refine LR.nil ?_
              refine QN.sub (hK15 (decide ((i : Int) < 4)) _ ?_) ⟨rfl, rfl, rfl, (iv (by omega)), rfl, rfl, (iv (by omega)), rfl, trivial⟩
              exact ⟨⟨fun h => ⟨by omega, by omega, by have := of_decide_eq_true h; omega⟩, fun h => decide_eq_true (by omega)⟩, hcm15⟩
            ·
              refine LR.gs rfl rfl rfl rfl rfl rfl ?_
              refine LR.gs rfl rfl rfl rfl rfl rfl ?_
              refine LR.v (Y.pick_f rfl rfl rfl) (Wd.u rfl) rfl rfl ?_
              refine LR.nil ?_
              refine QN.sub (hK15 false _ ?_) ⟨rfl, rfl, rfl, (iv (by omega)), rfl, rfl, (iv (by omega)), rfl, trivial⟩
              exact ⟨⟨fun h => (by cases h), fun h => (by exfalso; omega)⟩, hcm15⟩
          ·
            refine LR.gs rfl rfl rfl rfl rfl rfl ?_
            refine LR.gs rfl rfl rfl rfl rfl rfl ?_
            refine LR.gs rfl rfl rfl rfl rfl rfl ?_
            refine LR.gs rfl rfl rfl rfl rfl rfl ?_
            refine LR.v (Y.pick_f rfl rfl rfl) (Wd.u rfl) rfl rfl ?_
            refine LR.v (Y.move rfl rfl) (Wd.u rfl) rfl rfl ?_
            refine LR.gs rfl rfl rfl rfl rfl rfl ?_
            refine LR.gs rfl rfl rfl rfl rfl rfl ?_
            refine LR.v (Y.pick_f rfl rfl rfl) (Wd.u rfl) rfl rfl ?_
            refine LR.nil ?_
            refine QN.sub (hK15 false _ ?_) ⟨rfl, rfl, rfl, (iv (by omega)), rfl, rfl, (iv (by omega)), rfl, trivial⟩
            exact ⟨⟨fun h => (by cases h), fun h => (by exfalso; omega)⟩, hcm15⟩
        ·
          intro b Hcutr7 hIcutr7
          obtain ⟨hb1, hlmcutr7⟩ := hIcutr7
          replace hb := hb.nw hlmcutr7
          replace ht := ht.nw hlmcutr7
          replace ha := ha.nw hlmcutr7
          replace hy := hy.nw hlmcutr7
          replace hmo := hmo.nw hlmcutr7
          replace ow13 := ow13.nw hlmcutr7
          replace hm0 := hm0.tr hlmcutr7
          replace hlm1 := hlm1.trN hlmcutr7
          have hz4 := hlmcutr7.size
          refine CW.cond rfl (fun c51 => ?_) (fun c51 => ?_)
          ·
            obtain ⟨hi1, hi2, hi3⟩ := hb1.1 c51
            refine CW.skip ?_
            refine hK14 _ _ ?_
            refine CW.seq (fun K16 hK16 hE16 => ?_)
            refine CW.block (fun K17 hK17 hX17 hE17 => ?_)
            refine CW.seq (fun K18 hK18 hE18 => ?_)
            refine CW.region ?_
            refine LR.v (Y.move rfl rfl) (Wd.u rfl) rfl rfl ?_
            refine LR.v (Y.move rfl rfl) (Wd.u rfl) rfl rfl ?_
            refine LR.e (g := fun ad => .pointer (some ad)) (Y.indexAddr ha (i) rfl Try.runUnderlying31 Try.sizeOf3 rfl rfl (by first | rfl | omega) (by first | omega | (simp; omega) | (simp; done))) (Wd.u rfl) rfl rfl (fun ad56 pt56 => ?_)
            refine LR.v (Y.load1 pt56 rfl Try.isAgg3 rfl) (Wd.u rfl) rfl rfl ?_
            refine LR.v (Y.move rfl rfl) (Wd.u rfl) rfl rfl ?_
            refine LR.v (Y.len ow13.rd rfl Try.runUnderlying22 rfl) (Wd.u rfl) rfl rfl ?_
            -- call selvage/selvagelaw6.within
            refine LR.call rfl Try.call12 rfl (Wd.u rfl) rfl rfl (within_ct _ _ w0 _ (by omega) (hal _ (List.getElem_mem _))) (fun v60 H60 r60 => ?_)
            obtain ⟨k60, rfl, hk60, hs60⟩ := r60
            replace hb := hb.nw hs60
            replace ht := ht.nw hs60
            replace ha := ha.nw hs60
            replace hy := hy.nw hs60
            replace hmo := hmo.nw hs60
            replace ow13 := ow13.nw hs60
            replace hm0 := hm0.tr hs60
            replace hlm1 := hlm1.trN hs60
            have hz5 := hs60.size
            refine LR.v (Y.assign rfl rfl) (Wd.u rfl) rfl rfl ?_
            refine LR.nil ?_
            refine hK18 _ _ ?_
            refine CW.region_tail 12 rfl (by kernel_rfl) (fun T10 hT10 => ?_)
            refine LR.v (Y.move rfl rfl) (Wd.u rfl) rfl rfl ?_
            refine LR.v (Y.move rfl rfl) (Wd.u rfl) rfl rfl ?_
            refine LR.v (Y.move rfl rfl) (Wd.u rfl) rfl rfl ?_
            refine LR.v (Y.move rfl rfl) (Wd.u rfl) rfl rfl ?_
            refine LR.v (Y.owAddr ow13 (k60) rfl Try.runUnderlying22 Try.sizeOf5 rfl rfl (by first | rfl | omega) (by omega)) (Wd.u rfl) rfl rfl ?_
            refine LR.v (Y.load1 (ow13.pt (j := k60) (by omega)) rfl Try.isAgg5 rfl) (Wd.u rfl) rfl rfl ?_
            refine LR.v (Y.move rfl rfl) (Wd.u rfl) rfl rfl ?_
            refine LR.v (Y.move rfl rfl) (Wd.u rfl) rfl rfl ?_
            refine LR.e (g := fun ad => .pointer (some ad)) (Y.indexAddr hy (i) rfl Try.runUnderlying22 Try.sizeOf5 rfl rfl (by first | rfl | omega) (by first | omega | (simp; omega) | (simp; done))) (Wd.u rfl) rfl rfl (fun ad69 pt69 => ?_)
            refine LR.v (Y.load1 pt69 rfl Try.isAgg5 rfl) (Wd.u rfl) rfl rfl ?_
            refine LR.v (Y.add_u8 rfl rfl rfl) (Wd.u rfl) rfl rfl ?_
            refine LR.v (Y.owAddr ow13 (k60) rfl Try.runUnderlying22 Try.sizeOf5 rfl rfl (by first | rfl | omega) (by omega)) (Wd.u rfl) rfl rfl ?_
            refine LR.nil (hT10 _ ?_)
            refine LR.s (S.oww ow13 (k60) 0 (xs[k60] + yl[i]) rfl rfl rfl rfl Try.sizeOf5 (by omega) (by decide) (rfl)) (Wd.u rfl) rfl (fun H10_12 r10_12 => ?_)
            obtain ⟨ow13, hs10_12⟩ := r10_12
            replace hs10_12 := hs10_12.md
            replace hb := hb.upL hs10_12 (DFL.cons df7 DFL.nil)
            replace ht := ht.upL hs10_12 (DFL.cons df8 DFL.nil)
            replace ha := ha.upL hs10_12 (DFL.cons df9 DFL.nil)
            replace hy := hy.upL hs10_12 (DFL.cons df10 DFL.nil)
            replace hmo := hmo.upL hs10_12 (DFL.cons df11 DFL.nil)
            replace hm0 := (Mo.trL (ks := []) (hm0.mdn []) hs10_12 (MIL.cons (MI.app MI.z (nx12) (Nat.le_refl _)) MIL.nil)).nil
            replace hlm1 := hlm1.trL hs10_12 (MIL.cons (MI.app (MI.root (by simp)) (nx13) (Nat.le_refl _)) MIL.nil)
            have hz6 := hs10_12.size
            refine LR.nil ?_
            refine hK17 _ _ ?_
            refine hK16 _ _ ?_
            refine CW.region ?_
            refine LR.v (Y.move rfl rfl) (Wd.u rfl) rfl rfl ?_
            refine LR.v (Y.addi rfl rfl rfl (by omega)) (Wd.u rfl) rfl rfl ?_
            refine LR.v (Y.assign rfl rfl) (Wd.u rfl) rfl rfl ?_
            refine LR.nil ?_
            refine QN.sub (hN13 (i + 1, xs.set k60 (xs[k60] + yl[i])) _ ?_ ?_) ⟨rfl, rfl, rfl, (iv (by omega)), rfl, rfl, (iv (by omega)), trivial⟩
            · exact ⟨(by have := hb1.1 c51; omega), (by simp [hxl]), ow13, nx13, hlm1⟩
            · have := hb1.1 c51; simp only; omega
          ·
            refine CW.exit (hE14 (.exit 0) nofun _ _ (hE13 (.exit 0) nofun _ _ (hX12 _ _ ?_)))
            refine hK10 _ _ ?_
            refine CW.seq (fun K19 hK19 hE19 => ?_)
            refine CW.region ?_
            refine LR.v (Y.move rfl rfl) (Wd.u rfl) rfl rfl ?_
            refine LR.v (Y.move rfl rfl) (Wd.u rfl) rfl rfl ?_
            refine LR.v (Y.len ow13.rd rfl Try.runUnderlying22 rfl) (Wd.u rfl) rfl rfl ?_
            refine LR.v (Y.move rfl rfl) (Wd.u rfl) rfl rfl ?_
            refine LR.v (Y.move rfl rfl) (Wd.u rfl) rfl rfl ?_
            refine LR.v (Y.len ow13.rd rfl Try.runUnderlying22 rfl) (Wd.u rfl) rfl rfl ?_
            -- call selvage/selvagelaw6.within
            refine LR.call rfl Try.call12 rfl (Wd.u rfl) rfl rfl (within_ct _ _ w0 _ (by omega) hc) (fun v79 H79 r79 => ?_)
            obtain ⟨k79, rfl, hk79, hs79⟩ := r79
            replace hb := hb.nw hs79
            replace ht := ht.nw hs79
            replace ha := ha.nw hs79
            replace hy := hy.nw hs79
            replace hmo := hmo.nw hs79
            replace ow13 := ow13.nw hs79
            replace hm0 := hm0.tr hs79
            have hz7 := hs79.size
            refine LR.v (Y.subi rfl rfl rfl (by omega)) (Wd.u rfl) rfl rfl ?_
            refine LR.e (g := fun v => v) (Y.owFront ow13 (xs.length - k79) rfl Try.runUnderlying22 Try.sizeOf5 rfl rfl (by omega) (by omega)) (Wd.u rfl) rfl rfl (fun v81 ow81 => ?_)
            refine LR.v (Y.move rfl rfl) (Wd.u rfl) rfl rfl ?_
            refine LR.z (Z.apnd ow81 hmo rfl inf22 rfl rfl (by first | omega | (simp; omega)) (by first | omega | (simp; omega))) (Wd.u rfl) rfl rfl (fun v83 H83 r83 => ?_)
            obtain ⟨k83, owd, hk83, hs83⟩ := r83
            replace hk83 : Nx k37 H79.size k83 := hk83
            replace hs83 := hs83.md
            have df14 := DF.app (df7) (bf_hb.mono hm0.size) hk83
            have df15 := DF.app (df8) (bf_ht.mono hm0.size) hk83
            have df16 := DF.app (df9) (bf_ha.mono hm0.size) hk83
            have df17 := DF.app (df10) (bf_hy.mono hm0.size) hk83
            have df18 := DF.app (df11) (bf_hmo.mono hm0.size) hk83
            have nx19 : Nx 0 H0.size k83 := Nx.tr (nx12) hk83 hm0.size
            replace hb := hb.upL hs83 (DFL.cons df7 DFL.nil)
            replace ht := ht.upL hs83 (DFL.cons df8 DFL.nil)
            replace ha := ha.upL hs83 (DFL.cons df9 DFL.nil)
            replace hy := hy.upL hs83 (DFL.cons df10 DFL.nil)
            replace hmo := hmo.upL hs83 (DFL.cons df11 DFL.nil)
            replace hm0 := (Mo.trL (ks := []) (hm0.mdn []) hs83 (MIL.cons (MI.app MI.z (nx12) (Nat.le_refl _)) MIL.nil)).nil
            have hz8 := hs83.size
            have hle_owd := owd.le
            refine LR.v (Y.assign rfl rfl) (Wd.u rfl) rfl rfl ?_
            refine LR.nil ?_
            refine hK19 _ _ ?_
            refine CW.seq (fun K20 hK20 hE20 => ?_)
            refine CW.region ?_
            refine LR.v (Y.move rfl rfl) (Wd.u rfl) rfl rfl ?_
            refine LR.v (Y.move rfl rfl) (Wd.u rfl) rfl rfl ?_
            -- call selvage/delta.Apply
            refine LR.call rfl Try.call8 rfl (Wd.u rfl) rfl rfl (apply_ct _ _ bs _ w0 _ hb.any owd.rd.any (by omega) (by simp; omega)) (fun v87 H87 r87 => ?_)
            obtain ⟨v87, ka, xa, ea, rfl, hqa, hk87, hxa, hs87⟩ := r87
            have df20 := DF.app (DF.z) (bf_hb.mono hm0.size) hk87
            have df21 := DF.app (DF.z) (bf_ht.mono hm0.size) hk87
            have df22 := DF.app (DF.z) (bf_ha.mono hm0.size) hk87
            have df23 := DF.app (DF.z) (bf_hy.mono hm0.size) hk87
            have df24 := DF.app (DF.z) (bf_hmo.mono hm0.size) hk87
            have dj25 : Dj k83 ka := Dj.app (Dj.z) owd.le hk87
            have nx26 : Nx 0 H0.size ka := Nx.tr (Nx.refl 0 _) hk87 hm0.size
            replace hb := hb.nw hs87
            replace ht := ht.nw hs87
            replace ha := ha.nw hs87
            replace hy := hy.nw hs87
            replace hmo := hmo.nw hs87
            replace owd := owd.nw hs87
            replace hm0 := hm0.tr hs87
            have hz9 := hs87.size
            have hle_hqa := hqa.le
            refine LR.v (Y.move rfl rfl) (Wd.u rfl) rfl rfl ?_
            refine LR.v (Y.extract rfl rfl rfl) (Wd.u rfl) rfl rfl ?_
            refine LR.v (Y.extract rfl rfl rfl) (Wd.u rfl) rfl rfl ?_
            refine LR.v (Y.assign rfl rfl) (Wd.u rfl) rfl rfl ?_
            refine LR.v (Y.assign rfl rfl) (Wd.u rfl) rfl rfl ?_
            refine LR.nil ?_
            refine hK20 _ _ ?_
            refine CW.seq (fun K21 hK21 hE21 => ?_)
            refine CW.region ?_
            refine LR.v (Y.move rfl rfl) (Wd.u rfl) rfl rfl ?_
            refine LR.v (Y.move rfl rfl) (Wd.u rfl) rfl rfl ?_
            -- call selvage/selvageref6.Apply
            refine LR.call rfl Try.call9 rfl (Wd.u rfl) rfl rfl (rapply_ct _ _ bs _ w0 _ hb.any owd.rd.any (by omega) (by simp; omega)) (fun v93 H93 r93 => ?_)
            obtain ⟨v93, kb, xb, eb, rfl, hqb, hk93, hxb, hs93⟩ := r93
            have df27 := DF.app (DF.z) (bf_hb.mono hm0.size) hk93
            have df28 := DF.app (DF.z) (bf_ht.mono hm0.size) hk93
            have df29 := DF.app (DF.z) (bf_ha.mono hm0.size) hk93
            have df30 := DF.app (DF.z) (bf_hy.mono hm0.size) hk93
            have df31 := DF.app (DF.z) (bf_hmo.mono hm0.size) hk93
            have dj32 : Dj k83 kb := Dj.app (Dj.z) owd.le hk93
            have dj33 : Dj ka kb := Dj.app (Dj.z) hqa.le hk93
            have nx34 : Nx 0 H0.size kb := Nx.tr (Nx.refl 0 _) hk93 hm0.size
            replace hb := hb.nw hs93
            replace ht := ht.nw hs93
            replace ha := ha.nw hs93
            replace hy := hy.nw hs93
            replace hmo := hmo.nw hs93
            replace owd := owd.nw hs93
            replace hqa := hqa.nw hs93
            replace hm0 := hm0.tr hs93
            have hz10 := hs93.size
            have hle_hqb := hqb.le
            obtain ⟨rfl, rfl⟩ := Prod.mk.inj (hxa.symm.trans hxb)
            refine LR.v (Y.move rfl rfl) (Wd.u rfl) rfl rfl ?_
            refine LR.v (Y.extract rfl rfl rfl) (Wd.u rfl) rfl rfl ?_
            refine LR.v (Y.extract rfl rfl rfl) (Wd.u rfl) rfl rfl ?_
            refine LR.v (Y.assign rfl rfl) (Wd.u rfl) rfl rfl ?_
            refine LR.v (Y.assign rfl rfl) (Wd.u rfl) rfl rfl ?_
            refine LR.nil ?_
            refine hK21 _ _ ?_
            refine CW.seq (fun K22 hK22 hE22 => ?_)
            refine CW.region ?_
            refine LR.v (Y.move rfl rfl) (Wd.u rfl) rfl rfl ?_
            refine LR.v (Y.bstr hqa.rd rfl Try.underlying22 Try.underlying9 Try.underlying5 rfl) (Wd.u rfl) rfl rfl ?_
            refine LR.v (Y.move rfl rfl) (Wd.u rfl) rfl rfl ?_
            refine LR.v (Y.bstr hqb.rd rfl Try.underlying22 Try.underlying9 Try.underlying5 rfl) (Wd.u rfl) rfl rfl ?_
            refine LR.v ((Y.seql rfl rfl rfl).isT (rfl)) (Wd.u rfl) rfl rfl ?_
            refine LR.v (Y.move rfl rfl) (Wd.u rfl) rfl rfl ?_
            refine LR.v (Y.move rfl rfl) (Wd.g rfl rfl rfl) rfl rfl ?_
            refine LR.v (Y.move rfl rfl) (Wd.g rfl rfl rfl) rfl rfl ?_
            refine LR.v ((Y.eql rfl rfl rfl).isT (rfl)) (Wd.g rfl rfl rfl) rfl rfl ?_
            refine LR.v (Y.pick_t rfl rfl rfl) (Wd.u rfl) rfl rfl ?_
            refine LR.v (Y.assign rfl rfl) (Wd.u rfl) rfl rfl ?_
            refine LR.nil ?_
            refine hK22 _ _ ?_
            refine CW.ret (hret .ret (.inr rfl) _ _ _ (res1 rfl rfl) ?_)
            exact ⟨rfl, hm0⟩

end Go.Proofs.Ytjkjdpainenofaa.DelI
