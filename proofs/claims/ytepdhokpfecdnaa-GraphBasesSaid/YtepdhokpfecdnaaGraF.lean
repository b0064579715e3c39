/-
  Where a name belongs in a row that rises.
-/
import Derived.Test.YtepdhokpfecdnaaGraE
namespace Go.Proofs.Ytepdhokpfecdnaa.GraF
open Go.Proofs.Ytepdhokpfecdnaa.E Go.RowKit Go.Proofs.Ytepdhokpfecdnaa.GraA Go.Proofs.Ytepdhokpfecdnaa.GraB Go.Proofs.Ytepdhokpfecdnaa.GraC Go.Proofs.Ytepdhokpfecdnaa.GraD Go.Proofs.Ytepdhokpfecdnaa.GraE
set_option maxRecDepth 20000
set_option linter.unusedVariables false
set_option linter.unusedSimpArgs false
set_option linter.unusedSectionVars false
theorem bsf_ct (v1 : Value) (l : List Ide) (x : Ide) (w0 : World) (H0 : Heap)
    (hl : RdT H0 fA 32 v1 l) (hll : l.length ≤ 1000000) (hs : Ris l) :
    Ct Try.prog w0 39 #[v1, vA x, .func (.func 32) #[] #[]] H0 (fun r H2 => ∃ at_ : Nat, ∃ fd : Bool, r = .tuple #[.int .i64 (at_ : Int), .bool fd] ∧ (at_ ≤ l.length ∧ (∀ j (h : j < l.length), j < at_ → ltA l[j] x) ∧ (∀ j (h : j < l.length), at_ ≤ j → ¬ ltA l[j] x)) ∧ Nw H0 H2) := by
  refine Ct.enter (args := [v1, vA x, .func (.func 32) #[] #[]]) Try.func39 rfl rfl rfl ?_
  intro Q0 hret
  have hm0 : Nw H0 H0 := Mo.refl _ _
  replace hl := hl.bnd
  have bf_hl := hl.bf
  refine CW.seq (fun K1 hK1 hE1 => ?_)
  refine CW.region ?_
  refine LR.z (Z.boxv rfl rfl) (Wd.u rfl) rfl rfl (fun v4 H4 r4 => ?_)
  obtain ⟨rfl, vi, hs4, ob4, hH4⟩ := r4
  have hzs4 : H4.size = H0.size + 1 := by rw [hH4]; simp
  have df1 := (DF.new (bf_hl.mono hm0.size) : DF _ (H0.size + 1))
  have nx2 : Nx 0 H0.size (H0.size + 1) := Nx.new hm0.size
  replace hl := hl.nw hs4
  replace hm0 := hm0.tr hs4
  have hz1 := hs4.size
  replace vi : Var 30 H4 H0.size (fA x) := vi
  refine LR.v (Y.assign rfl rfl) (Wd.u rfl) rfl rfl ?_
  refine LR.v (Y.assign rfl rfl) (Wd.u rfl) rfl rfl ?_
  refine LR.nil ?_
  refine hK1 _ _ ?_
  refine CW.seq (fun K2 hK2 hE2 => ?_)
  refine CW.region ?_
  refine LR.v (Y.move rfl rfl) (Wd.u rfl) rfl rfl ?_
  refine LR.v (Y.len hl rfl Try.runUnderlying28 rfl) (Wd.u rfl) rfl rfl ?_
  refine LR.v (Y.assign rfl rfl) (Wd.u rfl) rfl rfl ?_
  refine LR.nil ?_
  refine hK2 _ _ ?_
  refine CW.seq (fun K3 hK3 hE3 => ?_)
  refine CW.region ?_
  refine LR.v (Y.move rfl rfl) (Wd.u rfl) rfl rfl ?_
  refine LR.v (Y.assign rfl rfl) (Wd.u rfl) rfl rfl ?_
  refine LR.v (Y.assign rfl rfl) (Wd.u rfl) rfl rfl ?_
  refine LR.nil ?_
  refine hK3 _ _ ?_
  refine CW.seq (fun K4 hK4 hE4 => ?_)
  refine CW.block (fun K5 hK5 hX5 hE5 => ?_)
  refine CW.loop (fun (s_ : (Nat) × (Nat)) => match s_ with | (i, j) => [(0, v1), (2, .func (.func 32) #[] #[]), (4, .pointer (some ⟨H0.size, 0, none⟩)), (8, .int .i64 (l.length : Int)), (9, .int .i64 (i : Int)), (10, .int .i64 (j : Int))])
    (fun (s_ : (Nat) × (Nat)) (H : Heap) => match s_ with | (i, j) => (i ≤ j ∧ j ≤ l.length) ∧ (∀ q (h : q < l.length), q < i → ltA l[q] x) ∧ (∀ q (h : q < l.length), j ≤ q → ¬ ltA l[q] x) ∧ Nw H4 H)
    (fun (s_ : (Nat) × (Nat)) => match s_ with | (i, j) => j - i) (0, l.length) ⟨rfl, rfl, rfl, rfl, rfl, rfl, trivial⟩ ?_ ?_
  ·
    exact ⟨(by omega), fun q h h2 => by omega, fun q h h2 => by omega, Mo.refl _ _⟩
  rintro ⟨i, j⟩ HL1 hI1 K6 hN6 hE6
  obtain ⟨hij, h1, h2, hlm1⟩ := hI1
  replace hl := hl.nw hlm1
  replace vi := vi.nw hlm1
  replace hm0 := hm0.tr hlm1
  have hz2 := hlm1.size
  refine CW.seq (fun K7 hK7 hE7 => ?_)
  refine CW.seq (fun K8 hK8 hE8 => ?_)
  refine CW.region ?_
  refine LR.v (Y.move rfl rfl) (Wd.u rfl) rfl rfl ?_
  refine LR.v (Y.move rfl rfl) (Wd.u rfl) rfl rfl ?_
  refine LR.v (Y.lss rfl rfl rfl) (Wd.u rfl) rfl rfl ?_
  refine LR.nil ?_
  refine hK8 _ _ ?_
  refine CW.condp rfl (fun c17 => ?_) (fun c17 => ?_)
  ·
    refine CW.skip ?_
    refine hK7 _ _ ?_
    refine CW.block (fun K9 hK9 hX9 hE9 => ?_)
    refine CW.seq (fun K10 hK10 hE10 => ?_)
    refine CW.region ?_
    refine LR.v (Y.move rfl rfl) (Wd.u rfl) rfl rfl ?_
    refine LR.v (Y.move rfl rfl) (Wd.u rfl) rfl rfl ?_
    refine LR.v (Y.cast (v2 := .int .i64 ((i + j : Nat) : Int)) (Y.addi rfl rfl rfl (by omega)) (ivv (by omega))) (Wd.u rfl) rfl rfl ?_
    refine LR.v (Y.conv_u64 rfl Try.runUnderlying3 Try.runUnderlying65 rfl) (Wd.u rfl) rfl rfl ?_
    refine LR.v (Y.cast (v2 := .int .u64 (((i + j) / 2 : Nat) : Int)) (Y.shr_u64 (1) rfl rfl rfl (by first | rfl | omega) (by omega)) (by rw [shrw_u64_toNat, UInt64.toNat_ofNat', Nat.mod_eq_of_lt (by omega)])) (Wd.u rfl) rfl rfl ?_
    refine LR.v (Y.convi rfl Try.runUnderlying65 Try.runUnderlying3 rfl (IntWalk.i64_in _ (by omega))) (Wd.u rfl) rfl rfl ?_
    refine LR.v (Y.assign rfl rfl) (Wd.u rfl) rfl rfl ?_
    refine LR.nil ?_
    refine hK10 _ _ ?_
    refine CW.seq (fun K11 hK11 hE11 => ?_)
    refine CW.region_tail 6 rfl (by kernel_rfl) (fun T5 hT5 => ?_)
    refine LR.v (Y.move rfl rfl) (Wd.u rfl) rfl rfl ?_
    refine LR.v (Y.move rfl rfl) (Wd.u rfl) rfl rfl ?_
    refine LR.v (Y.move rfl rfl) (Wd.u rfl) rfl rfl ?_
    refine LR.e (g := fun ad => .pointer (some ad)) (Y.indexAddrF hl ((i + j) / 2) rfl Try.runUnderlying28 Try.sizeOf30 rfl rfl (by first | rfl | omega) (by omega)) (Wd.u rfl) rfl rfl (fun ad27 pt27 => ?_)
    have bf_pt27 := bf_hl
    refine LR.v (Y.loadN pt27.pt rfl Try.isAgg30 Try.sizeOf30 (fA_len _) rfl) (Wd.u rfl) rfl rfl ?_
    refine LR.v (Y.loadN vi.pt rfl Try.isAgg30 Try.sizeOf30 (fA_len _) rfl) (Wd.u rfl) rfl rfl ?_
    refine LR.nil (hT5 _ ?_)
    refine LR.calld rfl rfl rfl (Wd.u rfl) rfl rfl (cmpClo w0 _ _ x) (fun v30 H30 r30 => ?_)
    obtain ⟨rfl, hs30⟩ := r30
    replace hl := hl.nw hs30
    replace vi := vi.nw hs30
    replace pt27 := pt27.nw hs30
    replace hm0 := hm0.tr hs30
    replace hlm1 := hlm1.tr hs30
    have hz3 := hs30.size
    refine LR.v (Y.lss rfl rfl rfl) (Wd.u rfl) rfl rfl ?_
    refine LR.nil ?_
    refine hK11 _ _ ?_
    refine CW.condp rfl (fun c31 => ?_) (fun c31 => ?_)
    ·
      refine CW.region ?_
      refine LR.v (Y.move rfl rfl) (Wd.u rfl) rfl rfl ?_
      refine LR.v (Y.addi rfl rfl rfl (by omega)) (Wd.u rfl) rfl rfl ?_
      refine LR.v (Y.assign rfl rfl) (Wd.u rfl) rfl rfl ?_
      refine LR.nil ?_
      refine hK9 _ _ ?_
      refine QN.sub (hN6 ((i + j) / 2 + 1, j) _ ?_ ?_) ⟨rfl, rfl, rfl, (iv (by omega)), (iv (by omega)), (iv (by omega)), trivial⟩
      · exact ⟨(by omega), fun q h h3 => by
          by_cases hq : q = (i + j) / 2
          · subst hq; exact cA_neg.1 c31
          · exact ltA_tr (List.pairwise_iff_getElem.1 hs q ((i + j) / 2) h (by omega) (by omega)) (cA_neg.1 c31), h2, hlm1⟩
      · first | omega | (simp only; omega) | (simp; omega)
    ·
      refine CW.region ?_
      refine LR.v (Y.move rfl rfl) (Wd.u rfl) rfl rfl ?_
      refine LR.v (Y.assign rfl rfl) (Wd.u rfl) rfl rfl ?_
      refine LR.nil ?_
      refine hK9 _ _ ?_
      refine QN.sub (hN6 (i, (i + j) / 2) _ ?_ ?_) ⟨rfl, rfl, rfl, (iv (by omega)), (iv (by omega)), (iv (by omega)), trivial⟩
      · exact ⟨(by omega), h1, fun q h h3 h4 => by
          by_cases hq : q = (i + j) / 2
          · subst hq; exact absurd (cA_neg.2 h4) c31
          · exact absurd (cA_neg.2 (ltA_tr (List.pairwise_iff_getElem.1 hs ((i + j) / 2) q (by omega) h (by omega)) h4)) c31, hlm1⟩
      · first | omega | (simp only; omega) | (simp; omega)
  ·
    refine CW.exit (hE7 (.exit 0) nofun _ _ (hE6 (.exit 0) nofun _ _ (hX5 _ _ ?_)))
    refine hK4 _ _ ?_
    refine CW.seq (fun K12 hK12 hE12 => ?_)
    refine CW.region_any (fun Hq => Nw HL1 Hq) [] rfl ?_
    have hqs := Nw.refl HL1
    refine LH.take 0 (by kernel_rfl) rfl (by kernel_rfl) (by kernel_rfl) (by kernel_rfl) (fun Hq hq => Y.move rfl rfl) (Wd.u rfl) rfl rfl hqs ?_
    refine LH.take 1 (by kernel_rfl) rfl (by kernel_rfl) (by kernel_rfl) (by kernel_rfl) (fun Hq hq => Y.move rfl rfl) (Wd.u rfl) rfl rfl hqs ?_
    refine LH.take 2 (by kernel_rfl) rfl (by kernel_rfl) (by kernel_rfl) (by kernel_rfl) (fun Hq hq => Y.move rfl rfl) (Wd.u rfl) rfl rfl hqs ?_
    refine LH.take 3 (by kernel_rfl) rfl (by kernel_rfl) (by kernel_rfl) (by kernel_rfl) (fun Hq hq => Y.lss rfl rfl rfl) (Wd.u rfl) rfl rfl hqs ?_
    refine LH.take 4 (by kernel_rfl) rfl (by kernel_rfl) (by kernel_rfl) (by kernel_rfl) (fun Hq hq => Y.move rfl rfl) (Wd.u rfl) rfl rfl hqs ?_
    refine LH.splitp (d := 39) rfl (fun g39 => ?_) (fun g39 => ?_)
    ·
      refine LH.take 5 (by kernel_rfl) rfl (by kernel_rfl) (by kernel_rfl) (by kernel_rfl) (fun Hq hq => Y.move rfl rfl) (Wd.g rfl rfl rfl) rfl rfl hqs ?_
      refine LH.take 6 (by kernel_rfl) rfl (by kernel_rfl) (by kernel_rfl) (by kernel_rfl) (fun Hq hq => Y.move rfl rfl) (Wd.g rfl rfl rfl) rfl rfl hqs ?_
      refine LH.take 7 (by kernel_rfl) rfl (by kernel_rfl) (by kernel_rfl) (by kernel_rfl) (fun Hq hq => Y.move rfl rfl) (Wd.g rfl rfl rfl) rfl rfl hqs ?_
      refine LH.e (g := fun ad => .pointer (some ad)) 8 (by kernel_rfl) rfl (by kernel_rfl) (by kernel_rfl) (by kernel_rfl) (Y.indexAddrF hl (_) rfl Try.runUnderlying28 Try.sizeOf30 rfl rfl rfl (by first | omega | (simp; omega) | (simp; done))) (Wd.g rfl rfl rfl) rfl rfl hqs (fun ad43 pt43 => ?_)
      have bf_pt43 := bf_hl
      refine LH.take 9 (by kernel_rfl) rfl (by kernel_rfl) (by kernel_rfl) (by kernel_rfl) (fun Hq hq => Y.loadN (pt43.pt.nw hq) rfl Try.isAgg30 Try.sizeOf30 (fA_len _) rfl) (Wd.g rfl rfl rfl) rfl rfl hqs ?_
      refine LH.take 10 (by kernel_rfl) rfl (by kernel_rfl) (by kernel_rfl) (by kernel_rfl) (fun Hq hq => Y.loadN (vi.pt.nw hq) rfl Try.isAgg30 Try.sizeOf30 (fA_len _) rfl) (Wd.g rfl rfl rfl) rfl rfl hqs ?_
      refine LH.one (i := 11) (by kernel_rfl) ?_
      refine LO.calld rfl rfl rfl rfl (Wd.g rfl rfl rfl) rfl rfl (cmpClo w0 _ _ x) (fun v46 H46 r46 => ?_)
      obtain ⟨rfl, hs46⟩ := r46
      replace hl := hl.nw hs46
      replace vi := vi.nw hs46
      replace pt43 := pt43.nw hs46
      replace hm0 := hm0.tr hs46
      have hz4 := hs46.size
      have hq46 := hqs.tr hs46
      refine ⟨.inr hq46, LH.narrow (SH2 := fun Hq => Nw H46 Hq) (fun Hq hq => hq46.tr hq) ?_⟩
      have hqn46 := Nw.refl H46
      refine LH.take 12 (by kernel_rfl) rfl (by kernel_rfl) (by kernel_rfl) (by kernel_rfl) (fun Hq hq => Y.eql rfl rfl rfl) (Wd.g rfl rfl rfl) rfl rfl hqn46 ?_
      refine LH.take 13 (by kernel_rfl) rfl (by kernel_rfl) (by kernel_rfl) (by kernel_rfl) (fun Hq hq => Y.pick_t rfl rfl rfl) (Wd.u rfl) rfl rfl hqn46 ?_
      refine LH.take 14 (by kernel_rfl) rfl (by kernel_rfl) (by kernel_rfl) (by kernel_rfl) (fun Hq hq => Y.assign rfl rfl) (Wd.u rfl) rfl rfl hqn46 ?_
      refine LH.take 15 (by kernel_rfl) rfl (by kernel_rfl) (by kernel_rfl) (by kernel_rfl) (fun Hq hq => Y.assign rfl rfl) (Wd.u rfl) rfl rfl hqn46 ?_
      refine LH.done (by kernel_rfl) ?_
      have hqe := hqn46
      refine hK12 _ _ ?_
      refine CW.ret (hret .ret (.inr rfl) _ _ _ (res2 rfl rfl rfl) ?_)
      exact ⟨i, _, rfl, ⟨by omega, h1, fun q h h3 => h2 q h (by omega)⟩, hm0⟩
    ·
      refine LH.gs 5 (by kernel_rfl) rfl (by kernel_rfl) (by kernel_rfl) (by kernel_rfl) rfl rfl rfl rfl rfl rfl hqs ?_
      refine LH.gs 6 (by kernel_rfl) rfl (by kernel_rfl) (by kernel_rfl) (by kernel_rfl) rfl rfl rfl rfl rfl rfl hqs ?_
      refine LH.gs 7 (by kernel_rfl) rfl (by kernel_rfl) (by kernel_rfl) (by kernel_rfl) rfl rfl rfl rfl rfl rfl hqs ?_
      refine LH.gs 8 (by kernel_rfl) rfl (by kernel_rfl) (by kernel_rfl) (by kernel_rfl) rfl rfl rfl rfl rfl rfl hqs ?_
      refine LH.gs 9 (by kernel_rfl) rfl (by kernel_rfl) (by kernel_rfl) (by kernel_rfl) rfl rfl rfl rfl rfl rfl hqs ?_
      refine LH.gs 10 (by kernel_rfl) rfl (by kernel_rfl) (by kernel_rfl) (by kernel_rfl) rfl rfl rfl rfl rfl rfl hqs ?_
      refine LH.gs 11 (by kernel_rfl) rfl (by kernel_rfl) (by kernel_rfl) (by kernel_rfl) rfl rfl rfl rfl rfl rfl hqs ?_
      refine LH.gs 12 (by kernel_rfl) rfl (by kernel_rfl) (by kernel_rfl) (by kernel_rfl) rfl rfl rfl rfl rfl rfl hqs ?_
      refine LH.take 13 (by kernel_rfl) rfl (by kernel_rfl) (by kernel_rfl) (by kernel_rfl) (fun Hq hq => Y.pick_f rfl rfl rfl) (Wd.u rfl) rfl rfl hqs ?_
      refine LH.take 14 (by kernel_rfl) rfl (by kernel_rfl) (by kernel_rfl) (by kernel_rfl) (fun Hq hq => Y.assign rfl rfl) (Wd.u rfl) rfl rfl hqs ?_
      refine LH.take 15 (by kernel_rfl) rfl (by kernel_rfl) (by kernel_rfl) (by kernel_rfl) (fun Hq hq => Y.assign rfl rfl) (Wd.u rfl) rfl rfl hqs ?_
      refine LH.done (by kernel_rfl) ?_
      have hqe := hqs
      refine hK12 _ _ ?_
      refine CW.ret (hret .ret (.inr rfl) _ _ _ (res2 rfl rfl rfl) ?_)
      exact ⟨i, _, rfl, ⟨by omega, h1, fun q h h3 => h2 q h (by omega)⟩, hm0⟩

end Go.Proofs.Ytepdhokpfecdnaa.GraF
