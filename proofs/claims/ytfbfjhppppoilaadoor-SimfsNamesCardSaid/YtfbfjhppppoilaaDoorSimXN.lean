/-
  What is a path, and which its directory: of texts of any length.
-/
import Derived.Test.YtfbfjhppppoilaaDoorSimX
namespace Go.Proofs.YtfbfjhppppoilaaDoor.SimXN
open Go.Proofs.YtfbfjhppppoilaaDoor.E Go.RowKit Go.Proofs.YtfbfjhppppoilaaDoor.SimA Go.Proofs.YtfbfjhppppoilaaDoor.SimB Go.Proofs.YtfbfjhppppoilaaDoor.SimC Go.Proofs.YtfbfjhppppoilaaDoor.SimD Go.Proofs.YtfbfjhppppoilaaDoor.SimE Go.Proofs.YtfbfjhppppoilaaDoor.SimF Go.Proofs.YtfbfjhppppoilaaDoor.SimG Go.Proofs.YtfbfjhppppoilaaDoor.SimH Go.Proofs.YtfbfjhppppoilaaDoor.SimI Go.Proofs.YtfbfjhppppoilaaDoor.SimJ Go.Proofs.YtfbfjhppppoilaaDoor.SimK Go.Proofs.YtfbfjhppppoilaaDoor.SimL Go.Proofs.YtfbfjhppppoilaaDoor.SimM Go.Proofs.YtfbfjhppppoilaaDoor.SimN Go.Proofs.YtfbfjhppppoilaaDoor.SimP Go.Proofs.YtfbfjhppppoilaaDoor.SimQ Go.Proofs.YtfbfjhppppoilaaDoor.SimR Go.Proofs.YtfbfjhppppoilaaDoor.SimS Go.Proofs.YtfbfjhppppoilaaDoor.SimU Go.Proofs.YtfbfjhppppoilaaDoor.SimX
set_option maxRecDepth 20000
set_option linter.unusedVariables false
set_option linter.unusedSimpArgs false
set_option linter.unusedSectionVars false

theorem nameB_len {l : List UInt8} (h : nameB l = true) : l.length ≤ 100 := by have := ((name_iff l).1 h).2.1; omega

theorem name0_ct (mx_ : Int) (l : List UInt8) (w0 : World) (H0 : Heap)
    (mx : MX mx_ H0) (bf_mx : BF (fun b => b = 0) H0.size) :
    Ct Tryd.prog w0 12 #[Str l] H0 (fun r H2 => r = .bool (nameB l) ∧ Nw H0 H2) := by
  refine Ct.enter (args := [Str l]) Tryd.func12 rfl rfl rfl ?_
  intro Q0 hret
  have hm0 : Nw H0 H0 := Mo.refl _ _
  refine CW.seq (fun K1 hK1 hE1 => ?_)
  refine CW.region ?_
  refine LR.v (Y.assign rfl rfl) (Wd.u rfl) rfl rfl ?_
  refine LR.nil ?_
  refine hK1 _ _ ?_
  refine CW.seq (fun K2 hK2 hE2 => ?_)
  refine CW.seq (fun K3 hK3 hE3 => ?_)
  refine CW.region ?_
  refine LR.v (Y.move rfl rfl) (Wd.u rfl) rfl rfl ?_
  refine LR.v (Y.seql rfl rfl rfl) (Wd.u rfl) rfl rfl ?_
  refine LR.v (Y.move rfl rfl) (Wd.u rfl) rfl rfl ?_
  refine LR.splitp (d := 7) rfl (fun g7 => ?_) (fun g7 => ?_)
  ·
    refine LR.gs rfl rfl rfl rfl rfl rfl ?_
    refine LR.gs rfl rfl rfl rfl rfl rfl ?_
    refine LR.gs rfl rfl rfl rfl rfl rfl ?_
    refine LR.v (Y.pick_t rfl rfl rfl) (Wd.u rfl) rfl rfl ?_
    refine LR.v (Y.move rfl rfl) (Wd.u rfl) rfl rfl ?_
    refine LR.gs rfl rfl rfl rfl rfl rfl ?_
    refine LR.gs rfl rfl rfl rfl rfl rfl ?_
    refine LR.gs rfl rfl rfl rfl rfl rfl ?_
    refine LR.gs rfl rfl rfl rfl rfl rfl ?_
    refine LR.v (Y.pick_t rfl rfl rfl) (Wd.u rfl) rfl rfl ?_
    refine LR.v (Y.move rfl rfl) (Wd.u rfl) rfl rfl ?_
    refine LR.gs rfl rfl rfl rfl rfl rfl ?_
    refine LR.gs rfl rfl rfl rfl rfl rfl ?_
    refine LR.v (Y.pick_t rfl rfl rfl) (Wd.u rfl) rfl rfl ?_
    refine LR.nil ?_
    refine hK3 _ _ ?_
    refine CW.cond_t rfl ?_
    refine CW.seq (fun K4 hK4 hE4 => ?_)
    refine CW.region ?_
    refine LR.v (Y.assign rfl rfl) (Wd.u rfl) rfl rfl ?_
    refine LR.nil ?_
    refine hK4 _ _ ?_
    refine CW.ret (hE2 .ret nofun _ _ (hret .ret (.inr rfl) _ _ _ (res1 rfl rfl) ?_))
    exact ⟨congrArg Value.bool (nameF (fun h => by obtain ⟨h1, h2, h3, h4, h5⟩ := h; first | exact h1 g7 | omega | exact g18 h3 | (rw [h4] at c21; cases c21))).symm, hm0⟩
  ·
    refine LR.v (Y.move rfl rfl) (Wd.g rfl rfl rfl) rfl rfl ?_
    refine LR.v (Y.slen rfl Tryd.runUnderlying9 rfl) (Wd.g rfl rfl rfl) rfl rfl ?_
    refine LR.v (Y.gtr rfl rfl rfl) (Wd.g rfl rfl rfl) rfl rfl ?_
    refine LR.v (Y.pick_f rfl rfl rfl) (Wd.u rfl) rfl rfl ?_
    refine LR.v (Y.move rfl rfl) (Wd.u rfl) rfl rfl ?_
    refine LR.splitp (d := 12) rfl (fun g12 => ?_) (fun g12 => ?_)
    ·
      refine LR.gs rfl rfl rfl rfl rfl rfl ?_
      refine LR.gs rfl rfl rfl rfl rfl rfl ?_
      refine LR.gs rfl rfl rfl rfl rfl rfl ?_
      refine LR.gs rfl rfl rfl rfl rfl rfl ?_
      refine LR.v (Y.pick_t rfl rfl rfl) (Wd.u rfl) rfl rfl ?_
      refine LR.v (Y.move rfl rfl) (Wd.u rfl) rfl rfl ?_
      refine LR.gs rfl rfl rfl rfl rfl rfl ?_
      refine LR.gs rfl rfl rfl rfl rfl rfl ?_
      refine LR.v (Y.pick_t rfl rfl rfl) (Wd.u rfl) rfl rfl ?_
      refine LR.nil ?_
      refine hK3 _ _ ?_
      refine CW.cond_t rfl ?_
      refine CW.seq (fun K5 hK5 hE5 => ?_)
      refine CW.region ?_
      refine LR.v (Y.assign rfl rfl) (Wd.u rfl) rfl rfl ?_
      refine LR.nil ?_
      refine hK5 _ _ ?_
      refine CW.ret (hE2 .ret nofun _ _ (hret .ret (.inr rfl) _ _ _ (res1 rfl rfl) ?_))
      exact ⟨congrArg Value.bool (nameF (fun h => by obtain ⟨h1, h2, h3, h4, h5⟩ := h; first | exact h1 g7 | omega | exact g18 h3 | (rw [h4] at c21; cases c21))).symm, hm0⟩
    ·
      refine LR.v (Y.move rfl rfl) (Wd.g rfl rfl rfl) rfl rfl ?_
      -- call strings.Trim
      refine LR.call rfl Tryd.call31 rfl (Wd.g rfl rfl rfl) rfl rfl (trim_ct l w0 _ (by omega)) (fun v14 H14 r14 => ?_)
      obtain ⟨rfl, hs14⟩ := r14
      replace mx := mx.nw hs14
      replace hm0 := hm0.tr hs14
      have hz1 := hs14.size
      refine LR.v (Y.move rfl rfl) (Wd.g rfl rfl rfl) rfl rfl ?_
      refine LR.v (Y.sneq rfl rfl rfl) (Wd.g rfl rfl rfl) rfl rfl ?_
      refine LR.v (Y.pick_f rfl rfl rfl) (Wd.u rfl) rfl rfl ?_
      refine LR.v (Y.move rfl rfl) (Wd.u rfl) rfl rfl ?_
      refine LR.splitp (d := 18) rfl (fun g18 => ?_) (fun g18 => ?_)
      ·
        refine LR.gs rfl rfl rfl rfl rfl rfl ?_
        refine LR.gs rfl rfl rfl rfl rfl rfl ?_
        refine LR.v (Y.pick_t rfl rfl rfl) (Wd.u rfl) rfl rfl ?_
        refine LR.nil ?_
        refine hK3 _ _ ?_
        refine CW.cond_t rfl ?_
        refine CW.seq (fun K6 hK6 hE6 => ?_)
        refine CW.region ?_
        refine LR.v (Y.assign rfl rfl) (Wd.u rfl) rfl rfl ?_
        refine LR.nil ?_
        refine hK6 _ _ ?_
        refine CW.ret (hE2 .ret nofun _ _ (hret .ret (.inr rfl) _ _ _ (res1 rfl rfl) ?_))
        exact ⟨congrArg Value.bool (nameF (fun h => by obtain ⟨h1, h2, h3, h4, h5⟩ := h; first | exact h1 g7 | omega | exact g18 h3 | (rw [h4] at c21; cases c21))).symm, hm0⟩
      ·
        refine LR.v (Y.move rfl rfl) (Wd.g rfl rfl rfl) rfl rfl ?_
        -- call strings.Contains
        refine LR.call rfl Tryd.call32 rfl (Wd.g rfl rfl rfl) rfl rfl (contains_ct l [47, 47] mx_ w0 _ mx (by omega)) (fun v20 H20 r20 => ?_)
        obtain ⟨rfl, hs20⟩ := r20
        replace mx := mx.nw hs20
        replace hm0 := hm0.tr hs20
        have hz2 := hs20.size
        refine LR.v (Y.pick_f rfl rfl rfl) (Wd.u rfl) rfl rfl ?_
        refine LR.nil ?_
        refine hK3 _ _ ?_
        refine CW.cond rfl (fun c21 => ?_) (fun c21 => ?_)
        ·
          refine CW.seq (fun K7 hK7 hE7 => ?_)
          refine CW.region ?_
          refine LR.v (Y.assign rfl rfl) (Wd.u rfl) rfl rfl ?_
          refine LR.nil ?_
          refine hK7 _ _ ?_
          refine CW.ret (hE2 .ret nofun _ _ (hret .ret (.inr rfl) _ _ _ (res1 rfl rfl) ?_))
          exact ⟨congrArg Value.bool (nameF (fun h => by obtain ⟨h1, h2, h3, h4, h5⟩ := h; first | exact h1 g7 | omega | exact g18 h3 | (rw [h4] at c21; cases c21))).symm, hm0⟩
        ·
          refine CW.skip ?_
          refine hK2 _ _ ?_
          refine CW.seq (fun K8 hK8 hE8 => ?_)
          refine CW.seq (fun K9 hK9 hE9 => ?_)
          refine CW.region ?_
          refine LR.v (Y.move rfl rfl) (Wd.u rfl) rfl rfl ?_
          refine LR.z (Z.strbw rfl Tryd.underlying9 Tryd.underlying25 Tryd.underlying5 rfl (by omega)) (Wd.u rfl) rfl rfl (fun v23 H23 r23 => ?_)
          obtain ⟨owb, hs23, hzs23⟩ := r23
          have df1 := (DF.new (bf_mx.mono hm0.size) : DF _ (H20.size + 1))
          have nx2 : Nx 0 H0.size (H20.size + 1) := Nx.new hm0.size
          replace mx := mx.nw hs23
          replace hm0 := hm0.tr hs23
          have hz3 := hs23.size
          refine LR.v (Y.len owb.rd rfl Tryd.runUnderlying25 rfl) (Wd.u rfl) rfl rfl ?_
          refine LR.v (Y.move rfl rfl) (Wd.u rfl) rfl rfl ?_
          refine LR.nil ?_
          refine hK9 _ _ ?_
          refine CW.block (fun K10 hK10 hX10 hE10 => ?_)
          refine CW.loop (fun (i : (Nat)) => [(23, v23), (24, .int .i64 l.length), (25, .int .i64 i)])
            (fun (i : (Nat)) (H : Heap) => (i ≤ l.length) ∧ (∀ q (h : q < l.length), q < i → okc l[q] = true) ∧ Nw H23 H)
            (fun (i : (Nat)) => l.length - i) 0 ⟨rfl, rfl, rfl, trivial⟩ ?_ ?_
          ·
            exact ⟨(by omega), (fun q h h2 => absurd h2 (by omega)), Mo.refl _ _⟩
          intro i HL1 hI1 K11 hN11 hE11
          obtain ⟨hi, hok, hlm1⟩ := hI1
          replace mx := mx.nw hlm1
          replace owb := owb.nw hlm1
          replace hm0 := hm0.tr hlm1
          have hz4 := hlm1.size
          refine CW.seq (fun K12 hK12 hE12 => ?_)
          refine CW.region ?_
          refine LR.v (Y.lss rfl rfl rfl) (Wd.u rfl) rfl rfl ?_
          refine LR.nil ?_
          refine hK12 _ _ ?_
          refine CW.seq (fun K13 hK13 hE13 => ?_)
          refine CW.condp rfl (fun c26 => ?_) (fun c26 => ?_)
          ·
            have hil : i < l.length := by omega
            refine CW.skip ?_
            refine hK13 _ _ ?_
            refine CW.cut (fun (_ : Unit) => [(23, v23), (24, .int .i64 l.length), (25, .int .i64 i)])
              (fun (_ : Unit) (H : Heap) => (okc l[i] = true) ∧ Nw HL1 H) (fun K14 hK14 hE14 => ?_) ?_
            ·
              have hcm14 : Nw HL1 HL1 := Mo.refl _ _
              refine CW.block (fun K15 hK15 hX15 hE15 => ?_)
              refine CW.seq (fun K16 hK16 hE16 => ?_)
              refine CW.region ?_
              refine LR.v (Y.owAddr owb (i) rfl Tryd.runUnderlying25 Tryd.sizeOf5 rfl rfl (by first | rfl | omega) (by first | omega | (simp; omega) | (simp; done))) (Wd.u rfl) rfl rfl ?_
              refine LR.v (Y.load1 (owb.pt (j := i) (by first | omega | (simp; omega) | (simp; done))) rfl Tryd.isAgg5 rfl) (Wd.u rfl) rfl rfl ?_
              refine LR.v (Y.assign rfl rfl) (Wd.u rfl) rfl rfl ?_
              refine LR.nil ?_
              refine hK16 _ _ ?_
              refine CW.seq (fun K17 hK17 hE17 => ?_)
              refine CW.region ?_
              refine LR.v (Y.move rfl rfl) (Wd.u rfl) rfl rfl ?_
              refine LR.v (Y.geq rfl rfl rfl) (Wd.u rfl) rfl rfl ?_
              refine LR.v (Y.move rfl rfl) (Wd.u rfl) rfl rfl ?_
              refine LR.splitp (d := 31) rfl (fun g31 => ?_) (fun g31 => ?_)
              ·
                refine LR.v (Y.move rfl rfl) (Wd.g rfl rfl rfl) rfl rfl ?_
                refine LR.v (Y.leq rfl rfl rfl) (Wd.g rfl rfl rfl) rfl rfl ?_
                refine LR.v (Y.pick_t rfl rfl rfl) (Wd.u rfl) rfl rfl ?_
                refine LR.v (Y.move rfl rfl) (Wd.u rfl) rfl rfl ?_
                refine LR.splitp (d := 35) rfl (fun g35 => ?_) (fun g35 => ?_)
                ·
                  refine LR.gs rfl rfl rfl rfl rfl rfl ?_
                  refine LR.gs rfl rfl rfl rfl rfl rfl ?_
                  refine LR.gs rfl rfl rfl rfl rfl rfl ?_
                  refine LR.gsu rfl rfl rfl rfl rfl ?_
                  refine LR.gsu rfl rfl rfl rfl rfl ?_
                  refine LR.gs rfl rfl rfl rfl rfl rfl ?_
                  refine LR.v (Y.pick_t rfl rfl rfl) (Wd.u rfl) rfl rfl ?_
                  refine LR.v (Y.move rfl rfl) (Wd.u rfl) rfl rfl ?_
                  refine LR.gs rfl rfl rfl rfl rfl rfl ?_
                  refine LR.gs rfl rfl rfl rfl rfl rfl ?_
                  refine LR.gs rfl rfl rfl rfl rfl rfl ?_
                  refine LR.v (Y.pick_t rfl rfl rfl) (Wd.u rfl) rfl rfl ?_
                  refine LR.v (Y.not rfl rfl) (Wd.u rfl) rfl rfl ?_
                  refine LR.nil ?_
                  refine hK17 _ _ ?_
                  refine CW.cond_f rfl ?_
                  refine CW.skip ?_
                  refine hK15 _ _ ?_
                  refine QN.sub (hK14 () _ ?_) ⟨rfl, (iv (by omega)), (iv (by omega)), trivial⟩
                  exact ⟨(okc_iff _).2 (by simp at *; omega), hcm14⟩
                ·
                  refine LR.v (Y.move rfl rfl) (Wd.g rfl rfl rfl) rfl rfl ?_
                  refine LR.v (Y.geq rfl rfl rfl) (Wd.g rfl rfl rfl) rfl rfl ?_
                  refine LR.v (Y.move rfl rfl) (Wd.g rfl rfl rfl) rfl rfl ?_
                  refine LR.splitp (d := 38) rfl (fun g38 => ?_) (fun g38 => ?_)
                  ·
                    refine LR.v (Y.move rfl rfl) (Wd.g rfl rfl rfl) rfl rfl ?_
                    refine LR.v (Y.leq rfl rfl rfl) (Wd.g rfl rfl rfl) rfl rfl ?_
                    refine LR.v (Y.pick_t rfl rfl rfl) (Wd.g rfl rfl rfl) rfl rfl ?_
                    refine LR.v (Y.pick_f rfl rfl rfl) (Wd.u rfl) rfl rfl ?_
                    refine LR.v (Y.move rfl rfl) (Wd.u rfl) rfl rfl ?_
                    refine LR.splitp (d := 43) rfl (fun g43 => ?_) (fun g43 => ?_)
                    ·
                      refine LR.gs rfl rfl rfl rfl rfl rfl ?_
                      refine LR.gs rfl rfl rfl rfl rfl rfl ?_
                      refine LR.gs rfl rfl rfl rfl rfl rfl ?_
                      refine LR.v (Y.pick_t rfl rfl rfl) (Wd.u rfl) rfl rfl ?_
                      refine LR.v (Y.not rfl rfl) (Wd.u rfl) rfl rfl ?_
                      refine LR.nil ?_
                      refine hK17 _ _ ?_
                      refine CW.cond_f rfl ?_
                      refine CW.skip ?_
                      refine hK15 _ _ ?_
                      refine QN.sub (hK14 () _ ?_) ⟨rfl, (iv (by omega)), (iv (by omega)), trivial⟩
                      exact ⟨(okc_iff _).2 (by simp at *; omega), hcm14⟩
                    ·
                      refine LR.v (Y.move rfl rfl) (Wd.g rfl rfl rfl) rfl rfl ?_
                      -- call strings.IndexByte
                      refine LR.call rfl Tryd.call33 rfl (Wd.g rfl rfl rfl) rfl rfl (idx_ct [46, 95, 45, 47] l[i] w0 _) (fun v45 H45 r45 => ?_)
                      obtain ⟨rfl, hs45⟩ := r45
                      replace mx := mx.nw hs45
                      replace owb := owb.nw hs45
                      replace hm0 := hm0.tr hs45
                      replace hlm1 := hlm1.tr hs45
                      replace hcm14 := hcm14.tr hs45
                      have hz5 := hs45.size
                      refine LR.v (Y.geq rfl rfl rfl) (Wd.g rfl rfl rfl) rfl rfl ?_
                      refine LR.v (Y.pick_f rfl rfl rfl) (Wd.u rfl) rfl rfl ?_
                      refine LR.v (Y.notp rfl rfl) (Wd.u rfl) rfl rfl ?_
                      refine LR.nil ?_
                      refine hK17 _ _ ?_
                      refine CW.condp rfl (fun c48 => ?_) (fun c48 => ?_)
                      ·
                        refine CW.seq (fun K18 hK18 hE18 => ?_)
                        refine CW.region ?_
                        refine LR.v (Y.assign rfl rfl) (Wd.u rfl) rfl rfl ?_
                        refine LR.nil ?_
                        refine hK18 _ _ ?_
                        refine CW.ret (hE15 .ret nofun (by simp) _ _ (hE14 .ret nofun _ _ (hE11 .ret nofun _ _ (hE10 .ret nofun (by simp) _ _ (hE8 .ret nofun _ _ (hret .ret (.inr rfl) _ _ _ (res1 rfl rfl) ?_))))))
                        exact ⟨congrArg Value.bool (nameF (fun h => by have h9 := (okc_iff _).1 (h.2.2.2.2 i hil); simp at *; omega)).symm, hm0⟩
                      ·
                        refine CW.skip ?_
                        refine hK15 _ _ ?_
                        refine QN.sub (hK14 () _ ?_) ⟨rfl, (iv (by omega)), (iv (by omega)), trivial⟩
                        exact ⟨(okc_iff _).2 (by simp at *; omega), hcm14⟩
                  ·
                    refine LR.gs rfl rfl rfl rfl rfl rfl ?_
                    refine LR.gs rfl rfl rfl rfl rfl rfl ?_
                    refine LR.v (Y.pick_f rfl rfl rfl) (Wd.g rfl rfl rfl) rfl rfl ?_
                    refine LR.v (Y.pick_f rfl rfl rfl) (Wd.u rfl) rfl rfl ?_
                    refine LR.v (Y.move rfl rfl) (Wd.u rfl) rfl rfl ?_
                    refine LR.v (Y.move rfl rfl) (Wd.g rfl rfl rfl) rfl rfl ?_
                    -- call strings.IndexByte
                    refine LR.call rfl Tryd.call33 rfl (Wd.g rfl rfl rfl) rfl rfl (idx_ct [46, 95, 45, 47] l[i] w0 _) (fun v45 H45 r45 => ?_)
                    obtain ⟨rfl, hs45⟩ := r45
                    replace mx := mx.nw hs45
                    replace owb := owb.nw hs45
                    replace hm0 := hm0.tr hs45
                    replace hlm1 := hlm1.tr hs45
                    replace hcm14 := hcm14.tr hs45
                    have hz6 := hs45.size
                    refine LR.v (Y.geq rfl rfl rfl) (Wd.g rfl rfl rfl) rfl rfl ?_
                    refine LR.v (Y.pick_f rfl rfl rfl) (Wd.u rfl) rfl rfl ?_
                    refine LR.v (Y.notp rfl rfl) (Wd.u rfl) rfl rfl ?_
                    refine LR.nil ?_
                    refine hK17 _ _ ?_
                    refine CW.condp rfl (fun c48 => ?_) (fun c48 => ?_)
                    ·
                      refine CW.seq (fun K19 hK19 hE19 => ?_)
                      refine CW.region ?_
                      refine LR.v (Y.assign rfl rfl) (Wd.u rfl) rfl rfl ?_
                      refine LR.nil ?_
                      refine hK19 _ _ ?_
                      refine CW.ret (hE15 .ret nofun (by simp) _ _ (hE14 .ret nofun _ _ (hE11 .ret nofun _ _ (hE10 .ret nofun (by simp) _ _ (hE8 .ret nofun _ _ (hret .ret (.inr rfl) _ _ _ (res1 rfl rfl) ?_))))))
                      exact ⟨congrArg Value.bool (nameF (fun h => by have h9 := (okc_iff _).1 (h.2.2.2.2 i hil); simp at *; omega)).symm, hm0⟩
                    ·
                      refine CW.skip ?_
                      refine hK15 _ _ ?_
                      refine QN.sub (hK14 () _ ?_) ⟨rfl, (iv (by omega)), (iv (by omega)), trivial⟩
                      exact ⟨(okc_iff _).2 (by simp at *; omega), hcm14⟩
              ·
                refine LR.gs rfl rfl rfl rfl rfl rfl ?_
                refine LR.gs rfl rfl rfl rfl rfl rfl ?_
                refine LR.v (Y.pick_f rfl rfl rfl) (Wd.u rfl) rfl rfl ?_
                refine LR.v (Y.move rfl rfl) (Wd.u rfl) rfl rfl ?_
                refine LR.v (Y.move rfl rfl) (Wd.g rfl rfl rfl) rfl rfl ?_
                refine LR.v (Y.geq rfl rfl rfl) (Wd.g rfl rfl rfl) rfl rfl ?_
                refine LR.v (Y.move rfl rfl) (Wd.g rfl rfl rfl) rfl rfl ?_
                refine LR.splitp (d := 38) rfl (fun g38 => ?_) (fun g38 => ?_)
                ·
                  refine LR.v (Y.move rfl rfl) (Wd.g rfl rfl rfl) rfl rfl ?_
                  refine LR.v (Y.leq rfl rfl rfl) (Wd.g rfl rfl rfl) rfl rfl ?_
                  refine LR.v (Y.pick_t rfl rfl rfl) (Wd.g rfl rfl rfl) rfl rfl ?_
                  refine LR.v (Y.pick_f rfl rfl rfl) (Wd.u rfl) rfl rfl ?_
                  refine LR.v (Y.move rfl rfl) (Wd.u rfl) rfl rfl ?_
                  refine LR.splitp (d := 43) rfl (fun g43 => ?_) (fun g43 => ?_)
                  ·
                    refine LR.gs rfl rfl rfl rfl rfl rfl ?_
                    refine LR.gs rfl rfl rfl rfl rfl rfl ?_
                    refine LR.gs rfl rfl rfl rfl rfl rfl ?_
                    refine LR.v (Y.pick_t rfl rfl rfl) (Wd.u rfl) rfl rfl ?_
                    refine LR.v (Y.not rfl rfl) (Wd.u rfl) rfl rfl ?_
                    refine LR.nil ?_
                    refine hK17 _ _ ?_
                    refine CW.cond_f rfl ?_
                    refine CW.skip ?_
                    refine hK15 _ _ ?_
                    refine QN.sub (hK14 () _ ?_) ⟨rfl, (iv (by omega)), (iv (by omega)), trivial⟩
                    exact ⟨(okc_iff _).2 (by simp at *; omega), hcm14⟩
                  ·
                    refine LR.v (Y.move rfl rfl) (Wd.g rfl rfl rfl) rfl rfl ?_
                    -- call strings.IndexByte
                    refine LR.call rfl Tryd.call33 rfl (Wd.g rfl rfl rfl) rfl rfl (idx_ct [46, 95, 45, 47] l[i] w0 _) (fun v45 H45 r45 => ?_)
                    obtain ⟨rfl, hs45⟩ := r45
                    replace mx := mx.nw hs45
                    replace owb := owb.nw hs45
                    replace hm0 := hm0.tr hs45
                    replace hlm1 := hlm1.tr hs45
                    replace hcm14 := hcm14.tr hs45
                    have hz7 := hs45.size
                    refine LR.v (Y.geq rfl rfl rfl) (Wd.g rfl rfl rfl) rfl rfl ?_
                    refine LR.v (Y.pick_f rfl rfl rfl) (Wd.u rfl) rfl rfl ?_
                    refine LR.v (Y.notp rfl rfl) (Wd.u rfl) rfl rfl ?_
                    refine LR.nil ?_
                    refine hK17 _ _ ?_
                    refine CW.condp rfl (fun c48 => ?_) (fun c48 => ?_)
                    ·
                      refine CW.seq (fun K20 hK20 hE20 => ?_)
                      refine CW.region ?_
                      refine LR.v (Y.assign rfl rfl) (Wd.u rfl) rfl rfl ?_
                      refine LR.nil ?_
                      refine hK20 _ _ ?_
                      refine CW.ret (hE15 .ret nofun (by simp) _ _ (hE14 .ret nofun _ _ (hE11 .ret nofun _ _ (hE10 .ret nofun (by simp) _ _ (hE8 .ret nofun _ _ (hret .ret (.inr rfl) _ _ _ (res1 rfl rfl) ?_))))))
                      exact ⟨congrArg Value.bool (nameF (fun h => by have h9 := (okc_iff _).1 (h.2.2.2.2 i hil); simp at *; omega)).symm, hm0⟩
                    ·
                      refine CW.skip ?_
                      refine hK15 _ _ ?_
                      refine QN.sub (hK14 () _ ?_) ⟨rfl, (iv (by omega)), (iv (by omega)), trivial⟩
                      exact ⟨(okc_iff _).2 (by simp at *; omega), hcm14⟩
                ·
                  refine LR.gs rfl rfl rfl rfl rfl rfl ?_
                  refine LR.gs rfl rfl rfl rfl rfl rfl ?_
                  refine LR.v (Y.pick_f rfl rfl rfl) (Wd.g rfl rfl rfl) rfl rfl ?_
                  refine LR.v (Y.pick_f rfl rfl rfl) (Wd.u rfl) rfl rfl ?_
                  refine LR.v (Y.move rfl rfl) (Wd.u rfl) rfl rfl ?_
                  refine LR.v (Y.move rfl rfl) (Wd.g rfl rfl rfl) rfl rfl ?_
                  -- call strings.IndexByte
                  refine LR.call rfl Tryd.call33 rfl (Wd.g rfl rfl rfl) rfl rfl (idx_ct [46, 95, 45, 47] l[i] w0 _) (fun v45 H45 r45 => ?_)
                  obtain ⟨rfl, hs45⟩ := r45
                  replace mx := mx.nw hs45
                  replace owb := owb.nw hs45
                  replace hm0 := hm0.tr hs45
                  replace hlm1 := hlm1.tr hs45
                  replace hcm14 := hcm14.tr hs45
                  have hz8 := hs45.size
                  refine LR.v (Y.geq rfl rfl rfl) (Wd.g rfl rfl rfl) rfl rfl ?_
                  refine LR.v (Y.pick_f rfl rfl rfl) (Wd.u rfl) rfl rfl ?_
                  refine LR.v (Y.notp rfl rfl) (Wd.u rfl) rfl rfl ?_
                  refine LR.nil ?_
                  refine hK17 _ _ ?_
                  refine CW.condp rfl (fun c48 => ?_) (fun c48 => ?_)
                  ·
                    refine CW.seq (fun K21 hK21 hE21 => ?_)
                    refine CW.region ?_
                    refine LR.v (Y.assign rfl rfl) (Wd.u rfl) rfl rfl ?_
                    refine LR.nil ?_
                    refine hK21 _ _ ?_
                    refine CW.ret (hE15 .ret nofun (by simp) _ _ (hE14 .ret nofun _ _ (hE11 .ret nofun _ _ (hE10 .ret nofun (by simp) _ _ (hE8 .ret nofun _ _ (hret .ret (.inr rfl) _ _ _ (res1 rfl rfl) ?_))))))
                    exact ⟨congrArg Value.bool (nameF (fun h => by have h9 := (okc_iff _).1 (h.2.2.2.2 i hil); simp at *; omega)).symm, hm0⟩
                  ·
                    refine CW.skip ?_
                    refine hK15 _ _ ?_
                    refine QN.sub (hK14 () _ ?_) ⟨rfl, (iv (by omega)), (iv (by omega)), trivial⟩
                    exact ⟨(okc_iff _).2 (by simp at *; omega), hcm14⟩
            ·
              intro _ Hcut1 hIcut1
              obtain ⟨hci, hlmcut1⟩ := hIcut1
              replace mx := mx.nw hlmcut1
              replace owb := owb.nw hlmcut1
              replace hm0 := hm0.tr hlmcut1
              replace hlm1 := hlm1.tr hlmcut1
              have hz9 := hlmcut1.size
              refine CW.region ?_
              refine LR.v (Y.addi rfl rfl rfl (by omega)) (Wd.u rfl) rfl rfl ?_
              refine LR.v (Y.move rfl rfl) (Wd.u rfl) rfl rfl ?_
              refine LR.nil ?_
              refine QN.sub (hN11 (i + 1) _ ?_ ?_) ⟨rfl, (iv (by omega)), (iv (by omega)), trivial⟩
              · exact ⟨(by omega), (fun q h h2 => by rcases Nat.lt_or_ge q i with h5 | h5; exact hok q h h5; (obtain rfl : q = i := by omega); exact hci), hlm1⟩
              · first | omega | (simp only; omega) | (simp; omega)
          ·
            refine CW.exit (hE13 (.exit 0) nofun _ _ (hE11 (.exit 0) nofun _ _ (hX10 _ _ ?_)))
            refine hK8 _ _ ?_
            refine CW.seq (fun K22 hK22 hE22 => ?_)
            refine CW.region ?_
            refine LR.v (Y.assign rfl rfl) (Wd.u rfl) rfl rfl ?_
            refine LR.nil ?_
            refine hK22 _ _ ?_
            refine CW.ret (hret .ret (.inr rfl) _ _ _ (res1 rfl rfl) ?_)
            obtain rfl : i = l.length := by omega
            exact ⟨congrArg Value.bool ((name_iff l).2 ⟨g7, by omega, by simpa using g18, by simpa using c21, fun i h => hok i h h⟩).symm, hm0⟩

theorem dir0_ct (mx_ : Int) (l : List UInt8) (w0 : World) (H0 : Heap)
    (mx : MX mx_ H0) (bf_mx : BF (fun b => b = 0) H0.size) :
    Ct Tryd.prog w0 14 #[Str l] H0 (fun r H2 => r = Str (dirP l) ∧ Nw H0 H2) := by
  refine Ct.enter (args := [Str l]) Tryd.func14 rfl rfl rfl ?_
  intro Q0 hret
  have hm0 : Nw H0 H0 := Mo.refl _ _
  refine CW.seq (fun K1 hK1 hE1 => ?_)
  refine CW.region ?_
  refine LR.v (Y.assign rfl rfl) (Wd.u rfl) rfl rfl ?_
  refine LR.nil ?_
  refine hK1 _ _ ?_
  refine CW.seq (fun K2 hK2 hE2 => ?_)
  refine CW.seq (fun K3 hK3 hE3 => ?_)
  refine CW.region ?_
  refine LR.v (Y.move rfl rfl) (Wd.u rfl) rfl rfl ?_
  -- call selvage/simfs.Name
  refine LR.call rfl Tryd.call12 rfl (Wd.u rfl) rfl rfl (name0_ct mx_ l w0 _ mx (bf_mx.mono (by omega))) (fun v4 H4 r4 => ?_)
  obtain ⟨rfl, hs4⟩ := r4
  replace mx := mx.nw hs4
  replace hm0 := hm0.tr hs4
  have hz1 := hs4.size
  refine LR.v (Y.not rfl rfl) (Wd.u rfl) rfl rfl ?_
  refine LR.nil ?_
  refine hK3 _ _ ?_
  refine CW.cond rfl (fun c5 => ?_) (fun c5 => ?_)
  ·
    refine CW.seq (fun K4 hK4 hE4 => ?_)
    refine CW.region ?_
    refine LR.v (Y.assign rfl rfl) (Wd.u rfl) rfl rfl ?_
    refine LR.nil ?_
    refine hK4 _ _ ?_
    refine CW.ret (hE2 .ret nofun _ _ (hret .ret (.inr rfl) _ _ _ (res1 rfl rfl) ?_))
    exact ⟨by rw [dirP, if_neg (by simpa using c5)]; rfl, hm0⟩
  ·
    have hl5 := nameB_len (l := l) (by simpa using c5)
    refine CW.skip ?_
    refine hK2 _ _ ?_
    refine CW.seq (fun K5 hK5 hE5 => ?_)
    refine CW.region ?_
    refine LR.v (Y.move rfl rfl) (Wd.u rfl) rfl rfl ?_
    refine LR.v (Y.move rfl rfl) (Wd.u rfl) rfl rfl ?_
    -- call strings.LastIndexByte
    refine LR.call rfl Tryd.call34 rfl (Wd.u rfl) rfl rfl (lix_ct l w0 _ (by omega)) (fun v8 H8 r8 => ?_)
    obtain ⟨j8, rfl, hj8, hl8, hs8⟩ := r8
    replace mx := mx.nw hs8
    replace hm0 := hm0.tr hs8
    have hz2 := hs8.size
    refine LR.v (Y.cast (v2 := .int .i64 ((j8 - 1 : Nat) : Int)) (Y.maxi rfl rfl rfl) (ivv (by omega))) (Wd.u rfl) rfl rfl ?_
    refine LR.v (Y.sslice (0) (j8 - 1) rfl Tryd.runUnderlying9 rfl (.inl ⟨rfl, rfl⟩) (.inr ⟨_, _, _, rfl, rfl, by first | rfl | omega⟩) (by omega) (by omega)) (Wd.u rfl) rfl rfl ?_
    refine LR.v (Y.assign rfl rfl) (Wd.u rfl) rfl rfl ?_
    refine LR.nil ?_
    refine hK5 _ _ ?_
    refine CW.ret (hret .ret (.inr rfl) _ _ _ (res1 rfl rfl) ?_)
    exact ⟨by rw [dirP, if_pos (by simpa using c5), head_of hj8 hl8]; simp, hm0⟩

set_option maxHeartbeats 4000000 in
theorem rname0_ct (l : List UInt8) (w0 : World) (H0 : Heap)
     :
    Ct Tryd.prog w0 13 #[Str l] H0 (fun r H2 => r = .bool (nameB l) ∧ Nw H0 H2) := by
  refine Ct.enter (args := [Str l]) Tryd.func13 rfl rfl rfl ?_
  intro Q0 hret
  have hm0 : Nw H0 H0 := Mo.refl _ _
  refine CW.seq (fun K1 hK1 hE1 => ?_)
  refine CW.region ?_
  refine LR.v (Y.assign rfl rfl) (Wd.u rfl) rfl rfl ?_
  refine LR.nil ?_
  refine hK1 _ _ ?_
  refine CW.seq (fun K2 hK2 hE2 => ?_)
  refine CW.seq (fun K3 hK3 hE3 => ?_)
  refine CW.region ?_
  refine LR.v (Y.move rfl rfl) (Wd.u rfl) rfl rfl ?_
  refine LR.v (Y.slen rfl Tryd.runUnderlying9 rfl) (Wd.u rfl) rfl rfl ?_
  refine LR.v (Y.lss rfl rfl rfl) (Wd.u rfl) rfl rfl ?_
  refine LR.v (Y.move rfl rfl) (Wd.u rfl) rfl rfl ?_
  refine LR.splitp (d := 8) rfl (fun g8 => ?_) (fun g8 => ?_)
  ·
    refine LR.gs rfl rfl rfl rfl rfl rfl ?_
    refine LR.gs rfl rfl rfl rfl rfl rfl ?_
    refine LR.gs rfl rfl rfl rfl rfl rfl ?_
    refine LR.v (Y.pick_t rfl rfl rfl) (Wd.u rfl) rfl rfl ?_
    refine LR.nil ?_
    refine hK3 _ _ ?_
    refine CW.cond_t rfl ?_
    refine CW.seq (fun K4 hK4 hE4 => ?_)
    refine CW.region ?_
    refine LR.v (Y.assign rfl rfl) (Wd.u rfl) rfl rfl ?_
    refine LR.nil ?_
    refine hK4 _ _ ?_
    refine CW.ret (hE2 .ret nofun _ _ (hret .ret (.inr rfl) _ _ _ (res1 rfl rfl) ?_))
    exact ⟨congrArg Value.bool (name_no (fun h => by obtain ⟨h1, h2, h3⟩ := h; omega)).symm, hm0⟩
  ·
    refine LR.v (Y.move rfl rfl) (Wd.g rfl rfl rfl) rfl rfl ?_
    refine LR.v (Y.slen rfl Tryd.runUnderlying9 rfl) (Wd.g rfl rfl rfl) rfl rfl ?_
    refine LR.v (Y.gtr rfl rfl rfl) (Wd.g rfl rfl rfl) rfl rfl ?_
    refine LR.v (Y.pick_f rfl rfl rfl) (Wd.u rfl) rfl rfl ?_
    refine LR.nil ?_
    refine hK3 _ _ ?_
    refine CW.condp rfl (fun c12 => ?_) (fun c12 => ?_)
    ·
      refine CW.seq (fun K5 hK5 hE5 => ?_)
      refine CW.region ?_
      refine LR.v (Y.assign rfl rfl) (Wd.u rfl) rfl rfl ?_
      refine LR.nil ?_
      refine hK5 _ _ ?_
      refine CW.ret (hE2 .ret nofun _ _ (hret .ret (.inr rfl) _ _ _ (res1 rfl rfl) ?_))
      exact ⟨congrArg Value.bool (name_no (fun h => by obtain ⟨h1, h2, h3⟩ := h; omega)).symm, hm0⟩
    ·
      refine CW.skip ?_
      refine hK2 _ _ ?_
      refine CW.seq (fun K6 hK6 hE6 => ?_)
      refine CW.seq (fun K7 hK7 hE7 => ?_)
      refine CW.region ?_
      refine LR.v (Y.assign rfl rfl) (Wd.u rfl) rfl rfl ?_
      refine LR.nil ?_
      refine hK7 _ _ ?_
      refine CW.block (fun K8 hK8 hX8 hE8 => ?_)
      refine CW.loop (fun (i : (Nat)) => [(0, Str l), (3, .int .i64 (i : Int))])
        (fun (i : (Nat)) (H : Heap) => (i ≤ l.length) ∧ (∀ q, q < l.length → q < i → okAt l q) ∧ Nw H0 H)
        (fun (i : (Nat)) => l.length - i) 0 ⟨rfl, rfl, trivial⟩ ?_ ?_
      ·
        exact ⟨(by omega), (fun q h h2 => absurd h2 (by omega)), Mo.refl _ _⟩
      intro i HL1 hI1 K9 hN9 hE9
      obtain ⟨hi, hok, hlm1⟩ := hI1
      replace hm0 := hm0.tr hlm1
      have hz1 := hlm1.size
      refine CW.seq (fun K10 hK10 hE10 => ?_)
      refine CW.seq (fun K11 hK11 hE11 => ?_)
      refine CW.region ?_
      refine LR.v (Y.move rfl rfl) (Wd.u rfl) rfl rfl ?_
      refine LR.v (Y.move rfl rfl) (Wd.u rfl) rfl rfl ?_
      refine LR.v (Y.slen rfl Tryd.runUnderlying9 rfl) (Wd.u rfl) rfl rfl ?_
      refine LR.v (Y.lss rfl rfl rfl) (Wd.u rfl) rfl rfl ?_
      refine LR.nil ?_
      refine hK11 _ _ ?_
      refine CW.condp rfl (fun c16 => ?_) (fun c16 => ?_)
      ·
        have hil : i < l.length := by omega
        refine CW.skip ?_
        refine hK10 _ _ ?_
        refine CW.cut (fun (_ : Unit) => [(0, Str l), (3, .int .i64 (i : Int))])
          (fun (_ : Unit) (H : Heap) => (okAt l i) ∧ Nw HL1 H) (fun K12 hK12 hE12 => ?_) ?_
        ·
          have hcm12 : Nw HL1 HL1 := Mo.refl _ _
          refine CW.block (fun K13 hK13 hX13 hE13 => ?_)
          refine CW.seq (fun K14 hK14 hE14 => ?_)
          refine CW.region ?_
          refine LR.v (Y.move rfl rfl) (Wd.u rfl) rfl rfl ?_
          refine LR.v (Y.move rfl rfl) (Wd.u rfl) rfl rfl ?_
          refine LR.v (Y.sindex (i) rfl Tryd.runUnderlying9 rfl rfl (by first | rfl | omega) (by omega)) (Wd.u rfl) rfl rfl ?_
          refine LR.v (Y.assign rfl rfl) (Wd.u rfl) rfl rfl ?_
          refine LR.nil ?_
          refine hK14 _ _ ?_
          refine CW.cut (fun (_ : Unit) => [(0, Str l), (3, .int .i64 (i : Int)), (4, .int .u8 (l[i].toNat : Int))])
            (fun (_ : Unit) (H : Heap) => (¬ (l[i].toNat = 47 ∧ (i = 0 ∨ i = l.length - 1 ∨ (l.getD (i - 1) 0).toNat = 47))) ∧ Nw HL1 H) (fun K15 hK15 hE15 => ?_) ?_
          ·
            have hcm15 : Nw HL1 HL1 := Mo.refl _ _
            refine CW.seq (fun K16 hK16 hE16 => ?_)
            refine CW.region ?_
            refine LR.v (Y.move rfl rfl) (Wd.u rfl) rfl rfl ?_
            refine LR.v (Y.eql rfl rfl rfl) (Wd.u rfl) rfl rfl ?_
            refine LR.v (Y.move rfl rfl) (Wd.u rfl) rfl rfl ?_
            refine LR.splitp (d := 24) rfl (fun g24 => ?_) (fun g24 => ?_)
            ·
              refine LR.v (Y.move rfl rfl) (Wd.g rfl rfl rfl) rfl rfl ?_
              refine LR.v (Y.eql rfl rfl rfl) (Wd.g rfl rfl rfl) rfl rfl ?_
              refine LR.v (Y.move rfl rfl) (Wd.g rfl rfl rfl) rfl rfl ?_
              refine LR.splitp (d := 27) rfl (fun g27 => ?_) (fun g27 => ?_)
              ·
                refine LR.gs rfl rfl rfl rfl rfl rfl ?_
                refine LR.gs rfl rfl rfl rfl rfl rfl ?_
                refine LR.gs rfl rfl rfl rfl rfl rfl ?_
                refine LR.gs rfl rfl rfl rfl rfl rfl ?_
                refine LR.gs rfl rfl rfl rfl rfl rfl ?_
                refine LR.v (Y.pick_t rfl rfl rfl) (Wd.g rfl rfl rfl) rfl rfl ?_
                refine LR.v (Y.move rfl rfl) (Wd.g rfl rfl rfl) rfl rfl ?_
                refine LR.gs rfl rfl rfl rfl rfl rfl ?_
                refine LR.gs rfl rfl rfl rfl rfl rfl ?_
                refine LR.gs rfl rfl rfl rfl rfl rfl ?_
                refine LR.gs rfl rfl rfl rfl rfl rfl ?_
                refine LR.gs rfl rfl rfl rfl rfl rfl ?_
                refine LR.v (Y.pick_t rfl rfl rfl) (Wd.g rfl rfl rfl) rfl rfl ?_
                refine LR.v (Y.pick_t rfl rfl rfl) (Wd.u rfl) rfl rfl ?_
                refine LR.nil ?_
                refine hK16 _ _ ?_
                refine CW.cond_t rfl ?_
                refine CW.seq (fun K17 hK17 hE17 => ?_)
                refine CW.region ?_
                refine LR.v (Y.assign rfl rfl) (Wd.u rfl) rfl rfl ?_
                refine LR.nil ?_
                refine hK17 _ _ ?_
                refine CW.ret (hE15 .ret nofun _ _ (hE13 .ret nofun (by simp) _ _ (hE12 .ret nofun _ _ (hE9 .ret nofun _ _ (hE8 .ret nofun (by simp) _ _ (hE6 .ret nofun _ _ (hret .ret (.inr rfl) _ _ _ (res1 rfl rfl) ?_)))))))
                exact ⟨congrArg Value.bool (name_no (fun h => (h.2.2 i hil).2 ⟨by rw [getD_at hil]; omega, by first | (left; omega) | (right; left; omega) | (right; right; rw [getD_at (by omega)]; omega)⟩)).symm, hm0⟩
              ·
                refine LR.v (Y.move rfl rfl) (Wd.g rfl rfl rfl) rfl rfl ?_
                refine LR.v (Y.move rfl rfl) (Wd.g rfl rfl rfl) rfl rfl ?_
                refine LR.v (Y.slen rfl Tryd.runUnderlying9 rfl) (Wd.g rfl rfl rfl) rfl rfl ?_
                refine LR.v (Y.subi rfl rfl rfl (by omega)) (Wd.g rfl rfl rfl) rfl rfl ?_
                refine LR.v (Y.eql rfl rfl rfl) (Wd.g rfl rfl rfl) rfl rfl ?_
                refine LR.v (Y.pick_f rfl rfl rfl) (Wd.g rfl rfl rfl) rfl rfl ?_
                refine LR.v (Y.move rfl rfl) (Wd.g rfl rfl rfl) rfl rfl ?_
                refine LR.splitp (d := 34) rfl (fun g34 => ?_) (fun g34 => ?_)
                ·
                  refine LR.gs rfl rfl rfl rfl rfl rfl ?_
                  refine LR.gs rfl rfl rfl rfl rfl rfl ?_
                  refine LR.gs rfl rfl rfl rfl rfl rfl ?_
                  refine LR.gs rfl rfl rfl rfl rfl rfl ?_
                  refine LR.gs rfl rfl rfl rfl rfl rfl ?_
                  refine LR.v (Y.pick_t rfl rfl rfl) (Wd.g rfl rfl rfl) rfl rfl ?_
                  refine LR.v (Y.pick_t rfl rfl rfl) (Wd.u rfl) rfl rfl ?_
                  refine LR.nil ?_
                  refine hK16 _ _ ?_
                  refine CW.cond_t rfl ?_
                  refine CW.seq (fun K18 hK18 hE18 => ?_)
                  refine CW.region ?_
                  refine LR.v (Y.assign rfl rfl) (Wd.u rfl) rfl rfl ?_
                  refine LR.nil ?_
                  refine hK18 _ _ ?_
                  refine CW.ret (hE15 .ret nofun _ _ (hE13 .ret nofun (by simp) _ _ (hE12 .ret nofun _ _ (hE9 .ret nofun _ _ (hE8 .ret nofun (by simp) _ _ (hE6 .ret nofun _ _ (hret .ret (.inr rfl) _ _ _ (res1 rfl rfl) ?_)))))))
                  exact ⟨congrArg Value.bool (name_no (fun h => (h.2.2 i hil).2 ⟨by rw [getD_at hil]; omega, by first | (left; omega) | (right; left; omega) | (right; right; rw [getD_at (by omega)]; omega)⟩)).symm, hm0⟩
                ·
                  refine LR.v (Y.move rfl rfl) (Wd.g rfl rfl rfl) rfl rfl ?_
                  refine LR.v (Y.move rfl rfl) (Wd.g rfl rfl rfl) rfl rfl ?_
                  refine LR.v (Y.subi rfl rfl rfl (by omega)) (Wd.g rfl rfl rfl) rfl rfl ?_
                  refine LR.v (Y.sindex (i - 1) rfl Tryd.runUnderlying9 rfl rfl (by first | rfl | omega) (by omega)) (Wd.g rfl rfl rfl) rfl rfl ?_
                  refine LR.v (Y.eql rfl rfl rfl) (Wd.g rfl rfl rfl) rfl rfl ?_
                  refine LR.v (Y.pick_f rfl rfl rfl) (Wd.g rfl rfl rfl) rfl rfl ?_
                  refine LR.v (Y.pick_t rfl rfl rfl) (Wd.u rfl) rfl rfl ?_
                  refine LR.nil ?_
                  refine hK16 _ _ ?_
                  refine CW.condp rfl (fun c41 => ?_) (fun c41 => ?_)
                  ·
                    refine CW.seq (fun K19 hK19 hE19 => ?_)
                    refine CW.region ?_
                    refine LR.v (Y.assign rfl rfl) (Wd.u rfl) rfl rfl ?_
                    refine LR.nil ?_
                    refine hK19 _ _ ?_
                    refine CW.ret (hE15 .ret nofun _ _ (hE13 .ret nofun (by simp) _ _ (hE12 .ret nofun _ _ (hE9 .ret nofun _ _ (hE8 .ret nofun (by simp) _ _ (hE6 .ret nofun _ _ (hret .ret (.inr rfl) _ _ _ (res1 rfl rfl) ?_)))))))
                    exact ⟨congrArg Value.bool (name_no (fun h => (h.2.2 i hil).2 ⟨by rw [getD_at hil]; omega, by first | (left; omega) | (right; left; omega) | (right; right; rw [getD_at (by omega)]; omega)⟩)).symm, hm0⟩
                  ·
                    refine CW.skip ?_
                    refine QN.sub (hK15 () _ ?_) ⟨rfl, (iv (by omega)), (iv (by omega)), trivial⟩
                    exact ⟨(fun h => by obtain ⟨e1, e2⟩ := h; rcases e2 with e2 | e2 | e2 <;> first | omega | (rw [getD_at (by omega)] at e2; omega)), hcm15⟩
            ·
              refine LR.gs rfl rfl rfl rfl rfl rfl ?_
              refine LR.gs rfl rfl rfl rfl rfl rfl ?_
              refine LR.gs rfl rfl rfl rfl rfl rfl ?_
              refine LR.gsu rfl rfl rfl rfl rfl ?_
              refine LR.gsu rfl rfl rfl rfl rfl ?_
              refine LR.gsu rfl rfl rfl rfl rfl ?_
              refine LR.gsu rfl rfl rfl rfl rfl ?_
              refine LR.gsu rfl rfl rfl rfl rfl ?_
              refine LR.gs rfl rfl rfl rfl rfl rfl ?_
              refine LR.gs rfl rfl rfl rfl rfl rfl ?_
              refine LR.gsu rfl rfl rfl rfl rfl ?_
              refine LR.gsu rfl rfl rfl rfl rfl ?_
              refine LR.gsu rfl rfl rfl rfl rfl ?_
              refine LR.gsu rfl rfl rfl rfl rfl ?_
              refine LR.gsu rfl rfl rfl rfl rfl ?_
              refine LR.gs rfl rfl rfl rfl rfl rfl ?_
              refine LR.v (Y.pick_f rfl rfl rfl) (Wd.u rfl) rfl rfl ?_
              refine LR.nil ?_
              refine hK16 _ _ ?_
              refine CW.cond_f rfl ?_
              refine CW.skip ?_
              refine QN.sub (hK15 () _ ?_) ⟨rfl, (iv (by omega)), (iv (by omega)), trivial⟩
              exact ⟨(fun h => by obtain ⟨e1, e2⟩ := h; rcases e2 with e2 | e2 | e2 <;> first | omega | (rw [getD_at (by omega)] at e2; omega)), hcm15⟩
          ·
            intro _ Hcutc41 hIcutc41
            obtain ⟨hs2, hlmcutc41⟩ := hIcutc41
            replace hm0 := hm0.tr hlmcutc41
            replace hlm1 := hlm1.tr hlmcutc41
            replace hcm12 := hcm12.tr hlmcutc41
            have hz2 := hlmcutc41.size
            refine CW.seq (fun K20 hK20 hE20 => ?_)
            refine CW.region ?_
            refine LR.v (Y.move rfl rfl) (Wd.u rfl) rfl rfl ?_
            refine LR.v (Y.lss rfl rfl rfl) (Wd.u rfl) rfl rfl ?_
            refine LR.v (Y.move rfl rfl) (Wd.u rfl) rfl rfl ?_
            refine LR.splitp (d := 44) rfl (fun g44 => ?_) (fun g44 => ?_)
            ·
              refine LR.gs rfl rfl rfl rfl rfl rfl ?_
              refine LR.gs rfl rfl rfl rfl rfl rfl ?_
              refine LR.v (Y.pick_t rfl rfl rfl) (Wd.u rfl) rfl rfl ?_
              refine LR.v (Y.move rfl rfl) (Wd.u rfl) rfl rfl ?_
              refine LR.v (Y.move rfl rfl) (Wd.g rfl rfl rfl) rfl rfl ?_
              refine LR.v (Y.lss rfl rfl rfl) (Wd.g rfl rfl rfl) rfl rfl ?_
              refine LR.v (Y.move rfl rfl) (Wd.g rfl rfl rfl) rfl rfl ?_
              refine LR.splitp (d := 51) rfl (fun g51 => ?_) (fun g51 => ?_)
              ·
                refine LR.gs rfl rfl rfl rfl rfl rfl ?_
                refine LR.gs rfl rfl rfl rfl rfl rfl ?_
                refine LR.v (Y.pick_t rfl rfl rfl) (Wd.g rfl rfl rfl) rfl rfl ?_
                refine LR.v (Y.pick_t rfl rfl rfl) (Wd.u rfl) rfl rfl ?_
                refine LR.v (Y.move rfl rfl) (Wd.u rfl) rfl rfl ?_
                refine LR.v (Y.move rfl rfl) (Wd.g rfl rfl rfl) rfl rfl ?_
                refine LR.v (Y.neq rfl rfl rfl) (Wd.g rfl rfl rfl) rfl rfl ?_
                refine LR.v (Y.pick_t rfl rfl rfl) (Wd.u rfl) rfl rfl ?_
                refine LR.v (Y.move rfl rfl) (Wd.u rfl) rfl rfl ?_
                refine LR.splitp (d := 60) rfl (fun g60 => ?_) (fun g60 => ?_)
                ·
                  refine LR.v (Y.move rfl rfl) (Wd.g rfl rfl rfl) rfl rfl ?_
                  refine LR.v (Y.neq rfl rfl rfl) (Wd.g rfl rfl rfl) rfl rfl ?_
                  refine LR.v (Y.pick_t rfl rfl rfl) (Wd.u rfl) rfl rfl ?_
                  refine LR.v (Y.move rfl rfl) (Wd.u rfl) rfl rfl ?_
                  refine LR.splitp (d := 64) rfl (fun g64 => ?_) (fun g64 => ?_)
                  ·
                    refine LR.v (Y.move rfl rfl) (Wd.g rfl rfl rfl) rfl rfl ?_
                    refine LR.v (Y.neq rfl rfl rfl) (Wd.g rfl rfl rfl) rfl rfl ?_
                    refine LR.v (Y.pick_t rfl rfl rfl) (Wd.u rfl) rfl rfl ?_
                    refine LR.v (Y.move rfl rfl) (Wd.u rfl) rfl rfl ?_
                    refine LR.splitp (d := 68) rfl (fun g68 => ?_) (fun g68 => ?_)
                    ·
                      refine LR.v (Y.move rfl rfl) (Wd.g rfl rfl rfl) rfl rfl ?_
                      refine LR.v (Y.neq rfl rfl rfl) (Wd.g rfl rfl rfl) rfl rfl ?_
                      refine LR.v (Y.pick_t rfl rfl rfl) (Wd.u rfl) rfl rfl ?_
                      refine LR.nil ?_
                      refine hK20 _ _ ?_
                      refine CW.condp rfl (fun c71 => ?_) (fun c71 => ?_)
                      ·
                        refine CW.seq (fun K21 hK21 hE21 => ?_)
                        refine CW.region ?_
                        refine LR.v (Y.assign rfl rfl) (Wd.u rfl) rfl rfl ?_
                        refine LR.nil ?_
                        refine hK21 _ _ ?_
                        refine CW.ret (hE13 .ret nofun (by simp) _ _ (hE12 .ret nofun _ _ (hE9 .ret nofun _ _ (hE8 .ret nofun (by simp) _ _ (hE6 .ret nofun _ _ (hret .ret (.inr rfl) _ _ _ (res1 rfl rfl) ?_))))))
                        exact ⟨congrArg Value.bool (name_no (fun h => by have h9 := (okc_iff2 _).1 (h.2.2 i hil).1; rw [getD_at hil] at h9; simp at *; omega)).symm, hm0⟩
                      ·
                        refine CW.skip ?_
                        refine hK13 _ _ ?_
                        refine QN.sub (hK12 () _ ?_) ⟨rfl, (iv (by omega)), trivial⟩
                        exact ⟨(⟨by rw [getD_at hil]; exact (okc_iff2 _).2 (by simp at *; omega), fun h => hs2 (by rw [getD_at hil] at h; exact h)⟩), hcm12⟩
                    ·
                      refine LR.gs rfl rfl rfl rfl rfl rfl ?_
                      refine LR.gs rfl rfl rfl rfl rfl rfl ?_
                      refine LR.v (Y.pick_f rfl rfl rfl) (Wd.u rfl) rfl rfl ?_
                      refine LR.nil ?_
                      refine hK20 _ _ ?_
                      refine CW.cond_f rfl ?_
                      refine CW.skip ?_
                      refine hK13 _ _ ?_
                      refine QN.sub (hK12 () _ ?_) ⟨rfl, (iv (by omega)), trivial⟩
                      exact ⟨(⟨by rw [getD_at hil]; exact (okc_iff2 _).2 (by simp at *; omega), fun h => hs2 (by rw [getD_at hil] at h; exact h)⟩), hcm12⟩
                  ·
                    refine LR.gs rfl rfl rfl rfl rfl rfl ?_
                    refine LR.gs rfl rfl rfl rfl rfl rfl ?_
                    refine LR.v (Y.pick_f rfl rfl rfl) (Wd.u rfl) rfl rfl ?_
                    refine LR.v (Y.move rfl rfl) (Wd.u rfl) rfl rfl ?_
                    refine LR.gs rfl rfl rfl rfl rfl rfl ?_
                    refine LR.gs rfl rfl rfl rfl rfl rfl ?_
                    refine LR.v (Y.pick_f rfl rfl rfl) (Wd.u rfl) rfl rfl ?_
                    refine LR.nil ?_
                    refine hK20 _ _ ?_
                    refine CW.cond_f rfl ?_
                    refine CW.skip ?_
                    refine hK13 _ _ ?_
                    refine QN.sub (hK12 () _ ?_) ⟨rfl, (iv (by omega)), trivial⟩
                    exact ⟨(⟨by rw [getD_at hil]; exact (okc_iff2 _).2 (by simp at *; omega), fun h => hs2 (by rw [getD_at hil] at h; exact h)⟩), hcm12⟩
                ·
                  refine LR.gs rfl rfl rfl rfl rfl rfl ?_
                  refine LR.gs rfl rfl rfl rfl rfl rfl ?_
                  refine LR.v (Y.pick_f rfl rfl rfl) (Wd.u rfl) rfl rfl ?_
                  refine LR.v (Y.move rfl rfl) (Wd.u rfl) rfl rfl ?_
                  refine LR.gs rfl rfl rfl rfl rfl rfl ?_
                  refine LR.gs rfl rfl rfl rfl rfl rfl ?_
                  refine LR.v (Y.pick_f rfl rfl rfl) (Wd.u rfl) rfl rfl ?_
                  refine LR.v (Y.move rfl rfl) (Wd.u rfl) rfl rfl ?_
                  refine LR.gs rfl rfl rfl rfl rfl rfl ?_
                  refine LR.gs rfl rfl rfl rfl rfl rfl ?_
                  refine LR.v (Y.pick_f rfl rfl rfl) (Wd.u rfl) rfl rfl ?_
                  refine LR.nil ?_
                  refine hK20 _ _ ?_
                  refine CW.cond_f rfl ?_
                  refine CW.skip ?_
                  refine hK13 _ _ ?_
                  refine QN.sub (hK12 () _ ?_) ⟨rfl, (iv (by omega)), trivial⟩
                  exact ⟨(⟨by rw [getD_at hil]; exact (okc_iff2 _).2 (by simp at *; omega), fun h => hs2 (by rw [getD_at hil] at h; exact h)⟩), hcm12⟩
              ·
                refine LR.v (Y.move rfl rfl) (Wd.g rfl rfl rfl) rfl rfl ?_
                refine LR.v (Y.gtr rfl rfl rfl) (Wd.g rfl rfl rfl) rfl rfl ?_
                refine LR.v (Y.pick_f rfl rfl rfl) (Wd.g rfl rfl rfl) rfl rfl ?_
                refine LR.v (Y.pick_t rfl rfl rfl) (Wd.u rfl) rfl rfl ?_
                refine LR.v (Y.move rfl rfl) (Wd.u rfl) rfl rfl ?_
                refine LR.splitp (d := 56) rfl (fun g56 => ?_) (fun g56 => ?_)
                ·
                  refine LR.v (Y.move rfl rfl) (Wd.g rfl rfl rfl) rfl rfl ?_
                  refine LR.v (Y.neq rfl rfl rfl) (Wd.g rfl rfl rfl) rfl rfl ?_
                  refine LR.v (Y.pick_t rfl rfl rfl) (Wd.u rfl) rfl rfl ?_
                  refine LR.v (Y.move rfl rfl) (Wd.u rfl) rfl rfl ?_
                  refine LR.splitp (d := 60) rfl (fun g60 => ?_) (fun g60 => ?_)
                  ·
                    refine LR.v (Y.move rfl rfl) (Wd.g rfl rfl rfl) rfl rfl ?_
                    refine LR.v (Y.neq rfl rfl rfl) (Wd.g rfl rfl rfl) rfl rfl ?_
                    refine LR.v (Y.pick_t rfl rfl rfl) (Wd.u rfl) rfl rfl ?_
                    refine LR.v (Y.move rfl rfl) (Wd.u rfl) rfl rfl ?_
                    refine LR.splitp (d := 64) rfl (fun g64 => ?_) (fun g64 => ?_)
                    ·
                      refine LR.v (Y.move rfl rfl) (Wd.g rfl rfl rfl) rfl rfl ?_
                      refine LR.v (Y.neq rfl rfl rfl) (Wd.g rfl rfl rfl) rfl rfl ?_
                      refine LR.v (Y.pick_t rfl rfl rfl) (Wd.u rfl) rfl rfl ?_
                      refine LR.v (Y.move rfl rfl) (Wd.u rfl) rfl rfl ?_
                      refine LR.splitp (d := 68) rfl (fun g68 => ?_) (fun g68 => ?_)
                      ·
                        refine LR.v (Y.move rfl rfl) (Wd.g rfl rfl rfl) rfl rfl ?_
                        refine LR.v (Y.neq rfl rfl rfl) (Wd.g rfl rfl rfl) rfl rfl ?_
                        refine LR.v (Y.pick_t rfl rfl rfl) (Wd.u rfl) rfl rfl ?_
                        refine LR.nil ?_
                        refine hK20 _ _ ?_
                        refine CW.condp rfl (fun c71 => ?_) (fun c71 => ?_)
                        ·
                          refine CW.seq (fun K22 hK22 hE22 => ?_)
                          refine CW.region ?_
                          refine LR.v (Y.assign rfl rfl) (Wd.u rfl) rfl rfl ?_
                          refine LR.nil ?_
                          refine hK22 _ _ ?_
                          refine CW.ret (hE13 .ret nofun (by simp) _ _ (hE12 .ret nofun _ _ (hE9 .ret nofun _ _ (hE8 .ret nofun (by simp) _ _ (hE6 .ret nofun _ _ (hret .ret (.inr rfl) _ _ _ (res1 rfl rfl) ?_))))))
                          exact ⟨congrArg Value.bool (name_no (fun h => by have h9 := (okc_iff2 _).1 (h.2.2 i hil).1; rw [getD_at hil] at h9; simp at *; omega)).symm, hm0⟩
                        ·
                          refine CW.skip ?_
                          refine hK13 _ _ ?_
                          refine QN.sub (hK12 () _ ?_) ⟨rfl, (iv (by omega)), trivial⟩
                          exact ⟨(⟨by rw [getD_at hil]; exact (okc_iff2 _).2 (by simp at *; omega), fun h => hs2 (by rw [getD_at hil] at h; exact h)⟩), hcm12⟩
                      ·
                        refine LR.gs rfl rfl rfl rfl rfl rfl ?_
                        refine LR.gs rfl rfl rfl rfl rfl rfl ?_
                        refine LR.v (Y.pick_f rfl rfl rfl) (Wd.u rfl) rfl rfl ?_
                        refine LR.nil ?_
                        refine hK20 _ _ ?_
                        refine CW.cond_f rfl ?_
                        refine CW.skip ?_
                        refine hK13 _ _ ?_
                        refine QN.sub (hK12 () _ ?_) ⟨rfl, (iv (by omega)), trivial⟩
                        exact ⟨(⟨by rw [getD_at hil]; exact (okc_iff2 _).2 (by simp at *; omega), fun h => hs2 (by rw [getD_at hil] at h; exact h)⟩), hcm12⟩
                    ·
                      refine LR.gs rfl rfl rfl rfl rfl rfl ?_
                      refine LR.gs rfl rfl rfl rfl rfl rfl ?_
                      refine LR.v (Y.pick_f rfl rfl rfl) (Wd.u rfl) rfl rfl ?_
                      refine LR.v (Y.move rfl rfl) (Wd.u rfl) rfl rfl ?_
                      refine LR.gs rfl rfl rfl rfl rfl rfl ?_
                      refine LR.gs rfl rfl rfl rfl rfl rfl ?_
                      refine LR.v (Y.pick_f rfl rfl rfl) (Wd.u rfl) rfl rfl ?_
                      refine LR.nil ?_
                      refine hK20 _ _ ?_
                      refine CW.cond_f rfl ?_
                      refine CW.skip ?_
                      refine hK13 _ _ ?_
                      refine QN.sub (hK12 () _ ?_) ⟨rfl, (iv (by omega)), trivial⟩
                      exact ⟨(⟨by rw [getD_at hil]; exact (okc_iff2 _).2 (by simp at *; omega), fun h => hs2 (by rw [getD_at hil] at h; exact h)⟩), hcm12⟩
                  ·
                    refine LR.gs rfl rfl rfl rfl rfl rfl ?_
                    refine LR.gs rfl rfl rfl rfl rfl rfl ?_
                    refine LR.v (Y.pick_f rfl rfl rfl) (Wd.u rfl) rfl rfl ?_
                    refine LR.v (Y.move rfl rfl) (Wd.u rfl) rfl rfl ?_
                    refine LR.gs rfl rfl rfl rfl rfl rfl ?_
                    refine LR.gs rfl rfl rfl rfl rfl rfl ?_
                    refine LR.v (Y.pick_f rfl rfl rfl) (Wd.u rfl) rfl rfl ?_
                    refine LR.v (Y.move rfl rfl) (Wd.u rfl) rfl rfl ?_
                    refine LR.gs rfl rfl rfl rfl rfl rfl ?_
                    refine LR.gs rfl rfl rfl rfl rfl rfl ?_
                    refine LR.v (Y.pick_f rfl rfl rfl) (Wd.u rfl) rfl rfl ?_
                    refine LR.nil ?_
                    refine hK20 _ _ ?_
                    refine CW.cond_f rfl ?_
                    refine CW.skip ?_
                    refine hK13 _ _ ?_
                    refine QN.sub (hK12 () _ ?_) ⟨rfl, (iv (by omega)), trivial⟩
                    exact ⟨(⟨by rw [getD_at hil]; exact (okc_iff2 _).2 (by simp at *; omega), fun h => hs2 (by rw [getD_at hil] at h; exact h)⟩), hcm12⟩
                ·
                  refine LR.gs rfl rfl rfl rfl rfl rfl ?_
                  refine LR.gs rfl rfl rfl rfl rfl rfl ?_
                  refine LR.v (Y.pick_f rfl rfl rfl) (Wd.u rfl) rfl rfl ?_
                  refine LR.v (Y.move rfl rfl) (Wd.u rfl) rfl rfl ?_
                  refine LR.gs rfl rfl rfl rfl rfl rfl ?_
                  refine LR.gs rfl rfl rfl rfl rfl rfl ?_
                  refine LR.v (Y.pick_f rfl rfl rfl) (Wd.u rfl) rfl rfl ?_
                  refine LR.v (Y.move rfl rfl) (Wd.u rfl) rfl rfl ?_
                  refine LR.gs rfl rfl rfl rfl rfl rfl ?_
                  refine LR.gs rfl rfl rfl rfl rfl rfl ?_
                  refine LR.v (Y.pick_f rfl rfl rfl) (Wd.u rfl) rfl rfl ?_
                  refine LR.v (Y.move rfl rfl) (Wd.u rfl) rfl rfl ?_
                  refine LR.gs rfl rfl rfl rfl rfl rfl ?_
                  refine LR.gs rfl rfl rfl rfl rfl rfl ?_
                  refine LR.v (Y.pick_f rfl rfl rfl) (Wd.u rfl) rfl rfl ?_
                  refine LR.nil ?_
                  refine hK20 _ _ ?_
                  refine CW.cond_f rfl ?_
                  refine CW.skip ?_
                  refine hK13 _ _ ?_
                  refine QN.sub (hK12 () _ ?_) ⟨rfl, (iv (by omega)), trivial⟩
                  exact ⟨(⟨by rw [getD_at hil]; exact (okc_iff2 _).2 (by simp at *; omega), fun h => hs2 (by rw [getD_at hil] at h; exact h)⟩), hcm12⟩
            ·
              refine LR.v (Y.move rfl rfl) (Wd.g rfl rfl rfl) rfl rfl ?_
              refine LR.v (Y.gtr rfl rfl rfl) (Wd.g rfl rfl rfl) rfl rfl ?_
              refine LR.v (Y.pick_f rfl rfl rfl) (Wd.u rfl) rfl rfl ?_
              refine LR.v (Y.move rfl rfl) (Wd.u rfl) rfl rfl ?_
              refine LR.splitp (d := 48) rfl (fun g48 => ?_) (fun g48 => ?_)
              ·
                refine LR.v (Y.move rfl rfl) (Wd.g rfl rfl rfl) rfl rfl ?_
                refine LR.v (Y.lss rfl rfl rfl) (Wd.g rfl rfl rfl) rfl rfl ?_
                refine LR.v (Y.move rfl rfl) (Wd.g rfl rfl rfl) rfl rfl ?_
                refine LR.splitp (d := 51) rfl (fun g51 => ?_) (fun g51 => ?_)
                ·
                  refine LR.gs rfl rfl rfl rfl rfl rfl ?_
                  refine LR.gs rfl rfl rfl rfl rfl rfl ?_
                  refine LR.v (Y.pick_t rfl rfl rfl) (Wd.g rfl rfl rfl) rfl rfl ?_
                  refine LR.v (Y.pick_t rfl rfl rfl) (Wd.u rfl) rfl rfl ?_
                  refine LR.v (Y.move rfl rfl) (Wd.u rfl) rfl rfl ?_
                  refine LR.v (Y.move rfl rfl) (Wd.g rfl rfl rfl) rfl rfl ?_
                  refine LR.v (Y.neq rfl rfl rfl) (Wd.g rfl rfl rfl) rfl rfl ?_
                  refine LR.v (Y.pick_t rfl rfl rfl) (Wd.u rfl) rfl rfl ?_
                  refine LR.v (Y.move rfl rfl) (Wd.u rfl) rfl rfl ?_
                  refine LR.splitp (d := 60) rfl (fun g60 => ?_) (fun g60 => ?_)
                  ·
                    refine LR.v (Y.move rfl rfl) (Wd.g rfl rfl rfl) rfl rfl ?_
                    refine LR.v (Y.neq rfl rfl rfl) (Wd.g rfl rfl rfl) rfl rfl ?_
                    refine LR.v (Y.pick_t rfl rfl rfl) (Wd.u rfl) rfl rfl ?_
                    refine LR.v (Y.move rfl rfl) (Wd.u rfl) rfl rfl ?_
                    refine LR.splitp (d := 64) rfl (fun g64 => ?_) (fun g64 => ?_)
                    ·
                      refine LR.v (Y.move rfl rfl) (Wd.g rfl rfl rfl) rfl rfl ?_
                      refine LR.v (Y.neq rfl rfl rfl) (Wd.g rfl rfl rfl) rfl rfl ?_
                      refine LR.v (Y.pick_t rfl rfl rfl) (Wd.u rfl) rfl rfl ?_
                      refine LR.v (Y.move rfl rfl) (Wd.u rfl) rfl rfl ?_
                      refine LR.splitp (d := 68) rfl (fun g68 => ?_) (fun g68 => ?_)
                      ·
                        refine LR.v (Y.move rfl rfl) (Wd.g rfl rfl rfl) rfl rfl ?_
                        refine LR.v (Y.neq rfl rfl rfl) (Wd.g rfl rfl rfl) rfl rfl ?_
                        refine LR.v (Y.pick_t rfl rfl rfl) (Wd.u rfl) rfl rfl ?_
                        refine LR.nil ?_
                        refine hK20 _ _ ?_
                        refine CW.condp rfl (fun c71 => ?_) (fun c71 => ?_)
                        ·
                          refine CW.seq (fun K23 hK23 hE23 => ?_)
                          refine CW.region ?_
                          refine LR.v (Y.assign rfl rfl) (Wd.u rfl) rfl rfl ?_
                          refine LR.nil ?_
                          refine hK23 _ _ ?_
                          refine CW.ret (hE13 .ret nofun (by simp) _ _ (hE12 .ret nofun _ _ (hE9 .ret nofun _ _ (hE8 .ret nofun (by simp) _ _ (hE6 .ret nofun _ _ (hret .ret (.inr rfl) _ _ _ (res1 rfl rfl) ?_))))))
                          exact ⟨congrArg Value.bool (name_no (fun h => by have h9 := (okc_iff2 _).1 (h.2.2 i hil).1; rw [getD_at hil] at h9; simp at *; omega)).symm, hm0⟩
                        ·
                          refine CW.skip ?_
                          refine hK13 _ _ ?_
                          refine QN.sub (hK12 () _ ?_) ⟨rfl, (iv (by omega)), trivial⟩
                          exact ⟨(⟨by rw [getD_at hil]; exact (okc_iff2 _).2 (by simp at *; omega), fun h => hs2 (by rw [getD_at hil] at h; exact h)⟩), hcm12⟩
                      ·
                        refine LR.gs rfl rfl rfl rfl rfl rfl ?_
                        refine LR.gs rfl rfl rfl rfl rfl rfl ?_
                        refine LR.v (Y.pick_f rfl rfl rfl) (Wd.u rfl) rfl rfl ?_
                        refine LR.nil ?_
                        refine hK20 _ _ ?_
                        refine CW.cond_f rfl ?_
                        refine CW.skip ?_
                        refine hK13 _ _ ?_
                        refine QN.sub (hK12 () _ ?_) ⟨rfl, (iv (by omega)), trivial⟩
                        exact ⟨(⟨by rw [getD_at hil]; exact (okc_iff2 _).2 (by simp at *; omega), fun h => hs2 (by rw [getD_at hil] at h; exact h)⟩), hcm12⟩
                    ·
                      refine LR.gs rfl rfl rfl rfl rfl rfl ?_
                      refine LR.gs rfl rfl rfl rfl rfl rfl ?_
                      refine LR.v (Y.pick_f rfl rfl rfl) (Wd.u rfl) rfl rfl ?_
                      refine LR.v (Y.move rfl rfl) (Wd.u rfl) rfl rfl ?_
                      refine LR.gs rfl rfl rfl rfl rfl rfl ?_
                      refine LR.gs rfl rfl rfl rfl rfl rfl ?_
                      refine LR.v (Y.pick_f rfl rfl rfl) (Wd.u rfl) rfl rfl ?_
                      refine LR.nil ?_
                      refine hK20 _ _ ?_
                      refine CW.cond_f rfl ?_
                      refine CW.skip ?_
                      refine hK13 _ _ ?_
                      refine QN.sub (hK12 () _ ?_) ⟨rfl, (iv (by omega)), trivial⟩
                      exact ⟨(⟨by rw [getD_at hil]; exact (okc_iff2 _).2 (by simp at *; omega), fun h => hs2 (by rw [getD_at hil] at h; exact h)⟩), hcm12⟩
                  ·
                    refine LR.gs rfl rfl rfl rfl rfl rfl ?_
                    refine LR.gs rfl rfl rfl rfl rfl rfl ?_
                    refine LR.v (Y.pick_f rfl rfl rfl) (Wd.u rfl) rfl rfl ?_
                    refine LR.v (Y.move rfl rfl) (Wd.u rfl) rfl rfl ?_
                    refine LR.gs rfl rfl rfl rfl rfl rfl ?_
                    refine LR.gs rfl rfl rfl rfl rfl rfl ?_
                    refine LR.v (Y.pick_f rfl rfl rfl) (Wd.u rfl) rfl rfl ?_
                    refine LR.v (Y.move rfl rfl) (Wd.u rfl) rfl rfl ?_
                    refine LR.gs rfl rfl rfl rfl rfl rfl ?_
                    refine LR.gs rfl rfl rfl rfl rfl rfl ?_
                    refine LR.v (Y.pick_f rfl rfl rfl) (Wd.u rfl) rfl rfl ?_
                    refine LR.nil ?_
                    refine hK20 _ _ ?_
                    refine CW.cond_f rfl ?_
                    refine CW.skip ?_
                    refine hK13 _ _ ?_
                    refine QN.sub (hK12 () _ ?_) ⟨rfl, (iv (by omega)), trivial⟩
                    exact ⟨(⟨by rw [getD_at hil]; exact (okc_iff2 _).2 (by simp at *; omega), fun h => hs2 (by rw [getD_at hil] at h; exact h)⟩), hcm12⟩
                ·
                  refine LR.v (Y.move rfl rfl) (Wd.g rfl rfl rfl) rfl rfl ?_
                  refine LR.v (Y.gtr rfl rfl rfl) (Wd.g rfl rfl rfl) rfl rfl ?_
                  refine LR.v (Y.pick_f rfl rfl rfl) (Wd.g rfl rfl rfl) rfl rfl ?_
                  refine LR.v (Y.pick_t rfl rfl rfl) (Wd.u rfl) rfl rfl ?_
                  refine LR.v (Y.move rfl rfl) (Wd.u rfl) rfl rfl ?_
                  refine LR.splitp (d := 56) rfl (fun g56 => ?_) (fun g56 => ?_)
                  ·
                    refine LR.v (Y.move rfl rfl) (Wd.g rfl rfl rfl) rfl rfl ?_
                    refine LR.v (Y.neq rfl rfl rfl) (Wd.g rfl rfl rfl) rfl rfl ?_
                    refine LR.v (Y.pick_t rfl rfl rfl) (Wd.u rfl) rfl rfl ?_
                    refine LR.v (Y.move rfl rfl) (Wd.u rfl) rfl rfl ?_
                    refine LR.splitp (d := 60) rfl (fun g60 => ?_) (fun g60 => ?_)
                    ·
                      refine LR.v (Y.move rfl rfl) (Wd.g rfl rfl rfl) rfl rfl ?_
                      refine LR.v (Y.neq rfl rfl rfl) (Wd.g rfl rfl rfl) rfl rfl ?_
                      refine LR.v (Y.pick_t rfl rfl rfl) (Wd.u rfl) rfl rfl ?_
                      refine LR.v (Y.move rfl rfl) (Wd.u rfl) rfl rfl ?_
                      refine LR.splitp (d := 64) rfl (fun g64 => ?_) (fun g64 => ?_)
                      ·
                        refine LR.v (Y.move rfl rfl) (Wd.g rfl rfl rfl) rfl rfl ?_
                        refine LR.v (Y.neq rfl rfl rfl) (Wd.g rfl rfl rfl) rfl rfl ?_
                        refine LR.v (Y.pick_t rfl rfl rfl) (Wd.u rfl) rfl rfl ?_
                        refine LR.v (Y.move rfl rfl) (Wd.u rfl) rfl rfl ?_
                        refine LR.splitp (d := 68) rfl (fun g68 => ?_) (fun g68 => ?_)
                        ·
                          refine LR.v (Y.move rfl rfl) (Wd.g rfl rfl rfl) rfl rfl ?_
                          refine LR.v (Y.neq rfl rfl rfl) (Wd.g rfl rfl rfl) rfl rfl ?_
                          refine LR.v (Y.pick_t rfl rfl rfl) (Wd.u rfl) rfl rfl ?_
                          refine LR.nil ?_
                          refine hK20 _ _ ?_
                          refine CW.condp rfl (fun c71 => ?_) (fun c71 => ?_)
                          ·
                            refine CW.seq (fun K24 hK24 hE24 => ?_)
                            refine CW.region ?_
                            refine LR.v (Y.assign rfl rfl) (Wd.u rfl) rfl rfl ?_
                            refine LR.nil ?_
                            refine hK24 _ _ ?_
                            refine CW.ret (hE13 .ret nofun (by simp) _ _ (hE12 .ret nofun _ _ (hE9 .ret nofun _ _ (hE8 .ret nofun (by simp) _ _ (hE6 .ret nofun _ _ (hret .ret (.inr rfl) _ _ _ (res1 rfl rfl) ?_))))))
                            exact ⟨congrArg Value.bool (name_no (fun h => by have h9 := (okc_iff2 _).1 (h.2.2 i hil).1; rw [getD_at hil] at h9; simp at *; omega)).symm, hm0⟩
                          ·
                            refine CW.skip ?_
                            refine hK13 _ _ ?_
                            refine QN.sub (hK12 () _ ?_) ⟨rfl, (iv (by omega)), trivial⟩
                            exact ⟨(⟨by rw [getD_at hil]; exact (okc_iff2 _).2 (by simp at *; omega), fun h => hs2 (by rw [getD_at hil] at h; exact h)⟩), hcm12⟩
                        ·
                          refine LR.gs rfl rfl rfl rfl rfl rfl ?_
                          refine LR.gs rfl rfl rfl rfl rfl rfl ?_
                          refine LR.v (Y.pick_f rfl rfl rfl) (Wd.u rfl) rfl rfl ?_
                          refine LR.nil ?_
                          refine hK20 _ _ ?_
                          refine CW.cond_f rfl ?_
                          refine CW.skip ?_
                          refine hK13 _ _ ?_
                          refine QN.sub (hK12 () _ ?_) ⟨rfl, (iv (by omega)), trivial⟩
                          exact ⟨(⟨by rw [getD_at hil]; exact (okc_iff2 _).2 (by simp at *; omega), fun h => hs2 (by rw [getD_at hil] at h; exact h)⟩), hcm12⟩
                      ·
                        refine LR.gs rfl rfl rfl rfl rfl rfl ?_
                        refine LR.gs rfl rfl rfl rfl rfl rfl ?_
                        refine LR.v (Y.pick_f rfl rfl rfl) (Wd.u rfl) rfl rfl ?_
                        refine LR.v (Y.move rfl rfl) (Wd.u rfl) rfl rfl ?_
                        refine LR.gs rfl rfl rfl rfl rfl rfl ?_
                        refine LR.gs rfl rfl rfl rfl rfl rfl ?_
                        refine LR.v (Y.pick_f rfl rfl rfl) (Wd.u rfl) rfl rfl ?_
                        refine LR.nil ?_
                        refine hK20 _ _ ?_
                        refine CW.cond_f rfl ?_
                        refine CW.skip ?_
                        refine hK13 _ _ ?_
                        refine QN.sub (hK12 () _ ?_) ⟨rfl, (iv (by omega)), trivial⟩
                        exact ⟨(⟨by rw [getD_at hil]; exact (okc_iff2 _).2 (by simp at *; omega), fun h => hs2 (by rw [getD_at hil] at h; exact h)⟩), hcm12⟩
                    ·
                      refine LR.gs rfl rfl rfl rfl rfl rfl ?_
                      refine LR.gs rfl rfl rfl rfl rfl rfl ?_
                      refine LR.v (Y.pick_f rfl rfl rfl) (Wd.u rfl) rfl rfl ?_
                      refine LR.v (Y.move rfl rfl) (Wd.u rfl) rfl rfl ?_
                      refine LR.gs rfl rfl rfl rfl rfl rfl ?_
                      refine LR.gs rfl rfl rfl rfl rfl rfl ?_
                      refine LR.v (Y.pick_f rfl rfl rfl) (Wd.u rfl) rfl rfl ?_
                      refine LR.v (Y.move rfl rfl) (Wd.u rfl) rfl rfl ?_
                      refine LR.gs rfl rfl rfl rfl rfl rfl ?_
                      refine LR.gs rfl rfl rfl rfl rfl rfl ?_
                      refine LR.v (Y.pick_f rfl rfl rfl) (Wd.u rfl) rfl rfl ?_
                      refine LR.nil ?_
                      refine hK20 _ _ ?_
                      refine CW.cond_f rfl ?_
                      refine CW.skip ?_
                      refine hK13 _ _ ?_
                      refine QN.sub (hK12 () _ ?_) ⟨rfl, (iv (by omega)), trivial⟩
                      exact ⟨(⟨by rw [getD_at hil]; exact (okc_iff2 _).2 (by simp at *; omega), fun h => hs2 (by rw [getD_at hil] at h; exact h)⟩), hcm12⟩
                  ·
                    refine LR.gs rfl rfl rfl rfl rfl rfl ?_
                    refine LR.gs rfl rfl rfl rfl rfl rfl ?_
                    refine LR.v (Y.pick_f rfl rfl rfl) (Wd.u rfl) rfl rfl ?_
                    refine LR.v (Y.move rfl rfl) (Wd.u rfl) rfl rfl ?_
                    refine LR.gs rfl rfl rfl rfl rfl rfl ?_
                    refine LR.gs rfl rfl rfl rfl rfl rfl ?_
                    refine LR.v (Y.pick_f rfl rfl rfl) (Wd.u rfl) rfl rfl ?_
                    refine LR.v (Y.move rfl rfl) (Wd.u rfl) rfl rfl ?_
                    refine LR.gs rfl rfl rfl rfl rfl rfl ?_
                    refine LR.gs rfl rfl rfl rfl rfl rfl ?_
                    refine LR.v (Y.pick_f rfl rfl rfl) (Wd.u rfl) rfl rfl ?_
                    refine LR.v (Y.move rfl rfl) (Wd.u rfl) rfl rfl ?_
                    refine LR.gs rfl rfl rfl rfl rfl rfl ?_
                    refine LR.gs rfl rfl rfl rfl rfl rfl ?_
                    refine LR.v (Y.pick_f rfl rfl rfl) (Wd.u rfl) rfl rfl ?_
                    refine LR.nil ?_
                    refine hK20 _ _ ?_
                    refine CW.cond_f rfl ?_
                    refine CW.skip ?_
                    refine hK13 _ _ ?_
                    refine QN.sub (hK12 () _ ?_) ⟨rfl, (iv (by omega)), trivial⟩
                    exact ⟨(⟨by rw [getD_at hil]; exact (okc_iff2 _).2 (by simp at *; omega), fun h => hs2 (by rw [getD_at hil] at h; exact h)⟩), hcm12⟩
              ·
                refine LR.gs rfl rfl rfl rfl rfl rfl ?_
                refine LR.gs rfl rfl rfl rfl rfl rfl ?_
                refine LR.gs rfl rfl rfl rfl rfl rfl ?_
                refine LR.gsu rfl rfl rfl rfl rfl ?_
                refine LR.gsu rfl rfl rfl rfl rfl ?_
                refine LR.gs rfl rfl rfl rfl rfl rfl ?_
                refine LR.v (Y.pick_f rfl rfl rfl) (Wd.u rfl) rfl rfl ?_
                refine LR.v (Y.move rfl rfl) (Wd.u rfl) rfl rfl ?_
                refine LR.gs rfl rfl rfl rfl rfl rfl ?_
                refine LR.gs rfl rfl rfl rfl rfl rfl ?_
                refine LR.v (Y.pick_f rfl rfl rfl) (Wd.u rfl) rfl rfl ?_
                refine LR.v (Y.move rfl rfl) (Wd.u rfl) rfl rfl ?_
                refine LR.gs rfl rfl rfl rfl rfl rfl ?_
                refine LR.gs rfl rfl rfl rfl rfl rfl ?_
                refine LR.v (Y.pick_f rfl rfl rfl) (Wd.u rfl) rfl rfl ?_
                refine LR.v (Y.move rfl rfl) (Wd.u rfl) rfl rfl ?_
                refine LR.gs rfl rfl rfl rfl rfl rfl ?_
                refine LR.gs rfl rfl rfl rfl rfl rfl ?_
                refine LR.v (Y.pick_f rfl rfl rfl) (Wd.u rfl) rfl rfl ?_
                refine LR.v (Y.move rfl rfl) (Wd.u rfl) rfl rfl ?_
                refine LR.gs rfl rfl rfl rfl rfl rfl ?_
                refine LR.gs rfl rfl rfl rfl rfl rfl ?_
                refine LR.v (Y.pick_f rfl rfl rfl) (Wd.u rfl) rfl rfl ?_
                refine LR.nil ?_
                refine hK20 _ _ ?_
                refine CW.cond_f rfl ?_
                refine CW.skip ?_
                refine hK13 _ _ ?_
                refine QN.sub (hK12 () _ ?_) ⟨rfl, (iv (by omega)), trivial⟩
                exact ⟨(⟨by rw [getD_at hil]; exact (okc_iff2 _).2 (by simp at *; omega), fun h => hs2 (by rw [getD_at hil] at h; exact h)⟩), hcm12⟩
        ·
          intro _ Hcut1 hIcut1
          obtain ⟨hci, hlmcut1⟩ := hIcut1
          replace hm0 := hm0.tr hlmcut1
          replace hlm1 := hlm1.tr hlmcut1
          have hz3 := hlmcut1.size
          refine CW.region ?_
          refine LR.v (Y.move rfl rfl) (Wd.u rfl) rfl rfl ?_
          refine LR.v (Y.addi rfl rfl rfl (by omega)) (Wd.u rfl) rfl rfl ?_
          refine LR.v (Y.assign rfl rfl) (Wd.u rfl) rfl rfl ?_
          refine LR.nil ?_
          refine QN.sub (hN9 (i + 1) _ ?_ ?_) ⟨rfl, (iv (by omega)), trivial⟩
          · exact ⟨(by omega), (fun q h h2 => by rcases Nat.lt_or_ge q i with h5 | h5; exact hok q h h5; (obtain rfl : q = i := by omega); exact hci), hlm1⟩
          · first | omega | (simp only; omega) | (simp; omega)
      ·
        refine CW.exit (hE10 (.exit 0) nofun _ _ (hE9 (.exit 0) nofun _ _ (hX8 _ _ ?_)))
        refine hK6 _ _ ?_
        refine CW.seq (fun K25 hK25 hE25 => ?_)
        refine CW.region ?_
        refine LR.v (Y.assign rfl rfl) (Wd.u rfl) rfl rfl ?_
        refine LR.nil ?_
        refine hK25 _ _ ?_
        refine CW.ret (hret .ret (.inr rfl) _ _ _ (res1 rfl rfl) ?_)
        obtain rfl : i = l.length := by omega
        exact ⟨congrArg Value.bool ((name_iff2 l).2 ⟨by omega, by omega, fun q h => hok q h h⟩).symm, hm0⟩

theorem rdir0_ct (l : List UInt8) (w0 : World) (H0 : Heap)
     :
    Ct Tryd.prog w0 15 #[Str l] H0 (fun r H2 => r = Str (dirP l) ∧ Nw H0 H2) := by
  refine Ct.enter (args := [Str l]) Tryd.func15 rfl rfl rfl ?_
  intro Q0 hret
  have hm0 : Nw H0 H0 := Mo.refl _ _
  refine CW.seq (fun K1 hK1 hE1 => ?_)
  refine CW.region ?_
  refine LR.v (Y.assign rfl rfl) (Wd.u rfl) rfl rfl ?_
  refine LR.nil ?_
  refine hK1 _ _ ?_
  refine CW.seq (fun K2 hK2 hE2 => ?_)
  refine CW.seq (fun K3 hK3 hE3 => ?_)
  refine CW.region ?_
  refine LR.v (Y.move rfl rfl) (Wd.u rfl) rfl rfl ?_
  -- call selvage/selvageref2.Name
  refine LR.call rfl Tryd.call13 rfl (Wd.u rfl) rfl rfl (rname0_ct l w0 _) (fun v5 H5 r5 => ?_)
  obtain ⟨rfl, hs5⟩ := r5
  replace hm0 := hm0.tr hs5
  have hz1 := hs5.size
  refine LR.v (Y.not rfl rfl) (Wd.u rfl) rfl rfl ?_
  refine LR.nil ?_
  refine hK3 _ _ ?_
  refine CW.cond rfl (fun c6 => ?_) (fun c6 => ?_)
  ·
    refine CW.seq (fun K4 hK4 hE4 => ?_)
    refine CW.region ?_
    refine LR.v (Y.assign rfl rfl) (Wd.u rfl) rfl rfl ?_
    refine LR.nil ?_
    refine hK4 _ _ ?_
    refine CW.ret (hE2 .ret nofun _ _ (hret .ret (.inr rfl) _ _ _ (res1 rfl rfl) ?_))
    exact ⟨by rw [dirP, if_neg (by simpa using c6)]; rfl, hm0⟩
  ·
    have hl6 := nameB_len (l := l) (by simpa using c6)
    refine CW.skip ?_
    refine hK2 _ _ ?_
    refine CW.seq (fun K5 hK5 hE5 => ?_)
    refine CW.seq (fun K6 hK6 hE6 => ?_)
    refine CW.region ?_
    refine LR.v (Y.move rfl rfl) (Wd.u rfl) rfl rfl ?_
    refine LR.v (Y.slen rfl Tryd.runUnderlying9 rfl) (Wd.u rfl) rfl rfl ?_
    refine LR.v (Y.cast (v2 := .int .i64 ((l.length : Nat) - 1 : Int)) (Y.subi rfl rfl rfl (by omega)) (rfl)) (Wd.u rfl) rfl rfl ?_
    refine LR.v (Y.assign rfl rfl) (Wd.u rfl) rfl rfl ?_
    refine LR.nil ?_
    refine hK6 _ _ ?_
    refine CW.block (fun K7 hK7 hX7 hE7 => ?_)
    refine CW.loop (fun (k : (Nat)) => [(0, Str l), (3, .int .i64 ((k : Int) - 1))])
      (fun (k : (Nat)) (H : Heap) => (k ≤ l.length) ∧ (∀ q, q < l.length → k ≤ q → (l.getD q 0).toNat ≠ 47) ∧ Nw H5 H)
      (fun (k : (Nat)) => k) l.length ⟨rfl, rfl, trivial⟩ ?_ ?_
    ·
      exact ⟨(by omega), fun q h h2 => absurd h2 (by omega), Mo.refl _ _⟩
    intro k HL1 hI1 K8 hN8 hE8
    obtain ⟨hk, hno, hlm1⟩ := hI1
    replace hm0 := hm0.tr hlm1
    have hz2 := hlm1.size
    refine CW.seq (fun K9 hK9 hE9 => ?_)
    refine CW.seq (fun K10 hK10 hE10 => ?_)
    refine CW.region ?_
    refine LR.v (Y.move rfl rfl) (Wd.u rfl) rfl rfl ?_
    refine LR.v (Y.geq rfl rfl rfl) (Wd.u rfl) rfl rfl ?_
    refine LR.nil ?_
    refine hK10 _ _ ?_
    refine CW.condp rfl (fun c11 => ?_) (fun c11 => ?_)
    ·
      have hkl : k - 1 < l.length := by omega
      refine CW.skip ?_
      refine hK9 _ _ ?_
      refine CW.seq (fun K11 hK11 hE11 => ?_)
      refine CW.block (fun K12 hK12 hX12 hE12 => ?_)
      refine CW.seq (fun K13 hK13 hE13 => ?_)
      refine CW.region ?_
      refine LR.v (Y.move rfl rfl) (Wd.u rfl) rfl rfl ?_
      refine LR.v (Y.move rfl rfl) (Wd.u rfl) rfl rfl ?_
      refine LR.v (Y.sindex (k - 1) rfl Tryd.runUnderlying9 rfl rfl (by first | rfl | omega) (by omega)) (Wd.u rfl) rfl rfl ?_
      refine LR.v (Y.eql rfl rfl rfl) (Wd.u rfl) rfl rfl ?_
      refine LR.nil ?_
      refine hK13 _ _ ?_
      refine CW.condp rfl (fun c17 => ?_) (fun c17 => ?_)
      ·
        refine CW.seq (fun K14 hK14 hE14 => ?_)
        refine CW.region ?_
        refine LR.v (Y.move rfl rfl) (Wd.u rfl) rfl rfl ?_
        refine LR.v (Y.move rfl rfl) (Wd.u rfl) rfl rfl ?_
        refine LR.v (Y.sslice (0) (k - 1) rfl Tryd.runUnderlying9 rfl (.inl ⟨rfl, rfl⟩) (.inr ⟨_, _, _, rfl, rfl, (by omega)⟩) (by omega) (by omega)) (Wd.u rfl) rfl rfl ?_
        refine LR.v (Y.assign rfl rfl) (Wd.u rfl) rfl rfl ?_
        refine LR.nil ?_
        refine hK14 _ _ ?_
        refine CW.ret (hE12 .ret nofun (by simp) _ _ (hE11 .ret nofun _ _ (hE8 .ret nofun _ _ (hE7 .ret nofun (by simp) _ _ (hE5 .ret nofun _ _ (hret .ret (.inr rfl) _ _ _ (res1 rfl rfl) ?_))))))
        exact ⟨by rw [dirP, if_pos (by simpa using c6), head_at hkl (nat47.1 (by omega)) (fun q h h2 => hno q h (by omega))]; simp, hm0⟩
      ·
        refine CW.skip ?_
        refine hK12 _ _ ?_
        refine hK11 _ _ ?_
        refine CW.region ?_
        refine LR.v (Y.move rfl rfl) (Wd.u rfl) rfl rfl ?_
        refine LR.v (Y.subi rfl rfl rfl (by omega)) (Wd.u rfl) rfl rfl ?_
        refine LR.v (Y.assign rfl rfl) (Wd.u rfl) rfl rfl ?_
        refine LR.nil ?_
        refine QN.sub (hN8 (k - 1) _ ?_ ?_) ⟨rfl, (iv (by omega)), trivial⟩
        · exact ⟨(by omega), fun q h h2 => by
            by_cases h3 : k ≤ q
            · exact hno q h h3
            · obtain rfl : q = k - 1 := by omega
              rw [getD_at hkl]; omega, hlm1⟩
        · first | omega | (simp only; omega) | (simp; omega)
    ·
      refine CW.exit (hE9 (.exit 0) nofun _ _ (hE8 (.exit 0) nofun _ _ (hX7 _ _ ?_)))
      refine hK5 _ _ ?_
      refine CW.seq (fun K15 hK15 hE15 => ?_)
      refine CW.region ?_
      refine LR.v (Y.assign rfl rfl) (Wd.u rfl) rfl rfl ?_
      refine LR.nil ?_
      refine hK15 _ _ ?_
      refine CW.ret (hret .ret (.inr rfl) _ _ _ (res1 rfl rfl) ?_)
      exact ⟨by rw [dirP, if_pos (by simpa using c6), head_no (fun q h => hno q h (by omega))]; rfl, hm0⟩

theorem names0_ct (mx_ : Int) (s : List UInt8) (w0 : World) (H0 : Heap)
    (mx : MX mx_ H0) (bf_mx : BF (fun b => b = 0) H0.size) :
    Ct Tryd.prog w0 3 #[Str s] H0 (fun r H2 => r = .bool true ∧ Nw H0 H2) := by
  refine Ct.enter (args := [Str s]) Tryd.func3 rfl rfl rfl ?_
  intro Q0 hret
  have hm0 : Nw H0 H0 := Mo.refl _ _
  refine CW.seq (fun K1 hK1 hE1 => ?_)
  refine CW.region ?_
  refine LR.v (Y.assign rfl rfl) (Wd.u rfl) rfl rfl ?_
  refine LR.nil ?_
  refine hK1 _ _ ?_
  refine CW.seq (fun K2 hK2 hE2 => ?_)
  refine CW.region ?_
  -- call selvage/selvagelaw2.known
  refine LR.call rfl Tryd.call11 rfl (Wd.u rfl) rfl rfl (known_ct mx_ w0 _ mx bf_mx) (fun v3 H3 r3 => ?_)
  obtain ⟨rfl, hs3⟩ := r3
  replace mx := mx.nw hs3
  replace hm0 := hm0.tr hs3
  have hz1 := hs3.size
  refine LR.v (Y.move rfl rfl) (Wd.u rfl) rfl rfl ?_
  refine LR.v (Y.move rfl rfl) (Wd.g rfl rfl rfl) rfl rfl ?_
  -- call selvage/simfs.Name
  refine LR.call rfl Tryd.call12 rfl (Wd.g rfl rfl rfl) rfl rfl (name0_ct mx_ s w0 _ mx (bf_mx.mono (by omega))) (fun v6 H6 r6 => ?_)
  obtain ⟨rfl, hs6⟩ := r6
  replace mx := mx.nw hs6
  replace hm0 := hm0.tr hs6
  have hz2 := hs6.size
  refine LR.v (Y.move rfl rfl) (Wd.g rfl rfl rfl) rfl rfl ?_
  -- call selvage/selvageref2.Name
  refine LR.call rfl Tryd.call13 rfl (Wd.g rfl rfl rfl) rfl rfl (rname0_ct s w0 _) (fun v8 H8 r8 => ?_)
  obtain ⟨rfl, hs8⟩ := r8
  replace mx := mx.nw hs8
  replace hm0 := hm0.tr hs8
  have hz3 := hs8.size
  refine LR.v ((Y.beql rfl Tryd.underlying4 rfl rfl).isT (rfl)) (Wd.g rfl rfl rfl) rfl rfl ?_
  refine LR.v (Y.pick_t rfl rfl rfl) (Wd.u rfl) rfl rfl ?_
  refine LR.v (Y.move rfl rfl) (Wd.u rfl) rfl rfl ?_
  refine LR.v (Y.move rfl rfl) (Wd.g rfl rfl rfl) rfl rfl ?_
  -- call selvage/simfs.Dir
  refine LR.call rfl Tryd.call14 rfl (Wd.g rfl rfl rfl) rfl rfl (dir0_ct mx_ s w0 _ mx (bf_mx.mono (by omega))) (fun v13 H13 r13 => ?_)
  obtain ⟨rfl, hs13⟩ := r13
  replace mx := mx.nw hs13
  replace hm0 := hm0.tr hs13
  have hz4 := hs13.size
  refine LR.v (Y.move rfl rfl) (Wd.g rfl rfl rfl) rfl rfl ?_
  -- call selvage/selvageref2.Dir
  refine LR.call rfl Tryd.call15 rfl (Wd.g rfl rfl rfl) rfl rfl (rdir0_ct s w0 _) (fun v15 H15 r15 => ?_)
  obtain ⟨rfl, hs15⟩ := r15
  replace mx := mx.nw hs15
  replace hm0 := hm0.tr hs15
  have hz5 := hs15.size
  refine LR.v ((Y.seql rfl rfl rfl).isT (rfl)) (Wd.g rfl rfl rfl) rfl rfl ?_
  refine LR.v (Y.pick_t rfl rfl rfl) (Wd.u rfl) rfl rfl ?_
  refine LR.v (Y.assign rfl rfl) (Wd.u rfl) rfl rfl ?_
  refine LR.nil ?_
  refine hK2 _ _ ?_
  refine CW.ret (hret .ret (.inr rfl) _ _ _ (res1 rfl rfl) ?_)
  exact ⟨rfl, hm0⟩

end Go.Proofs.YtfbfjhppppoilaaDoor.SimXN
