/-
  Sequences: what is wrong with one, by the document; tables of nothing.
-/
import Derived.Test.YtabopjdbgkhacaaDoorSeqB
namespace Go.Proofs.YtabopjdbgkhacaaDoor.SeqC
open Go.Proofs.YtabopjdbgkhacaaDoor.E Go.RowKit Go.Proofs.YtabopjdbgkhacaaDoor.NamA Go.Proofs.YtabopjdbgkhacaaDoor.NamB Go.Proofs.YtabopjdbgkhacaaDoor.NamC Go.Proofs.YtabopjdbgkhacaaDoor.NamD Go.Proofs.YtabopjdbgkhacaaDoor.SeqA Go.Proofs.YtabopjdbgkhacaaDoor.SeqB
set_option maxRecDepth 20000
set_option linter.unusedVariables false
set_option linter.unusedSimpArgs false
set_option linter.unusedSectionVars false

theorem todoE_at : ∀ {l : List Td} {i : Nat} (_ : todoE (l.take i) = 0) (hi : i < l.length) (_ : stepE l[i] ≠ 0), todoE l = stepE l[i]
  | [], _, _, hi, _ => by simp at hi
  | t :: l, 0, _, _, h => by have h' : stepE t ≠ 0 := h; rw [todoE, if_pos h']; rfl
  | t :: l, i + 1, h, hi, h2 => by
    rw [List.take_succ_cons, todoE] at h
    have h0 : stepE t = 0 := by
      by_cases e : stepE t ≠ 0
      · rw [if_pos e] at h; exact h
      · simpa using e
    rw [if_neg (by simpa using h0)] at h
    rw [todoE, if_neg (by simpa using h0)]
    exact todoE_at h (by simpa using hi) h2
theorem todoE_next {l : List Td} {i : Nat} (h : todoE (l.take i) = 0) (hi : i < l.length) (h2 : stepE l[i] = 0) : todoE (l.take (i + 1)) = 0 := by
  rw [todoE_take hi, h]; simpa using h2
theorem seqE_td {x : Sq} (h1 : x.k = 1 ∨ x.k = 2) (h2 : chk x.br = 0) (h3 : argB x = true) (h4 : ¬ 100 < x.td.length) : seqE x = todoE x.td := by
  unfold seqE
  rw [if_neg (fun h => h h1), if_neg (by simpa using h2), if_neg (by rw [h3]; decide), if_neg h4]
theorem argFalse {x : Sq} (h : ¬ (¬ x.og = Z32 ∧ ¬ x.cu = Z32 ∧ 0 ≤ x.dn ∧ x.dn ≤ x.td.length ∧ 0 ≤ x.md ∧ x.md ≤ x.dn ∧ ¬ (x.st = true ∧ x.dn = x.td.length))) : true = !argB x := by
  rw [show argB x = false from decide_eq_false h]; rfl
theorem stepE_ok {t : Td} (h1 : 1 ≤ t.d) (h2 : t.d ≤ 3) (h3 : ¬ t.i = Z32) : stepE t = 0 := by unfold stepE; rw [if_neg (fun h => h ⟨h1, h2⟩), if_neg h3]
theorem stepE_3 {t : Td} (h1 : ¬ (1 ≤ t.d ∧ t.d ≤ 3)) : stepE t = 3 := by unfold stepE; rw [if_pos h1]
theorem stepE_1 {t : Td} (h1 : 1 ≤ t.d) (h2 : t.d ≤ 3) (h3 : t.i = Z32) : stepE t = 1 := by unfold stepE; rw [if_neg (fun h => h ⟨h1, h2⟩), if_pos h3]
theorem seqE_bad {x : Sq} {i : Nat} {e : Int} (h1 : x.k = 1 ∨ x.k = 2) (h2 : chk x.br = 0) (h3 : argB x = true) (h4 : ¬ 100 < x.td.length) (he : todoE (x.td.take i) = 0) (hi : i < x.td.length) (hs : stepE x.td[i] = e) (h0 : e ≠ 0) : seqE x = e := by
  rw [seqE_td h1 h2 h3 h4, todoE_at he hi (by rw [hs]; exact h0), hs]
def sqChk (x : Sq) : Int := if x.k = 0 then 23 else if seqE x ≠ 0 then seqE x else if x.dn = x.td.length then 1 else 0

set_option maxHeartbeats 4000000 in
theorem rseq_ct (x : Sq) (w0 : World) (H0 : Heap)
    (hl : RdT H0 fT 33 x.tv.v x.td) (hw : SqW x) :
    Ct Tryd.prog w0 20 #[qv x] H0 (fun r H2 => r = .int .i64 (seqE x) ∧ Nw H0 H2) := by
  refine Ct.enter (args := [qv x]) Tryd.func20 rfl rfl rfl ?_
  intro Q0 hret
  have hm0 : Nw H0 H0 := Mo.refl _ _
  replace hl := hl.bnd
  have bf_hl := Rd.bf hl
  have hll := hl.len
  refine CW.seq (fun K1 hK1 hE1 => ?_)
  refine CW.region ?_
  refine LR.z (Z.boxv rfl rfl) (Wd.u rfl) rfl rfl (fun v1 H1 r1 => ?_)
  obtain ⟨rfl, va, hs1, ob1, hH1⟩ := r1
  have hzs1 : H1.size = H0.size + 1 := by rw [hH1]; simp
  have df1 := (DF.new (bf_hl.mono hm0.size) : DF _ (H0.size + 1))
  have nx2 : Nx 0 H0.size (H0.size + 1) := Nx.new hm0.size
  replace hl := hl.nw hs1
  replace hm0 := hm0.tr hs1
  have hz1 := hs1.size
  replace va : Var 26 H1 H0.size (fQ x) := va
  refine LR.v (Y.assign rfl rfl) (Wd.u rfl) rfl rfl ?_
  refine LR.nil ?_
  refine hK1 _ _ ?_
  refine CW.seq (fun K2 hK2 hE2 => ?_)
  refine CW.cut (fun (kb : (Bool)) => [(1, .pointer (some ⟨H0.size, 0, none⟩)), (11, .bool kb)])
    (fun (kb : (Bool)) (H : Heap) => (kb = false ↔ (x.k = 1 ∨ x.k = 2)) ∧ Nw H1 H) (fun K3 hK3 hE3 => ?_) ?_
  ·
    have hcm3 : Nw H1 H1 := Mo.refl _ _
    refine CW.region ?_
    refine LR.v (Y.fieldAddr va.pt rfl Tryd.runUnderlying26 rfl rfl Tryd.sizeOf3 (by decide) rfl) (Wd.u rfl) rfl rfl ?_
    refine LR.v (Y.load1 va.pt rfl Tryd.isAgg3 rfl) (Wd.u rfl) rfl rfl ?_
    refine LR.v (Y.neq rfl rfl rfl) (Wd.u rfl) rfl rfl ?_
    refine LR.v (Y.move rfl rfl) (Wd.u rfl) rfl rfl ?_
    refine LR.splitp (d := 7) rfl (fun g7 => ?_) (fun g7 => ?_)
    ·
      refine LR.v (Y.fieldAddr va.pt rfl Tryd.runUnderlying26 rfl rfl Tryd.sizeOf3 (by decide) rfl) (Wd.g rfl rfl rfl) rfl rfl ?_
      refine LR.v (Y.load1 va.pt rfl Tryd.isAgg3 rfl) (Wd.g rfl rfl rfl) rfl rfl ?_
      refine LR.v (Y.neq rfl rfl rfl) (Wd.g rfl rfl rfl) rfl rfl ?_
      refine LR.v (Y.pick_t rfl rfl rfl) (Wd.u rfl) rfl rfl ?_
      refine LR.nil ?_
      refine QN.sub (hK3 (decide (x.k ≠ 2)) _ ?_) ⟨rfl, rfl, trivial⟩
      exact ⟨(by rw [decide_eq_false_iff_not]; omega), hcm3⟩
    ·
      refine LR.gs rfl rfl rfl rfl rfl rfl ?_
      refine LR.gs rfl rfl rfl rfl rfl rfl ?_
      refine LR.gs rfl rfl rfl rfl rfl rfl ?_
      refine LR.v (Y.pick_f rfl rfl rfl) (Wd.u rfl) rfl rfl ?_
      refine LR.nil ?_
      refine QN.sub (hK3 false _ ?_) ⟨rfl, rfl, trivial⟩
      exact ⟨(by simp; omega), hcm3⟩
  ·
    intro kb Hcutr1 hIcutr1
    obtain ⟨hkb, hlmcutr1⟩ := hIcutr1
    replace hl := hl.nw hlmcutr1
    replace va := va.nw hlmcutr1
    replace hm0 := hm0.tr hlmcutr1
    have hz2 := hlmcutr1.size
    refine CW.cond rfl (fun c11 => ?_) (fun c11 => ?_)
    ·
      refine CW.seq (fun K4 hK4 hE4 => ?_)
      refine CW.region ?_
      refine LR.v (Y.assign rfl rfl) (Wd.u rfl) rfl rfl ?_
      refine LR.nil ?_
      refine hK4 _ _ ?_
      refine CW.ret (hE2 .ret nofun _ _ (hret .ret (.inr rfl) _ _ _ (res1 rfl rfl) ?_))
      exact ⟨by unfold seqE; rw [if_pos (fun h => by have := hkb.2 h; rw [c11] at this; cases this)], hm0⟩
    ·
      have hkk := hkb.1 c11
      refine CW.skip ?_
      refine hK2 _ _ ?_
      refine CW.seq (fun K5 hK5 hE5 => ?_)
      refine CW.seq (fun K6 hK6 hE6 => ?_)
      refine CW.region ?_
      refine LR.v (Y.fieldAddr va.pt rfl Tryd.runUnderlying26 rfl rfl Tryd.sizeOf9 (by decide) rfl) (Wd.u rfl) rfl rfl ?_
      refine LR.v (Y.load1 (va.pt.drop 1) rfl Tryd.isAgg9 rfl) (Wd.u rfl) rfl rfl ?_
      -- call selvage/selvageref9.Check
      refine LR.call rfl Tryd.call33 rfl (Wd.u rfl) rfl rfl (rchk_ct x.br w0 _ hw.hb) (fun v14 H14 r14 => ?_)
      obtain ⟨rfl, hs14⟩ := r14
      replace hl := hl.nw hs14
      replace va := va.nw hs14
      replace hm0 := hm0.tr hs14
      have hz3 := hs14.size
      refine LR.v (Y.neq rfl rfl rfl) (Wd.u rfl) rfl rfl ?_
      refine LR.nil ?_
      refine hK6 _ _ ?_
      refine CW.condp rfl (fun c15 => ?_) (fun c15 => ?_)
      ·
        refine CW.seq (fun K7 hK7 hE7 => ?_)
        refine CW.region ?_
        refine LR.v (Y.assign rfl rfl) (Wd.u rfl) rfl rfl ?_
        refine LR.nil ?_
        refine hK7 _ _ ?_
        refine CW.ret (hE5 .ret nofun _ _ (hret .ret (.inr rfl) _ _ _ (res1 rfl rfl) ?_))
        exact ⟨by unfold seqE; rw [if_neg (fun h => h hkk), if_pos c15], hm0⟩
      ·
        refine CW.skip ?_
        refine hK5 _ _ ?_
        refine CW.seq (fun K8 hK8 hE8 => ?_)
        refine CW.cut (fun (ab : (Bool)) => [(1, .pointer (some ⟨H0.size, 0, none⟩)), (62, .bool ab)])
          (fun (ab : (Bool)) (H : Heap) => (ab = !argB x) ∧ Nw H14 H) (fun K9 hK9 hE9 => ?_) ?_
        ·
          have hcm9 : Nw H14 H14 := Mo.refl _ _
          refine CW.region ?_
          refine LR.v (Y.fieldAddr va.pt rfl Tryd.runUnderlying26 rfl rfl Tryd.sizeOf23 (by decide) rfl) (Wd.u rfl) rfl rfl ?_
          refine LR.v (Y.cast (v2 := idV x.og) (Y.loadN ((va.pt.drop 2).take 32) rfl Tryd.isAgg23 Tryd.sizeOf23 (by simp [fQ_len]) rfl) (congrArg (fun z : List Value => Value.agg z.toArray) ((fQ_og _).trans (kc_eq hw.ho)))) (Wd.u rfl) rfl rfl ?_
          refine LR.v (Y.build (v := idV Z32) rfl rfl (by intro w; kernel_rfl)) (Wd.u rfl) rfl rfl ?_
          refine LR.v (Y.aeql rfl Tryd.eqGuardType23 (fun w => run_equalIn_id 9998 Tryd.underlying23 Tryd.underlying5 Tryd.sizeOf5 Tryd.isAgg5 (hw.ho) (by simp) w) rfl rfl) (Wd.u rfl) rfl rfl ?_
          refine LR.v (Y.move rfl rfl) (Wd.u rfl) rfl rfl ?_
          refine LR.splitp (d := 20) rfl (fun g20 => ?_) (fun g20 => ?_)
          ·
            refine LR.gs rfl rfl rfl rfl rfl rfl ?_
            refine LR.gs rfl rfl rfl rfl rfl rfl ?_
            refine LR.gs rfl rfl rfl rfl rfl rfl ?_
            refine LR.gs rfl rfl rfl rfl rfl rfl ?_
            refine LR.v (Y.pick_t rfl rfl rfl) (Wd.u rfl) rfl rfl ?_
            refine LR.v (Y.move rfl rfl) (Wd.u rfl) rfl rfl ?_
            refine LR.gs rfl rfl rfl rfl rfl rfl ?_
            refine LR.gs rfl rfl rfl rfl rfl rfl ?_
            refine LR.gs rfl rfl rfl rfl rfl rfl ?_
            refine LR.v (Y.pick_t rfl rfl rfl) (Wd.u rfl) rfl rfl ?_
            refine LR.v (Y.move rfl rfl) (Wd.u rfl) rfl rfl ?_
            refine LR.gs rfl rfl rfl rfl rfl rfl ?_
            refine LR.gs rfl rfl rfl rfl rfl rfl ?_
            refine LR.gs rfl rfl rfl rfl rfl rfl ?_
            refine LR.gs rfl rfl rfl rfl rfl rfl ?_
            refine LR.gs rfl rfl rfl rfl rfl rfl ?_
            refine LR.gs rfl rfl rfl rfl rfl rfl ?_
            refine LR.v (Y.pick_t rfl rfl rfl) (Wd.u rfl) rfl rfl ?_
            refine LR.v (Y.move rfl rfl) (Wd.u rfl) rfl rfl ?_
            refine LR.gs rfl rfl rfl rfl rfl rfl ?_
            refine LR.gs rfl rfl rfl rfl rfl rfl ?_
            refine LR.gs rfl rfl rfl rfl rfl rfl ?_
            refine LR.v (Y.pick_t rfl rfl rfl) (Wd.u rfl) rfl rfl ?_
            refine LR.v (Y.move rfl rfl) (Wd.u rfl) rfl rfl ?_
            refine LR.gs rfl rfl rfl rfl rfl rfl ?_
            refine LR.gs rfl rfl rfl rfl rfl rfl ?_
            refine LR.gs rfl rfl rfl rfl rfl rfl ?_
            refine LR.gs rfl rfl rfl rfl rfl rfl ?_
            refine LR.gs rfl rfl rfl rfl rfl rfl ?_
            refine LR.v (Y.pick_t rfl rfl rfl) (Wd.u rfl) rfl rfl ?_
            refine LR.v (Y.move rfl rfl) (Wd.u rfl) rfl rfl ?_
            refine LR.gs rfl rfl rfl rfl rfl rfl ?_
            refine LR.gs rfl rfl rfl rfl rfl rfl ?_
            refine LR.gs rfl rfl rfl rfl rfl rfl ?_
            refine LR.gsu rfl rfl rfl rfl rfl ?_
            refine LR.gsu rfl rfl rfl rfl rfl ?_
            refine LR.gsu rfl rfl rfl rfl rfl ?_
            refine LR.gsu rfl rfl rfl rfl rfl ?_
            refine LR.gsu rfl rfl rfl rfl rfl ?_
            refine LR.gsu rfl rfl rfl rfl rfl ?_
            refine LR.gs rfl rfl rfl rfl rfl rfl ?_
            refine LR.v (Y.pick_t rfl rfl rfl) (Wd.u rfl) rfl rfl ?_
            refine LR.nil ?_
            refine QN.sub (hK9 true _ ?_) ⟨rfl, rfl, trivial⟩
            exact ⟨argFalse (by rintro ⟨h1, h2, h3, h4, h5, h6, h7⟩; first | (exact absurd (by assumption) h1) | (exact absurd (by assumption) h2) | omega), hcm9⟩
          ·
            refine LR.v (Y.fieldAddr va.pt rfl Tryd.runUnderlying26 rfl rfl Tryd.sizeOf23 (by decide) rfl) (Wd.g rfl rfl rfl) rfl rfl ?_
            refine LR.v (Y.cast (v2 := idV x.cu) (Y.loadN ((va.pt.drop 34).take 32) rfl Tryd.isAgg23 Tryd.sizeOf23 (by simp [fQ_len]) rfl) (congrArg (fun z : List Value => Value.agg z.toArray) ((fQ_cu _).trans (kc_eq hw.hc)))) (Wd.g rfl rfl rfl) rfl rfl ?_
            refine LR.v (Y.build (v := idV Z32) rfl rfl (by intro w; kernel_rfl)) (Wd.g rfl rfl rfl) rfl rfl ?_
            refine LR.v (Y.aeql rfl Tryd.eqGuardType23 (fun w => run_equalIn_id 9998 Tryd.underlying23 Tryd.underlying5 Tryd.sizeOf5 Tryd.isAgg5 (hw.hc) (by simp) w) rfl rfl) (Wd.g rfl rfl rfl) rfl rfl ?_
            refine LR.v (Y.pick_f rfl rfl rfl) (Wd.u rfl) rfl rfl ?_
            refine LR.v (Y.move rfl rfl) (Wd.u rfl) rfl rfl ?_
            refine LR.splitp (d := 26) rfl (fun g26 => ?_) (fun g26 => ?_)
            ·
              refine LR.gs rfl rfl rfl rfl rfl rfl ?_
              refine LR.gs rfl rfl rfl rfl rfl rfl ?_
              refine LR.gs rfl rfl rfl rfl rfl rfl ?_
              refine LR.v (Y.pick_t rfl rfl rfl) (Wd.u rfl) rfl rfl ?_
              refine LR.v (Y.move rfl rfl) (Wd.u rfl) rfl rfl ?_
              refine LR.gs rfl rfl rfl rfl rfl rfl ?_
              refine LR.gs rfl rfl rfl rfl rfl rfl ?_
              refine LR.gs rfl rfl rfl rfl rfl rfl ?_
              refine LR.gs rfl rfl rfl rfl rfl rfl ?_
              refine LR.gs rfl rfl rfl rfl rfl rfl ?_
              refine LR.gs rfl rfl rfl rfl rfl rfl ?_
              refine LR.v (Y.pick_t rfl rfl rfl) (Wd.u rfl) rfl rfl ?_
              refine LR.v (Y.move rfl rfl) (Wd.u rfl) rfl rfl ?_
              refine LR.gs rfl rfl rfl rfl rfl rfl ?_
              refine LR.gs rfl rfl rfl rfl rfl rfl ?_
              refine LR.gs rfl rfl rfl rfl rfl rfl ?_
              refine LR.v (Y.pick_t rfl rfl rfl) (Wd.u rfl) rfl rfl ?_
              refine LR.v (Y.move rfl rfl) (Wd.u rfl) rfl rfl ?_
              refine LR.gs rfl rfl rfl rfl rfl rfl ?_
              refine LR.gs rfl rfl rfl rfl rfl rfl ?_
              refine LR.gs rfl rfl rfl rfl rfl rfl ?_
              refine LR.gs rfl rfl rfl rfl rfl rfl ?_
              refine LR.gs rfl rfl rfl rfl rfl rfl ?_
              refine LR.v (Y.pick_t rfl rfl rfl) (Wd.u rfl) rfl rfl ?_
              refine LR.v (Y.move rfl rfl) (Wd.u rfl) rfl rfl ?_
              refine LR.gs rfl rfl rfl rfl rfl rfl ?_
              refine LR.gs rfl rfl rfl rfl rfl rfl ?_
              refine LR.gs rfl rfl rfl rfl rfl rfl ?_
              refine LR.gsu rfl rfl rfl rfl rfl ?_
              refine LR.gsu rfl rfl rfl rfl rfl ?_
              refine LR.gsu rfl rfl rfl rfl rfl ?_
              refine LR.gsu rfl rfl rfl rfl rfl ?_
              refine LR.gsu rfl rfl rfl rfl rfl ?_
              refine LR.gsu rfl rfl rfl rfl rfl ?_
              refine LR.gs rfl rfl rfl rfl rfl rfl ?_
              refine LR.v (Y.pick_t rfl rfl rfl) (Wd.u rfl) rfl rfl ?_
              refine LR.nil ?_
              refine QN.sub (hK9 true _ ?_) ⟨rfl, rfl, trivial⟩
              exact ⟨argFalse (by rintro ⟨h1, h2, h3, h4, h5, h6, h7⟩; first | (exact absurd (by assumption) h1) | (exact absurd (by assumption) h2) | omega), hcm9⟩
            ·
              refine LR.v (Y.fieldAddr va.pt rfl Tryd.runUnderlying26 rfl rfl Tryd.sizeOf3 (by decide) rfl) (Wd.g rfl rfl rfl) rfl rfl ?_
              refine LR.v (Y.load1 va.pt.q67 rfl Tryd.isAgg3 rfl) (Wd.g rfl rfl rfl) rfl rfl ?_
              refine LR.v (Y.lss rfl rfl rfl) (Wd.g rfl rfl rfl) rfl rfl ?_
              refine LR.v (Y.pick_f rfl rfl rfl) (Wd.u rfl) rfl rfl ?_
              refine LR.v (Y.move rfl rfl) (Wd.u rfl) rfl rfl ?_
              refine LR.splitp (d := 31) rfl (fun g31 => ?_) (fun g31 => ?_)
              ·
                refine LR.gs rfl rfl rfl rfl rfl rfl ?_
                refine LR.gs rfl rfl rfl rfl rfl rfl ?_
                refine LR.gs rfl rfl rfl rfl rfl rfl ?_
                refine LR.gs rfl rfl rfl rfl rfl rfl ?_
                refine LR.gs rfl rfl rfl rfl rfl rfl ?_
                refine LR.gs rfl rfl rfl rfl rfl rfl ?_
                refine LR.v (Y.pick_t rfl rfl rfl) (Wd.u rfl) rfl rfl ?_
                refine LR.v (Y.move rfl rfl) (Wd.u rfl) rfl rfl ?_
                refine LR.gs rfl rfl rfl rfl rfl rfl ?_
                refine LR.gs rfl rfl rfl rfl rfl rfl ?_
                refine LR.gs rfl rfl rfl rfl rfl rfl ?_
                refine LR.v (Y.pick_t rfl rfl rfl) (Wd.u rfl) rfl rfl ?_
                refine LR.v (Y.move rfl rfl) (Wd.u rfl) rfl rfl ?_
                refine LR.gs rfl rfl rfl rfl rfl rfl ?_
                refine LR.gs rfl rfl rfl rfl rfl rfl ?_
                refine LR.gs rfl rfl rfl rfl rfl rfl ?_
                refine LR.gs rfl rfl rfl rfl rfl rfl ?_
                refine LR.gs rfl rfl rfl rfl rfl rfl ?_
                refine LR.v (Y.pick_t rfl rfl rfl) (Wd.u rfl) rfl rfl ?_
                refine LR.v (Y.move rfl rfl) (Wd.u rfl) rfl rfl ?_
                refine LR.gs rfl rfl rfl rfl rfl rfl ?_
                refine LR.gs rfl rfl rfl rfl rfl rfl ?_
                refine LR.gs rfl rfl rfl rfl rfl rfl ?_
                refine LR.gsu rfl rfl rfl rfl rfl ?_
                refine LR.gsu rfl rfl rfl rfl rfl ?_
                refine LR.gsu rfl rfl rfl rfl rfl ?_
                refine LR.gsu rfl rfl rfl rfl rfl ?_
                refine LR.gsu rfl rfl rfl rfl rfl ?_
                refine LR.gsu rfl rfl rfl rfl rfl ?_
                refine LR.gs rfl rfl rfl rfl rfl rfl ?_
                refine LR.v (Y.pick_t rfl rfl rfl) (Wd.u rfl) rfl rfl ?_
                refine LR.nil ?_
                refine QN.sub (hK9 true _ ?_) ⟨rfl, rfl, trivial⟩
                exact ⟨argFalse (by rintro ⟨h1, h2, h3, h4, h5, h6, h7⟩; first | (exact absurd (by assumption) h1) | (exact absurd (by assumption) h2) | omega), hcm9⟩
              ·
                refine LR.v (Y.fieldAddr va.pt rfl Tryd.runUnderlying26 rfl rfl Tryd.sizeOf3 (by decide) rfl) (Wd.g rfl rfl rfl) rfl rfl ?_
                refine LR.v (Y.load1 va.pt.q67 rfl Tryd.isAgg3 rfl) (Wd.g rfl rfl rfl) rfl rfl ?_
                refine LR.v (Y.fieldAddr va.pt rfl Tryd.runUnderlying26 rfl rfl Tryd.sizeOf24 (by decide) rfl) (Wd.g rfl rfl rfl) rfl rfl ?_
                refine LR.v (Y.load1 va.pt.q66 rfl Tryd.isAgg24 rfl) (Wd.g rfl rfl rfl) rfl rfl ?_
                refine LR.v (Y.len hl rfl Tryd.runUnderlying24 rfl) (Wd.g rfl rfl rfl) rfl rfl ?_
                refine LR.v (Y.gtr rfl rfl rfl) (Wd.g rfl rfl rfl) rfl rfl ?_
                refine LR.v (Y.pick_f rfl rfl rfl) (Wd.u rfl) rfl rfl ?_
                refine LR.v (Y.move rfl rfl) (Wd.u rfl) rfl rfl ?_
                refine LR.splitp (d := 39) rfl (fun g39 => ?_) (fun g39 => ?_)
                ·
                  refine LR.gs rfl rfl rfl rfl rfl rfl ?_
                  refine LR.gs rfl rfl rfl rfl rfl rfl ?_
                  refine LR.gs rfl rfl rfl rfl rfl rfl ?_
                  refine LR.v (Y.pick_t rfl rfl rfl) (Wd.u rfl) rfl rfl ?_
                  refine LR.v (Y.move rfl rfl) (Wd.u rfl) rfl rfl ?_
                  refine LR.gs rfl rfl rfl rfl rfl rfl ?_
                  refine LR.gs rfl rfl rfl rfl rfl rfl ?_
                  refine LR.gs rfl rfl rfl rfl rfl rfl ?_
                  refine LR.gs rfl rfl rfl rfl rfl rfl ?_
                  refine LR.gs rfl rfl rfl rfl rfl rfl ?_
                  refine LR.v (Y.pick_t rfl rfl rfl) (Wd.u rfl) rfl rfl ?_
                  refine LR.v (Y.move rfl rfl) (Wd.u rfl) rfl rfl ?_
                  refine LR.gs rfl rfl rfl rfl rfl rfl ?_
                  refine LR.gs rfl rfl rfl rfl rfl rfl ?_
                  refine LR.gs rfl rfl rfl rfl rfl rfl ?_
                  refine LR.gsu rfl rfl rfl rfl rfl ?_
                  refine LR.gsu rfl rfl rfl rfl rfl ?_
                  refine LR.gsu rfl rfl rfl rfl rfl ?_
                  refine LR.gsu rfl rfl rfl rfl rfl ?_
                  refine LR.gsu rfl rfl rfl rfl rfl ?_
                  refine LR.gsu rfl rfl rfl rfl rfl ?_
                  refine LR.gs rfl rfl rfl rfl rfl rfl ?_
                  refine LR.v (Y.pick_t rfl rfl rfl) (Wd.u rfl) rfl rfl ?_
                  refine LR.nil ?_
                  refine QN.sub (hK9 true _ ?_) ⟨rfl, rfl, trivial⟩
                  exact ⟨argFalse (by rintro ⟨h1, h2, h3, h4, h5, h6, h7⟩; first | (exact absurd (by assumption) h1) | (exact absurd (by assumption) h2) | omega), hcm9⟩
                ·
                  refine LR.v (Y.fieldAddr va.pt rfl Tryd.runUnderlying26 rfl rfl Tryd.sizeOf3 (by decide) rfl) (Wd.g rfl rfl rfl) rfl rfl ?_
                  refine LR.v (Y.load1 (va.pt.q67.drop 1) rfl Tryd.isAgg3 rfl) (Wd.g rfl rfl rfl) rfl rfl ?_
                  refine LR.v (Y.lss rfl rfl rfl) (Wd.g rfl rfl rfl) rfl rfl ?_
                  refine LR.v (Y.pick_f rfl rfl rfl) (Wd.u rfl) rfl rfl ?_
                  refine LR.v (Y.move rfl rfl) (Wd.u rfl) rfl rfl ?_
                  refine LR.splitp (d := 44) rfl (fun g44 => ?_) (fun g44 => ?_)
                  ·
                    refine LR.gs rfl rfl rfl rfl rfl rfl ?_
                    refine LR.gs rfl rfl rfl rfl rfl rfl ?_
                    refine LR.gs rfl rfl rfl rfl rfl rfl ?_
                    refine LR.gs rfl rfl rfl rfl rfl rfl ?_
                    refine LR.gs rfl rfl rfl rfl rfl rfl ?_
                    refine LR.v (Y.pick_t rfl rfl rfl) (Wd.u rfl) rfl rfl ?_
                    refine LR.v (Y.move rfl rfl) (Wd.u rfl) rfl rfl ?_
                    refine LR.gs rfl rfl rfl rfl rfl rfl ?_
                    refine LR.gs rfl rfl rfl rfl rfl rfl ?_
                    refine LR.gs rfl rfl rfl rfl rfl rfl ?_
                    refine LR.gsu rfl rfl rfl rfl rfl ?_
                    refine LR.gsu rfl rfl rfl rfl rfl ?_
                    refine LR.gsu rfl rfl rfl rfl rfl ?_
                    refine LR.gsu rfl rfl rfl rfl rfl ?_
                    refine LR.gsu rfl rfl rfl rfl rfl ?_
                    refine LR.gsu rfl rfl rfl rfl rfl ?_
                    refine LR.gs rfl rfl rfl rfl rfl rfl ?_
                    refine LR.v (Y.pick_t rfl rfl rfl) (Wd.u rfl) rfl rfl ?_
                    refine LR.nil ?_
                    refine QN.sub (hK9 true _ ?_) ⟨rfl, rfl, trivial⟩
                    exact ⟨argFalse (by rintro ⟨h1, h2, h3, h4, h5, h6, h7⟩; first | (exact absurd (by assumption) h1) | (exact absurd (by assumption) h2) | omega), hcm9⟩
                  ·
                    refine LR.v (Y.fieldAddr va.pt rfl Tryd.runUnderlying26 rfl rfl Tryd.sizeOf3 (by decide) rfl) (Wd.g rfl rfl rfl) rfl rfl ?_
                    refine LR.v (Y.load1 (va.pt.q67.drop 1) rfl Tryd.isAgg3 rfl) (Wd.g rfl rfl rfl) rfl rfl ?_
                    refine LR.v (Y.fieldAddr va.pt rfl Tryd.runUnderlying26 rfl rfl Tryd.sizeOf3 (by decide) rfl) (Wd.g rfl rfl rfl) rfl rfl ?_
                    refine LR.v (Y.load1 va.pt.q67 rfl Tryd.isAgg3 rfl) (Wd.g rfl rfl rfl) rfl rfl ?_
                    refine LR.v (Y.gtr rfl rfl rfl) (Wd.g rfl rfl rfl) rfl rfl ?_
                    refine LR.v (Y.pick_f rfl rfl rfl) (Wd.u rfl) rfl rfl ?_
                    refine LR.v (Y.move rfl rfl) (Wd.u rfl) rfl rfl ?_
                    refine LR.splitp (d := 51) rfl (fun g51 => ?_) (fun g51 => ?_)
                    ·
                      refine LR.gs rfl rfl rfl rfl rfl rfl ?_
                      refine LR.gs rfl rfl rfl rfl rfl rfl ?_
                      refine LR.gs rfl rfl rfl rfl rfl rfl ?_
                      refine LR.gsu rfl rfl rfl rfl rfl ?_
                      refine LR.gsu rfl rfl rfl rfl rfl ?_
                      refine LR.gsu rfl rfl rfl rfl rfl ?_
                      refine LR.gsu rfl rfl rfl rfl rfl ?_
                      refine LR.gsu rfl rfl rfl rfl rfl ?_
                      refine LR.gsu rfl rfl rfl rfl rfl ?_
                      refine LR.gs rfl rfl rfl rfl rfl rfl ?_
                      refine LR.v (Y.pick_t rfl rfl rfl) (Wd.u rfl) rfl rfl ?_
                      refine LR.nil ?_
                      refine QN.sub (hK9 true _ ?_) ⟨rfl, rfl, trivial⟩
                      exact ⟨argFalse (by rintro ⟨h1, h2, h3, h4, h5, h6, h7⟩; first | (exact absurd (by assumption) h1) | (exact absurd (by assumption) h2) | omega), hcm9⟩
                    ·
                      refine LR.v (Y.fieldAddr va.pt rfl Tryd.runUnderlying26 rfl rfl Tryd.sizeOf4 (by decide) rfl) (Wd.g rfl rfl rfl) rfl rfl ?_
                      refine LR.v (Y.load1 (va.pt.q67.drop 2) rfl Tryd.isAgg4 rfl) (Wd.g rfl rfl rfl) rfl rfl ?_
                      refine LR.v (Y.move rfl rfl) (Wd.g rfl rfl rfl) rfl rfl ?_
                      refine LR.split (d := 54) rfl (fun g54 => ?_) (fun g54 => ?_)
                      ·
                        refine LR.v (Y.fieldAddr va.pt rfl Tryd.runUnderlying26 rfl rfl Tryd.sizeOf3 (by decide) rfl) (Wd.g rfl rfl rfl) rfl rfl ?_
                        refine LR.v (Y.load1 va.pt.q67 rfl Tryd.isAgg3 rfl) (Wd.g rfl rfl rfl) rfl rfl ?_
                        refine LR.v (Y.fieldAddr va.pt rfl Tryd.runUnderlying26 rfl rfl Tryd.sizeOf24 (by decide) rfl) (Wd.g rfl rfl rfl) rfl rfl ?_
                        refine LR.v (Y.load1 va.pt.q66 rfl Tryd.isAgg24 rfl) (Wd.g rfl rfl rfl) rfl rfl ?_
                        refine LR.v (Y.len hl rfl Tryd.runUnderlying24 rfl) (Wd.g rfl rfl rfl) rfl rfl ?_
                        refine LR.v (Y.eql rfl rfl rfl) (Wd.g rfl rfl rfl) rfl rfl ?_
                        refine LR.v (Y.pick_t rfl rfl rfl) (Wd.g rfl rfl rfl) rfl rfl ?_
                        refine LR.v (Y.pick_f rfl rfl rfl) (Wd.u rfl) rfl rfl ?_
                        refine LR.nil ?_
                        refine QN.sub (hK9 (decide (x.dn = (x.td.length : Int))) _ ?_) ⟨rfl, rfl, trivial⟩
                        exact ⟨(by rw [← argT g20 g26 (by omega) (by omega) (by omega) (by omega) g54]; simp), hcm9⟩
                      ·
                        refine LR.gs rfl rfl rfl rfl rfl rfl ?_
                        refine LR.gs rfl rfl rfl rfl rfl rfl ?_
                        refine LR.gs rfl rfl rfl rfl rfl rfl ?_
                        refine LR.gs rfl rfl rfl rfl rfl rfl ?_
                        refine LR.gs rfl rfl rfl rfl rfl rfl ?_
                        refine LR.gs rfl rfl rfl rfl rfl rfl ?_
                        refine LR.v (Y.pick_f rfl rfl rfl) (Wd.g rfl rfl rfl) rfl rfl ?_
                        refine LR.v (Y.pick_f rfl rfl rfl) (Wd.u rfl) rfl rfl ?_
                        refine LR.nil ?_
                        refine QN.sub (hK9 false _ ?_) ⟨rfl, rfl, trivial⟩
                        exact ⟨(by rw [← argS g20 g26 (by omega) (by omega) (by omega) (by omega) g54]; rfl), hcm9⟩
        ·
          intro ab Hcutr5 hIcutr5
          obtain ⟨hab, hlmcutr5⟩ := hIcutr5
          replace hl := hl.nw hlmcutr5
          replace va := va.nw hlmcutr5
          replace hm0 := hm0.tr hlmcutr5
          have hz4 := hlmcutr5.size
          refine CW.cond rfl (fun c62 => ?_) (fun c62 => ?_)
          ·
            refine CW.seq (fun K10 hK10 hE10 => ?_)
            refine CW.region ?_
            refine LR.v (Y.assign rfl rfl) (Wd.u rfl) rfl rfl ?_
            refine LR.nil ?_
            refine hK10 _ _ ?_
            refine CW.ret (hE8 .ret nofun _ _ (hret .ret (.inr rfl) _ _ _ (res1 rfl rfl) ?_))
            exact ⟨by unfold seqE; rw [if_neg (fun h => h hkk), if_neg c15, if_pos (by rw [c62] at hab; simpa using hab.symm)], hm0⟩
          ·
            have ha : argB x = true := by rw [c62] at hab; simpa using hab.symm
            refine CW.skip ?_
            refine hK8 _ _ ?_
            refine CW.seq (fun K11 hK11 hE11 => ?_)
            refine CW.seq (fun K12 hK12 hE12 => ?_)
            refine CW.region ?_
            refine LR.v (Y.fieldAddr va.pt rfl Tryd.runUnderlying26 rfl rfl Tryd.sizeOf24 (by decide) rfl) (Wd.u rfl) rfl rfl ?_
            refine LR.v (Y.load1 va.pt.q66 rfl Tryd.isAgg24 rfl) (Wd.u rfl) rfl rfl ?_
            refine LR.v (Y.len hl rfl Tryd.runUnderlying24 rfl) (Wd.u rfl) rfl rfl ?_
            refine LR.v (Y.gtr rfl rfl rfl) (Wd.u rfl) rfl rfl ?_
            refine LR.nil ?_
            refine hK12 _ _ ?_
            refine CW.condp rfl (fun c66 => ?_) (fun c66 => ?_)
            ·
              refine CW.seq (fun K13 hK13 hE13 => ?_)
              refine CW.region ?_
              refine LR.v (Y.assign rfl rfl) (Wd.u rfl) rfl rfl ?_
              refine LR.nil ?_
              refine hK13 _ _ ?_
              refine CW.ret (hE11 .ret nofun _ _ (hret .ret (.inr rfl) _ _ _ (res1 rfl rfl) ?_))
              exact ⟨by unfold seqE; rw [if_neg (fun h => h hkk), if_neg c15, if_neg (by rw [ha]; decide), if_pos (by omega)], hm0⟩
            ·
              refine CW.skip ?_
              refine hK11 _ _ ?_
              refine CW.seq (fun K14 hK14 hE14 => ?_)
              refine CW.seq (fun K15 hK15 hE15 => ?_)
              refine CW.region ?_
              refine LR.v (Y.assign rfl rfl) (Wd.u rfl) rfl rfl ?_
              refine LR.nil ?_
              refine hK15 _ _ ?_
              refine CW.block (fun K16 hK16 hX16 hE16 => ?_)
              refine CW.loop (fun (i : (Nat)) => [(1, .pointer (some ⟨H0.size, 0, none⟩)), (3, .int .i64 i)])
                (fun (i : (Nat)) (H : Heap) => (i ≤ x.td.length) ∧ (todoE (x.td.take i) = 0) ∧ Nw Hcutr5 H)
                (fun (i : (Nat)) => x.td.length - i) 0 ⟨rfl, rfl, trivial⟩ ?_ ?_
              ·
                exact ⟨(by omega), rfl, Mo.refl _ _⟩
              intro i HL1 hI1 K17 hN17 hE17
              obtain ⟨hi, he, hlm1⟩ := hI1
              replace hl := hl.nw hlm1
              replace va := va.nw hlm1
              replace hm0 := hm0.tr hlm1
              have hz5 := hlm1.size
              refine CW.seq (fun K18 hK18 hE18 => ?_)
              refine CW.seq (fun K19 hK19 hE19 => ?_)
              refine CW.region ?_
              refine LR.v (Y.move rfl rfl) (Wd.u rfl) rfl rfl ?_
              refine LR.v (Y.fieldAddr va.pt rfl Tryd.runUnderlying26 rfl rfl Tryd.sizeOf24 (by decide) rfl) (Wd.u rfl) rfl rfl ?_
              refine LR.v (Y.load1 va.pt.q66 rfl Tryd.isAgg24 rfl) (Wd.u rfl) rfl rfl ?_
              refine LR.v (Y.len hl rfl Tryd.runUnderlying24 rfl) (Wd.u rfl) rfl rfl ?_
              refine LR.v (Y.lss rfl rfl rfl) (Wd.u rfl) rfl rfl ?_
              refine LR.nil ?_
              refine hK19 _ _ ?_
              refine CW.condp rfl (fun c71 => ?_) (fun c71 => ?_)
              ·
                have hil : i < x.td.length := by omega
                have hti := hw.ht x.td[i] (List.getElem_mem hil)
                refine CW.skip ?_
                refine hK18 _ _ ?_
                refine CW.seq (fun K20 hK20 hE20 => ?_)
                refine CW.block (fun K21 hK21 hX21 hE21 => ?_)
                refine CW.seq (fun K22 hK22 hE22 => ?_)
                refine CW.seq (fun K23 hK23 hE23 => ?_)
                refine CW.region ?_
                refine LR.v (Y.fieldAddr va.pt rfl Tryd.runUnderlying26 rfl rfl Tryd.sizeOf24 (by decide) rfl) (Wd.u rfl) rfl rfl ?_
                refine LR.v (Y.load1 va.pt.q66 rfl Tryd.isAgg24 rfl) (Wd.u rfl) rfl rfl ?_
                refine LR.v (Y.move rfl rfl) (Wd.u rfl) rfl rfl ?_
                refine LR.e (g := fun ad => .pointer (some ad)) (Y.indexAddrF hl (i) rfl Tryd.runUnderlying24 Tryd.sizeOf29 rfl rfl (by first | rfl | omega) (by first | omega | (simp; omega) | (simp; done))) (Wd.u rfl) rfl rfl (fun ad77 pt77 => ?_)
                have bf_pt77 := bf_hl
                refine LR.v (Y.fieldAddr pt77.pt rfl Tryd.runUnderlying29 rfl rfl Tryd.sizeOf3 (by decide) rfl) (Wd.u rfl) rfl rfl ?_
                refine LR.v (Y.load1 (pt77.pt.drop 0) rfl Tryd.isAgg3 rfl) (Wd.u rfl) rfl rfl ?_
                refine LR.v (Y.lss rfl rfl rfl) (Wd.u rfl) rfl rfl ?_
                refine LR.v (Y.move rfl rfl) (Wd.u rfl) rfl rfl ?_
                refine LR.splitp (d := 81) rfl (fun g81 => ?_) (fun g81 => ?_)
                ·
                  refine LR.gs rfl rfl rfl rfl rfl rfl ?_
                  refine LR.gs rfl rfl rfl rfl rfl rfl ?_
                  refine LR.gs rfl rfl rfl rfl rfl rfl ?_
                  refine LR.gs rfl rfl rfl rfl rfl rfl ?_
                  refine LR.gs rfl rfl rfl rfl rfl rfl ?_
                  refine LR.gs rfl rfl rfl rfl rfl rfl ?_
                  refine LR.gs rfl rfl rfl rfl rfl rfl ?_
                  refine LR.v (Y.pick_t rfl rfl rfl) (Wd.u rfl) rfl rfl ?_
                  refine LR.nil ?_
                  refine hK23 _ _ ?_
                  refine CW.cond_t rfl ?_
                  refine CW.seq (fun K24 hK24 hE24 => ?_)
                  refine CW.region ?_
                  refine LR.v (Y.assign rfl rfl) (Wd.u rfl) rfl rfl ?_
                  refine LR.nil ?_
                  refine hK24 _ _ ?_
                  refine CW.ret (hE22 .ret nofun _ _ (hE21 .ret nofun (by simp) _ _ (hE20 .ret nofun _ _ (hE17 .ret nofun _ _ (hE16 .ret nofun (by simp) _ _ (hE14 .ret nofun _ _ (hret .ret (.inr rfl) _ _ _ (res1 rfl rfl) ?_)))))))
                  exact ⟨by rw [seqE_bad hkk (by simpa using c15) ha (by omega) he hil (stepE_3 (by omega)) (by decide)], hm0⟩
                ·
                  refine LR.v (Y.fieldAddr va.pt rfl Tryd.runUnderlying26 rfl rfl Tryd.sizeOf24 (by decide) rfl) (Wd.g rfl rfl rfl) rfl rfl ?_
                  refine LR.v (Y.load1 va.pt.q66 rfl Tryd.isAgg24 rfl) (Wd.g rfl rfl rfl) rfl rfl ?_
                  refine LR.v (Y.move rfl rfl) (Wd.g rfl rfl rfl) rfl rfl ?_
                  refine LR.e (g := fun ad => .pointer (some ad)) (Y.indexAddrF hl (i) rfl Tryd.runUnderlying24 Tryd.sizeOf29 rfl rfl (by first | rfl | omega) (by first | omega | (simp; omega) | (simp; done))) (Wd.g rfl rfl rfl) rfl rfl (fun ad85 pt85 => ?_)
                  have bf_pt85 := bf_hl
                  refine LR.v (Y.fieldAddr pt85.pt rfl Tryd.runUnderlying29 rfl rfl Tryd.sizeOf3 (by decide) rfl) (Wd.g rfl rfl rfl) rfl rfl ?_
                  refine LR.v (Y.load1 (pt85.pt.drop 0) rfl Tryd.isAgg3 rfl) (Wd.g rfl rfl rfl) rfl rfl ?_
                  refine LR.v (Y.gtr rfl rfl rfl) (Wd.g rfl rfl rfl) rfl rfl ?_
                  refine LR.v (Y.pick_f rfl rfl rfl) (Wd.u rfl) rfl rfl ?_
                  refine LR.nil ?_
                  refine hK23 _ _ ?_
                  refine CW.condp rfl (fun c89 => ?_) (fun c89 => ?_)
                  ·
                    refine CW.seq (fun K25 hK25 hE25 => ?_)
                    refine CW.region ?_
                    refine LR.v (Y.assign rfl rfl) (Wd.u rfl) rfl rfl ?_
                    refine LR.nil ?_
                    refine hK25 _ _ ?_
                    refine CW.ret (hE22 .ret nofun _ _ (hE21 .ret nofun (by simp) _ _ (hE20 .ret nofun _ _ (hE17 .ret nofun _ _ (hE16 .ret nofun (by simp) _ _ (hE14 .ret nofun _ _ (hret .ret (.inr rfl) _ _ _ (res1 rfl rfl) ?_)))))))
                    exact ⟨by rw [seqE_bad hkk (by simpa using c15) ha (by omega) he hil (stepE_3 (by omega)) (by decide)], hm0⟩
                  ·
                    refine CW.skip ?_
                    refine hK22 _ _ ?_
                    refine CW.seq (fun K26 hK26 hE26 => ?_)
                    refine CW.region ?_
                    refine LR.v (Y.fieldAddr va.pt rfl Tryd.runUnderlying26 rfl rfl Tryd.sizeOf24 (by decide) rfl) (Wd.u rfl) rfl rfl ?_
                    refine LR.v (Y.load1 va.pt.q66 rfl Tryd.isAgg24 rfl) (Wd.u rfl) rfl rfl ?_
                    refine LR.v (Y.move rfl rfl) (Wd.u rfl) rfl rfl ?_
                    refine LR.e (g := fun ad => .pointer (some ad)) (Y.indexAddrF hl (i) rfl Tryd.runUnderlying24 Tryd.sizeOf29 rfl rfl (by first | rfl | omega) (by first | omega | (simp; omega) | (simp; done))) (Wd.u rfl) rfl rfl (fun ad93 pt93 => ?_)
                    have bf_pt93 := bf_hl
                    refine LR.v (Y.fieldAddr pt93.pt rfl Tryd.runUnderlying29 rfl rfl Tryd.sizeOf23 (by decide) rfl) (Wd.u rfl) rfl rfl ?_
                    refine LR.v (Y.cast (v2 := idV x.td[i].i) (Y.loadN ((pt93.pt.drop 1).take 32) rfl Tryd.isAgg23 Tryd.sizeOf23 (by simp [fT]) rfl) (congrArg (fun z : List Value => Value.agg z.toArray) (show (kc x.td[i].i).take 32 = _ from by rw [List.take_of_length_le (by simp), kc_eq hti]))) (Wd.u rfl) rfl rfl ?_
                    refine LR.v (Y.build (v := idV Z32) rfl rfl (by intro w; kernel_rfl)) (Wd.u rfl) rfl rfl ?_
                    refine LR.v (Y.aeql rfl Tryd.eqGuardType23 (fun w => run_equalIn_id 9998 Tryd.underlying23 Tryd.underlying5 Tryd.sizeOf5 Tryd.isAgg5 (hti) (by simp) w) rfl rfl) (Wd.u rfl) rfl rfl ?_
                    refine LR.nil ?_
                    refine hK26 _ _ ?_
                    refine CW.condp rfl (fun c97 => ?_) (fun c97 => ?_)
                    ·
                      refine CW.seq (fun K27 hK27 hE27 => ?_)
                      refine CW.region ?_
                      refine LR.v (Y.assign rfl rfl) (Wd.u rfl) rfl rfl ?_
                      refine LR.nil ?_
                      refine hK27 _ _ ?_
                      refine CW.ret (hE21 .ret nofun (by simp) _ _ (hE20 .ret nofun _ _ (hE17 .ret nofun _ _ (hE16 .ret nofun (by simp) _ _ (hE14 .ret nofun _ _ (hret .ret (.inr rfl) _ _ _ (res1 rfl rfl) ?_))))))
                      exact ⟨by rw [seqE_bad hkk (by simpa using c15) ha (by omega) he hil (stepE_1 (by omega) (by omega) (by assumption)) (by decide)], hm0⟩
                    ·
                      refine CW.skip ?_
                      refine hK21 _ _ ?_
                      refine hK20 _ _ ?_
                      refine CW.region ?_
                      refine LR.v (Y.move rfl rfl) (Wd.u rfl) rfl rfl ?_
                      refine LR.v (Y.addi rfl rfl rfl (by omega)) (Wd.u rfl) rfl rfl ?_
                      refine LR.v (Y.assign rfl rfl) (Wd.u rfl) rfl rfl ?_
                      refine LR.nil ?_
                      refine QN.sub (hN17 (i + 1) _ ?_ ?_) ⟨rfl, (iv (by omega)), trivial⟩
                      · exact ⟨(by omega), todoE_next he hil (stepE_ok (by omega) (by omega) (by assumption)), hlm1⟩
                      · first | omega | (simp only; omega) | (simp; omega)
              ·
                refine CW.exit (hE18 (.exit 0) nofun _ _ (hE17 (.exit 0) nofun _ _ (hX16 _ _ ?_)))
                refine hK14 _ _ ?_
                refine CW.seq (fun K28 hK28 hE28 => ?_)
                refine CW.region ?_
                refine LR.v (Y.assign rfl rfl) (Wd.u rfl) rfl rfl ?_
                refine LR.nil ?_
                refine hK28 _ _ ?_
                refine CW.ret (hret .ret (.inr rfl) _ _ _ (res1 rfl rfl) ?_)
                exact ⟨by rw [List.take_of_length_le (by omega)] at he; rw [seqE_td hkk (by simpa using c15) ha (by omega), he], hm0⟩

theorem table0_ct  (w0 : World) (H0 : Heap)
     :
    Ct Tryd.prog w0 42 #[.agg fZ.toArray] H0 (fun r H2 => ∃ v : Value, r = v ∧ (MapOf (fun b => True) H2 Str idV v ([] : List (List UInt8 × List UInt8))) ∧ Nw H0 H2) := by
  refine Ct.enter (args := [.agg fZ.toArray]) Tryd.func42 rfl rfl rfl ?_
  intro Q0 hret
  have hm0 : Nw H0 H0 := Mo.refl _ _
  refine CW.seq (fun K1 hK1 hE1 => ?_)
  refine CW.region ?_
  refine LR.z (Z.boxv rfl rfl) (Wd.u rfl) rfl rfl (fun v1 H1 r1 => ?_)
  obtain ⟨rfl, vz, hs1, ob1, hH1⟩ := r1
  have hzs1 : H1.size = H0.size + 1 := by rw [hH1]; simp
  have nx1 : Nx 0 H0.size (H0.size + 1) := Nx.new hm0.size
  replace hm0 := hm0.tr hs1
  have hz1 := hs1.size
  replace vz : Var 46 H1 H0.size (fZ) := vz
  refine LR.v (Y.assign rfl rfl) (Wd.u rfl) rfl rfl ?_
  refine LR.nil ?_
  refine hK1 _ _ ?_
  refine CW.seq (fun K2 hK2 hE2 => ?_)
  refine CW.region ?_
  refine LR.z (Z.makeMap (fk := Str) (fv := idV) rfl) (Wd.u rfl) rfl rfl (fun v6 H6 r6 => ?_)
  obtain ⟨mo, hs6⟩ := r6
  replace vz := vz.nw hs6
  replace hm0 := hm0.tr hs6
  have hz2 := hs6.size
  refine LR.v (Y.assign rfl rfl) (Wd.u rfl) rfl rfl ?_
  refine LR.nil ?_
  refine hK2 _ _ ?_
  refine CW.seq (fun K3 hK3 hE3 => ?_)
  refine CW.seq (fun K4 hK4 hE4 => ?_)
  refine CW.region ?_
  refine LR.v (Y.fieldAddr vz.pt rfl Tryd.runUnderlying46 rfl rfl Tryd.sizeOf42 (by decide) rfl) (Wd.u rfl) rfl rfl ?_
  refine LR.v (Y.load1 (vz.pt.drop 1) rfl Tryd.isAgg42 rfl) (Wd.u rfl) rfl rfl ?_
  refine LR.v (Y.cast (v2 := .int .i64 0) (Y.len (Rd.nil (fun _ => True) _ fI 1) rfl Tryd.runUnderlying42 rfl) (rfl)) (Wd.u rfl) rfl rfl ?_
  refine LR.v (Y.move rfl rfl) (Wd.u rfl) rfl rfl ?_
  refine LR.nil ?_
  refine hK4 _ _ ?_
  refine CW.block (fun K5 hK5 hX5 hE5 => ?_)
  -- WARN live slot not in fl: 8
  refine CW.loop (fun (_ : Unit) => [(3, v6), (9, .int .i64 0), (10, .int .i64 0)])
    (fun (_ : Unit) (H : Heap) => (True) ∧ Nw H6 H)
    (fun (_ : Unit) => 0) () ⟨rfl, rfl, rfl, trivial⟩ ?_ ?_
  ·
    exact ⟨trivial, Mo.refl _ _⟩
  intro _ HL1 hI1 K6 hN6 hE6
  obtain ⟨hT, hlm1⟩ := hI1
  replace mo := mo.nw hlm1
  replace hm0 := hm0.tr hlm1
  have hz3 := hlm1.size
  refine CW.seq (fun K7 hK7 hE7 => ?_)
  refine CW.region ?_
  refine LR.v (Y.lss rfl rfl rfl) (Wd.u rfl) rfl rfl ?_
  refine LR.nil ?_
  refine hK7 _ _ ?_
  refine CW.seq (fun K8 hK8 hE8 => ?_)
  refine CW.condp rfl (fun c11 => ?_) (fun c11 => ?_)
  ·
    exfalso; omega
  ·
    refine CW.exit (hE8 (.exit 0) nofun _ _ (hE6 (.exit 0) nofun _ _ (hX5 _ _ ?_)))
    refine hK3 _ _ ?_
    refine CW.seq (fun K9 hK9 hE9 => ?_)
    refine CW.region ?_
    refine LR.v (Y.move rfl rfl) (Wd.u rfl) rfl rfl ?_
    refine LR.v (Y.assign rfl rfl) (Wd.u rfl) rfl rfl ?_
    refine LR.nil ?_
    refine hK9 _ _ ?_
    refine CW.ret (hret .ret (.inr rfl) _ _ _ (res1 rfl rfl) ?_)
    exact ⟨_, rfl, mo.imp (fun _ _ _ => trivial), hm0⟩

end Go.Proofs.YtabopjdbgkhacaaDoor.SeqC
