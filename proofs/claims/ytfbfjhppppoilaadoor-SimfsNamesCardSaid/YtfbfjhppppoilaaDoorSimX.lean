/-
  The disk: what is a path, and which its directory: the document's functions (the statement SimfsNames' function).
-/
import Derived.Test.YtfbfjhppppoilaaDoorSimU
namespace Go.Proofs.YtfbfjhppppoilaaDoor.SimX
open Go.Proofs.YtfbfjhppppoilaaDoor.E Go.RowKit Go.Proofs.YtfbfjhppppoilaaDoor.SimA Go.Proofs.YtfbfjhppppoilaaDoor.SimB Go.Proofs.YtfbfjhppppoilaaDoor.SimC Go.Proofs.YtfbfjhppppoilaaDoor.SimD Go.Proofs.YtfbfjhppppoilaaDoor.SimE Go.Proofs.YtfbfjhppppoilaaDoor.SimF Go.Proofs.YtfbfjhppppoilaaDoor.SimG Go.Proofs.YtfbfjhppppoilaaDoor.SimH Go.Proofs.YtfbfjhppppoilaaDoor.SimI Go.Proofs.YtfbfjhppppoilaaDoor.SimJ Go.Proofs.YtfbfjhppppoilaaDoor.SimK Go.Proofs.YtfbfjhppppoilaaDoor.SimL Go.Proofs.YtfbfjhppppoilaaDoor.SimM Go.Proofs.YtfbfjhppppoilaaDoor.SimN Go.Proofs.YtfbfjhppppoilaaDoor.SimP Go.Proofs.YtfbfjhppppoilaaDoor.SimQ Go.Proofs.YtfbfjhppppoilaaDoor.SimR Go.Proofs.YtfbfjhppppoilaaDoor.SimS Go.Proofs.YtfbfjhppppoilaaDoor.SimU
set_option maxRecDepth 20000
set_option linter.unusedVariables false
set_option linter.unusedSimpArgs false
set_option linter.unusedSectionVars false

theorem okc_iff2 (c : UInt8) : okc c = true ↔ (97 ≤ c.toNat ∧ c.toNat ≤ 122) ∨ (48 ≤ c.toNat ∧ c.toNat ≤ 57) ∨ c.toNat = 46 ∨ c.toNat = 95 ∨ c.toNat = 45 ∨ c.toNat = 47 := by
  have h : ∀ n : Fin 256, (okc (UInt8.ofNat n.val) = decide ((97 ≤ n.val ∧ n.val ≤ 122) ∨ (48 ≤ n.val ∧ n.val ≤ 57) ∨ n.val = 46 ∨ n.val = 95 ∨ n.val = 45 ∨ n.val = 47)) := by decide +kernel
  have := h ⟨c.toNat, c.toNat_lt⟩
  simp only [UInt8.ofNat_toNat] at this
  rw [this, decide_eq_true_iff]
/-- the character at a place stands right -/
def okAt (l : List UInt8) (q : Nat) : Prop := okc (l.getD q 0) = true ∧ ¬ ((l.getD q 0).toNat = 47 ∧ (q = 0 ∨ q = l.length - 1 ∨ (l.getD (q - 1) 0).toNat = 47))
theorem getD_at {l : List UInt8} {q : Nat} (h : q < l.length) : l.getD q 0 = l[q] := by rw [List.getD_eq_getElem?_getD, List.getElem?_eq_getElem h]; rfl
theorem nat47 {c : UInt8} : c.toNat = 47 ↔ c = 47 := ⟨fun h => UInt8.toNat.inj h, fun h => by rw [h]; rfl⟩
theorem name_iff2 (l : List UInt8) : nameB l = true ↔ 1 ≤ l.length ∧ l.length ≤ 100 ∧ ∀ q, q < l.length → okAt l q := by
  unfold nameB slk okAt
  simp only [Bool.and_eq_true, decide_eq_true_eq, List.all_eq_true, List.mem_range, Bool.not_eq_true', nat47]
  constructor
  · rintro ⟨⟨⟨h1, h2⟩, h3⟩, h4⟩
    refine ⟨h1, h2, fun q hq => ⟨by rw [getD_at hq]; exact h3 _ (List.getElem_mem hq), ?_⟩⟩
    rintro ⟨e1, e2⟩
    have h5 := h4 q hq
    have e3 : (q == 0 || q == l.length - 1 || l.getD (q - 1) 0 == 47) = true := by simpa [or_assoc] using e2
    rw [e1, e3] at h5
    simp at h5
  · rintro ⟨h1, h2, h3⟩
    refine ⟨⟨⟨h1, h2⟩, fun x hx => ?_⟩, fun q hq => ?_⟩
    · obtain ⟨q, hq, rfl⟩ := List.getElem_of_mem hx
      have := (h3 q hq).1; rwa [getD_at hq] at this
    · have h5 := (h3 q hq).2
      cases hb : (l.getD q 0 == 47 && (q == 0 || q == l.length - 1 || l.getD (q - 1) 0 == 47)) with
      | false => rfl
      | true =>
        exfalso
        simp only [Bool.and_eq_true, Bool.or_eq_true, beq_iff_eq, or_assoc] at hb
        exact h5 hb
theorem head_at {l : List UInt8} {k : Nat} (hk : k < l.length) (h47 : l[k] = 47) (hno : ∀ q, q < l.length → k < q → (l.getD q 0).toNat ≠ 47) : headP l = l.take k := by
  have e : l = l.take k ++ l[k] :: l.drop (k + 1) := by rw [← List.drop_eq_getElem_cons hk, List.take_append_drop]
  have e3 := congrArg List.reverse e
  rw [List.reverse_append, List.reverse_cons, List.append_assoc] at e3
  unfold headP
  have e2 : (l.reverse.takeWhile (fun c => decide (c ≠ 47))).length = l.length - (k + 1) := by
    rw [e3, List.takeWhile_append_of_pos, List.singleton_append, List.takeWhile_cons_of_neg (by simp [h47])]
    · simp
    · intro a ha
      rw [List.mem_reverse] at ha
      obtain ⟨q, hq, rfl⟩ := List.getElem_of_mem ha
      rw [List.length_drop] at hq
      have h9 := hno (k + 1 + q) (by omega) (by omega)
      rw [getD_at (by omega)] at h9
      rw [List.getElem_drop]
      exact decide_eq_true (fun h => h9 (nat47.2 h))
  rw [e2]; congr 1; omega
theorem head_no {l : List UInt8} (hno : ∀ q, q < l.length → (l.getD q 0).toNat ≠ 47) : headP l = [] := by
  have e2 : l.reverse.takeWhile (fun c => decide (c ≠ 47)) = l.reverse := by
    have := List.takeWhile_append_of_pos (p := fun c : UInt8 => decide (c ≠ 47)) (l₁ := l.reverse) (l₂ := []) (fun a ha => by
      rw [List.mem_reverse] at ha
      obtain ⟨q, hq, rfl⟩ := List.getElem_of_mem ha
      have h9 := hno q hq
      rw [getD_at hq] at h9
      exact decide_eq_true (fun h => h9 (nat47.2 h)))
    simpa using this
  unfold headP
  rw [e2, List.length_reverse, show l.length - 1 - l.length = 0 by omega, List.take_zero]
theorem name_no {l : List UInt8} (h : ¬ (1 ≤ l.length ∧ l.length ≤ 100 ∧ ∀ q, q < l.length → okAt l q)) : nameB l = false := by
  cases hb : nameB l with
  | false => rfl
  | true => exact absurd ((name_iff2 l).1 hb) h

set_option maxHeartbeats 4000000 in
theorem rname_ct (l : List UInt8) (w0 : World) (H0 : Heap)
    (hl : l.length ≤ 4294967280) :
    Ct Tryd.prog w0 13 #[Str l] H0 (fun r H2 => r = .bool (nameB l) ∧ Nw H0 H2) := by
  refine Ct.enter (args := [Str l]) Tryd.func13 rfl rfl rfl ?_
  intro Q0 hret
  have hm0 : Nw H0 H0 := Mo.refl _ _
  refine CW.seq (fun K1 hK1 hE1 => ?_)
  refine CW.region ?_
  refine LR.v (Y.assign rfl rfl) (Wd.u rfl) rfl rfl ?_
  refine LR.nil ?_
  refine hK1 _ _ ?_
  refine CW.seq (fun K2 hK2 hE2 => ?_)
  refine CW.seq (fun K3 hK3 hE3 => ?_)
  refine CW.region ?_
  refine LR.v (Y.move rfl rfl) (Wd.u rfl) rfl rfl ?_
  refine LR.v (Y.slen rfl Tryd.runUnderlying9 rfl) (Wd.u rfl) rfl rfl ?_
  refine LR.v (Y.lss rfl rfl rfl) (Wd.u rfl) rfl rfl ?_
  refine LR.v (Y.move rfl rfl) (Wd.u rfl) rfl rfl ?_
  refine LR.splitp (d := 8) rfl (fun g8 => ?_) (fun g8 => ?_)
  ·
    refine LR.gs rfl rfl rfl rfl rfl rfl ?_
    refine LR.gs rfl rfl rfl rfl rfl rfl ?_
    refine LR.gs rfl rfl rfl rfl rfl rfl ?_
    refine LR.v (Y.pick_t rfl rfl rfl) (Wd.u rfl) rfl rfl ?_
    refine LR.nil ?_
    refine hK3 _ _ ?_
    refine CW.cond_t rfl ?_
    refine CW.seq (fun K4 hK4 hE4 => ?_)
    refine CW.region ?_
    refine LR.v (Y.assign rfl rfl) (Wd.u rfl) rfl rfl ?_
    refine LR.nil ?_
    refine hK4 _ _ ?_
    refine CW.ret (hE2 .ret nofun _ _ (hret .ret (.inr rfl) _ _ _ (res1 rfl rfl) ?_))
    exact ⟨congrArg Value.bool (name_no (fun h => by obtain ⟨h1, h2, h3⟩ := h; omega)).symm, hm0⟩
  ·
    refine LR.v (Y.move rfl rfl) (Wd.g rfl rfl rfl) rfl rfl ?_
    refine LR.v (Y.slen rfl Tryd.runUnderlying9 rfl) (Wd.g rfl rfl rfl) rfl rfl ?_
    refine LR.v (Y.gtr rfl rfl rfl) (Wd.g rfl rfl rfl) rfl rfl ?_
    refine LR.v (Y.pick_f rfl rfl rfl) (Wd.u rfl) rfl rfl ?_
    refine LR.nil ?_
    refine hK3 _ _ ?_
    refine CW.condp rfl (fun c12 => ?_) (fun c12 => ?_)
    ·
      refine CW.seq (fun K5 hK5 hE5 => ?_)
      refine CW.region ?_
      refine LR.v (Y.assign rfl rfl) (Wd.u rfl) rfl rfl ?_
      refine LR.nil ?_
      refine hK5 _ _ ?_
      refine CW.ret (hE2 .ret nofun _ _ (hret .ret (.inr rfl) _ _ _ (res1 rfl rfl) ?_))
      exact ⟨congrArg Value.bool (name_no (fun h => by obtain ⟨h1, h2, h3⟩ := h; omega)).symm, hm0⟩
    ·
      refine CW.skip ?_
      refine hK2 _ _ ?_
      refine CW.seq (fun K6 hK6 hE6 => ?_)
      refine CW.seq (fun K7 hK7 hE7 => ?_)
      refine CW.region ?_
      refine LR.v (Y.assign rfl rfl) (Wd.u rfl) rfl rfl ?_
      refine LR.nil ?_
      refine hK7 _ _ ?_
      refine CW.block (fun K8 hK8 hX8 hE8 => ?_)
      refine CW.loop (fun (i : (Nat)) => [(0, Str l), (3, .int .i64 (i : Int))])
        (fun (i : (Nat)) (H : Heap) => (i ≤ l.length) ∧ (∀ q, q < l.length → q < i → okAt l q) ∧ Nw H0 H)
        (fun (i : (Nat)) => l.length - i) 0 ⟨rfl, rfl, trivial⟩ ?_ ?_
      ·
        exact ⟨(by omega), (fun q h h2 => absurd h2 (by omega)), Mo.refl _ _⟩
      intro i HL1 hI1 K9 hN9 hE9
      obtain ⟨hi, hok, hlm1⟩ := hI1
      replace hm0 := hm0.tr hlm1
      have hz1 := hlm1.size
      refine CW.seq (fun K10 hK10 hE10 => ?_)
      refine CW.seq (fun K11 hK11 hE11 => ?_)
      refine CW.region ?_
      refine LR.v (Y.move rfl rfl) (Wd.u rfl) rfl rfl ?_
      refine LR.v (Y.move rfl rfl) (Wd.u rfl) rfl rfl ?_
      refine LR.v (Y.slen rfl Tryd.runUnderlying9 rfl) (Wd.u rfl) rfl rfl ?_
      refine LR.v (Y.lss rfl rfl rfl) (Wd.u rfl) rfl rfl ?_
      refine LR.nil ?_
      refine hK11 _ _ ?_
      refine CW.condp rfl (fun c16 => ?_) (fun c16 => ?_)
      ·
        have hil : i < l.length := by omega
        refine CW.skip ?_
        refine hK10 _ _ ?_
        refine CW.cut (fun (_ : Unit) => [(0, Str l), (3, .int .i64 (i : Int))])
          (fun (_ : Unit) (H : Heap) => (okAt l i) ∧ Nw HL1 H) (fun K12 hK12 hE12 => ?_) ?_
        ·
          have hcm12 : Nw HL1 HL1 := Mo.refl _ _
          refine CW.block (fun K13 hK13 hX13 hE13 => ?_)
          refine CW.seq (fun K14 hK14 hE14 => ?_)
          refine CW.region ?_
          refine LR.v (Y.move rfl rfl) (Wd.u rfl) rfl rfl ?_
          refine LR.v (Y.move rfl rfl) (Wd.u rfl) rfl rfl ?_
          refine LR.v (Y.sindex (i) rfl Tryd.runUnderlying9 rfl rfl (by first | rfl | omega) (by omega)) (Wd.u rfl) rfl rfl ?_
          refine LR.v (Y.assign rfl rfl) (Wd.u rfl) rfl rfl ?_
          refine LR.nil ?_
          refine hK14 _ _ ?_
          refine CW.cut (fun (_ : Unit) => [(0, Str l), (3, .int .i64 (i : Int)), (4, .int .u8 (l[i].toNat : Int))])
            (fun (_ : Unit) (H : Heap) => (¬ (l[i].toNat = 47 ∧ (i = 0 ∨ i = l.length - 1 ∨ (l.getD (i - 1) 0).toNat = 47))) ∧ Nw HL1 H) (fun K15 hK15 hE15 => ?_) ?_
          ·
            have hcm15 : Nw HL1 HL1 := Mo.refl _ _
            refine CW.seq (fun K16 hK16 hE16 => ?_)
            refine CW.region ?_
            refine LR.v (Y.move rfl rfl) (Wd.u rfl) rfl rfl ?_
            refine LR.v (Y.eql rfl rfl rfl) (Wd.u rfl) rfl rfl ?_
            refine LR.v (Y.move rfl rfl) (Wd.u rfl) rfl rfl ?_
            refine LR.splitp (d := 24) rfl (fun g24 => ?_) (fun g24 => ?_)
            ·
              refine LR.v (Y.move rfl rfl) (Wd.g rfl rfl rfl) rfl rfl ?_
              refine LR.v (Y.eql rfl rfl rfl) (Wd.g rfl rfl rfl) rfl rfl ?_
              refine LR.v (Y.move rfl rfl) (Wd.g rfl rfl rfl) rfl rfl ?_
              refine LR.splitp (d := 27) rfl (fun g27 => ?_) (fun g27 => ?_)
              ·
                refine LR.gs rfl rfl rfl rfl rfl rfl ?_
                refine LR.gs rfl rfl rfl rfl rfl rfl ?_
                refine LR.gs rfl rfl rfl rfl rfl rfl ?_
                refine LR.gs rfl rfl rfl rfl rfl rfl ?_
                refine LR.gs rfl rfl rfl rfl rfl rfl ?_
                refine LR.v (Y.pick_t rfl rfl rfl) (Wd.g rfl rfl rfl) rfl rfl ?_
                refine LR.v (Y.move rfl rfl) (Wd.g rfl rfl rfl) rfl rfl ?_
                refine LR.gs rfl rfl rfl rfl rfl rfl ?_
                refine LR.gs rfl rfl rfl rfl rfl rfl ?_
                refine LR.gs rfl rfl rfl rfl rfl rfl ?_
                refine LR.gs rfl rfl rfl rfl rfl rfl ?_
                refine LR.gs rfl rfl rfl rfl rfl rfl ?_
                refine LR.v (Y.pick_t rfl rfl rfl) (Wd.g rfl rfl rfl) rfl rfl ?_
                refine LR.v (Y.pick_t rfl rfl rfl) (Wd.u rfl) rfl rfl ?_
                refine LR.nil ?_
                refine hK16 _ _ ?_
                refine CW.cond_t rfl ?_
                refine CW.seq (fun K17 hK17 hE17 => ?_)
                refine CW.region ?_
                refine LR.v (Y.assign rfl rfl) (Wd.u rfl) rfl rfl ?_
                refine LR.nil ?_
                refine hK17 _ _ ?_
                refine CW.ret (hE15 .ret nofun _ _ (hE13 .ret nofun (by simp) _ _ (hE12 .ret nofun _ _ (hE9 .ret nofun _ _ (hE8 .ret nofun (by simp) _ _ (hE6 .ret nofun _ _ (hret .ret (.inr rfl) _ _ _ (res1 rfl rfl) ?_)))))))
                exact ⟨congrArg Value.bool (name_no (fun h => (h.2.2 i hil).2 ⟨by rw [getD_at hil]; omega, by first | (left; omega) | (right; left; omega) | (right; right; rw [getD_at (by omega)]; omega)⟩)).symm, hm0⟩
              ·
                refine LR.v (Y.move rfl rfl) (Wd.g rfl rfl rfl) rfl rfl ?_
                refine LR.v (Y.move rfl rfl) (Wd.g rfl rfl rfl) rfl rfl ?_
                refine LR.v (Y.slen rfl Tryd.runUnderlying9 rfl) (Wd.g rfl rfl rfl) rfl rfl ?_
                refine LR.v (Y.subi rfl rfl rfl (by omega)) (Wd.g rfl rfl rfl) rfl rfl ?_
                refine LR.v (Y.eql rfl rfl rfl) (Wd.g rfl rfl rfl) rfl rfl ?_
                refine LR.v (Y.pick_f rfl rfl rfl) (Wd.g rfl rfl rfl) rfl rfl ?_
                refine LR.v (Y.move rfl rfl) (Wd.g rfl rfl rfl) rfl rfl ?_
                refine LR.splitp (d := 34) rfl (fun g34 => ?_) (fun g34 => ?_)
                ·
                  refine LR.gs rfl rfl rfl rfl rfl rfl ?_
                  refine LR.gs rfl rfl rfl rfl rfl rfl ?_
                  refine LR.gs rfl rfl rfl rfl rfl rfl ?_
                  refine LR.gs rfl rfl rfl rfl rfl rfl ?_
                  refine LR.gs rfl rfl rfl rfl rfl rfl ?_
                  refine LR.v (Y.pick_t rfl rfl rfl) (Wd.g rfl rfl rfl) rfl rfl ?_
                  refine LR.v (Y.pick_t rfl rfl rfl) (Wd.u rfl) rfl rfl ?_
                  refine LR.nil ?_
                  refine hK16 _ _ ?_
                  refine CW.cond_t rfl ?_
                  refine CW.seq (fun K18 hK18 hE18 => ?_)
                  refine CW.region ?_
                  refine LR.v (Y.assign rfl rfl) (Wd.u rfl) rfl rfl ?_
                  refine LR.nil ?_
                  refine hK18 _ _ ?_
                  refine CW.ret (hE15 .ret nofun _ _ (hE13 .ret nofun (by simp) _ _ (hE12 .ret nofun _ _ (hE9 .ret nofun _ _ (hE8 .ret nofun (by simp) _ _ (hE6 .ret nofun _ _ (hret .ret (.inr rfl) _ _ _ (res1 rfl rfl) ?_)))))))
                  exact ⟨congrArg Value.bool (name_no (fun h => (h.2.2 i hil).2 ⟨by rw [getD_at hil]; omega, by first | (left; omega) | (right; left; omega) | (right; right; rw [getD_at (by omega)]; omega)⟩)).symm, hm0⟩
                ·
                  refine LR.v (Y.move rfl rfl) (Wd.g rfl rfl rfl) rfl rfl ?_
                  refine LR.v (Y.move rfl rfl) (Wd.g rfl rfl rfl) rfl rfl ?_
                  refine LR.v (Y.subi rfl rfl rfl (by omega)) (Wd.g rfl rfl rfl) rfl rfl ?_
                  refine LR.v (Y.sindex (i - 1) rfl Tryd.runUnderlying9 rfl rfl (by first | rfl | omega) (by omega)) (Wd.g rfl rfl rfl) rfl rfl ?_
                  refine LR.v (Y.eql rfl rfl rfl) (Wd.g rfl rfl rfl) rfl rfl ?_
                  refine LR.v (Y.pick_f rfl rfl rfl) (Wd.g rfl rfl rfl) rfl rfl ?_
                  refine LR.v (Y.pick_t rfl rfl rfl) (Wd.u rfl) rfl rfl ?_
                  refine LR.nil ?_
                  refine hK16 _ _ ?_
                  refine CW.condp rfl (fun c41 => ?_) (fun c41 => ?_)
                  ·
                    refine CW.seq (fun K19 hK19 hE19 => ?_)
                    refine CW.region ?_
                    refine LR.v (Y.assign rfl rfl) (Wd.u rfl) rfl rfl ?_
                    refine LR.nil ?_
                    refine hK19 _ _ ?_
                    refine CW.ret (hE15 .ret nofun _ _ (hE13 .ret nofun (by simp) _ _ (hE12 .ret nofun _ _ (hE9 .ret nofun _ _ (hE8 .ret nofun (by simp) _ _ (hE6 .ret nofun _ _ (hret .ret (.inr rfl) _ _ _ (res1 rfl rfl) ?_)))))))
                    exact ⟨congrArg Value.bool (name_no (fun h => (h.2.2 i hil).2 ⟨by rw [getD_at hil]; omega, by first | (left; omega) | (right; left; omega) | (right; right; rw [getD_at (by omega)]; omega)⟩)).symm, hm0⟩
                  ·
                    refine CW.skip ?_
                    refine QN.sub (hK15 () _ ?_) ⟨rfl, (iv (by omega)), (iv (by omega)), trivial⟩
                    exact ⟨(fun h => by obtain ⟨e1, e2⟩ := h; rcases e2 with e2 | e2 | e2 <;> first | omega | (rw [getD_at (by omega)] at e2; omega)), hcm15⟩
            ·
              refine LR.gs rfl rfl rfl rfl rfl rfl ?_
              refine LR.gs rfl rfl rfl rfl rfl rfl ?_
              refine LR.gs rfl rfl rfl rfl rfl rfl ?_
              refine LR.gsu rfl rfl rfl rfl rfl ?_
              refine LR.gsu rfl rfl rfl rfl rfl ?_
              refine LR.gsu rfl rfl rfl rfl rfl ?_
              refine LR.gsu rfl rfl rfl rfl rfl ?_
              refine LR.gsu rfl rfl rfl rfl rfl ?_
              refine LR.gs rfl rfl rfl rfl rfl rfl ?_
              refine LR.gs rfl rfl rfl rfl rfl rfl ?_
              refine LR.gsu rfl rfl rfl rfl rfl ?_
              refine LR.gsu rfl rfl rfl rfl rfl ?_
              refine LR.gsu rfl rfl rfl rfl rfl ?_
              refine LR.gsu rfl rfl rfl rfl rfl ?_
              refine LR.gsu rfl rfl rfl rfl rfl ?_
              refine LR.gs rfl rfl rfl rfl rfl rfl ?_
              refine LR.v (Y.pick_f rfl rfl rfl) (Wd.u rfl) rfl rfl ?_
              refine LR.nil ?_
              refine hK16 _ _ ?_
              refine CW.cond_f rfl ?_
              refine CW.skip ?_
              refine QN.sub (hK15 () _ ?_) ⟨rfl, (iv (by omega)), (iv (by omega)), trivial⟩
              exact ⟨(fun h => by obtain ⟨e1, e2⟩ := h; rcases e2 with e2 | e2 | e2 <;> first | omega | (rw [getD_at (by omega)] at e2; omega)), hcm15⟩
          ·
            intro _ Hcutc41 hIcutc41
            obtain ⟨hs2, hlmcutc41⟩ := hIcutc41
            replace hm0 := hm0.tr hlmcutc41
            replace hlm1 := hlm1.tr hlmcutc41
            replace hcm12 := hcm12.tr hlmcutc41
            have hz2 := hlmcutc41.size
            refine CW.seq (fun K20 hK20 hE20 => ?_)
            refine CW.region ?_
            refine LR.v (Y.move rfl rfl) (Wd.u rfl) rfl rfl ?_
            refine LR.v (Y.lss rfl rfl rfl) (Wd.u rfl) rfl rfl ?_
            refine LR.v (Y.move rfl rfl) (Wd.u rfl) rfl rfl ?_
            refine LR.splitp (d := 44) rfl (fun g44 => ?_) (fun g44 => ?_)
            ·
              refine LR.gs rfl rfl rfl rfl rfl rfl ?_
              refine LR.gs rfl rfl rfl rfl rfl rfl ?_
              refine LR.v (Y.pick_t rfl rfl rfl) (Wd.u rfl) rfl rfl ?_
              refine LR.v (Y.move rfl rfl) (Wd.u rfl) rfl rfl ?_
              refine LR.v (Y.move rfl rfl) (Wd.g rfl rfl rfl) rfl rfl ?_
              refine LR.v (Y.lss rfl rfl rfl) (Wd.g rfl rfl rfl) rfl rfl ?_
              refine LR.v (Y.move rfl rfl) (Wd.g rfl rfl rfl) rfl rfl ?_
              refine LR.splitp (d := 51) rfl (fun g51 => ?_) (fun g51 => ?_)
              ·
                refine LR.gs rfl rfl rfl rfl rfl rfl ?_
                refine LR.gs rfl rfl rfl rfl rfl rfl ?_
                refine LR.v (Y.pick_t rfl rfl rfl) (Wd.g rfl rfl rfl) rfl rfl ?_
                refine LR.v (Y.pick_t rfl rfl rfl) (Wd.u rfl) rfl rfl ?_
                refine LR.v (Y.move rfl rfl) (Wd.u rfl) rfl rfl ?_
                refine LR.v (Y.move rfl rfl) (Wd.g rfl rfl rfl) rfl rfl ?_
                refine LR.v (Y.neq rfl rfl rfl) (Wd.g rfl rfl rfl) rfl rfl ?_
                refine LR.v (Y.pick_t rfl rfl rfl) (Wd.u rfl) rfl rfl ?_
                refine LR.v (Y.move rfl rfl) (Wd.u rfl) rfl rfl ?_
                refine LR.splitp (d := 60) rfl (fun g60 => ?_) (fun g60 => ?_)
                ·
                  refine LR.v (Y.move rfl rfl) (Wd.g rfl rfl rfl) rfl rfl ?_
                  refine LR.v (Y.neq rfl rfl rfl) (Wd.g rfl rfl rfl) rfl rfl ?_
                  refine LR.v (Y.pick_t rfl rfl rfl) (Wd.u rfl) rfl rfl ?_
                  refine LR.v (Y.move rfl rfl) (Wd.u rfl) rfl rfl ?_
                  refine LR.splitp (d := 64) rfl (fun g64 => ?_) (fun g64 => ?_)
                  ·
                    refine LR.v (Y.move rfl rfl) (Wd.g rfl rfl rfl) rfl rfl ?_
                    refine LR.v (Y.neq rfl rfl rfl) (Wd.g rfl rfl rfl) rfl rfl ?_
                    refine LR.v (Y.pick_t rfl rfl rfl) (Wd.u rfl) rfl rfl ?_
                    refine LR.v (Y.move rfl rfl) (Wd.u rfl) rfl rfl ?_
                    refine LR.splitp (d := 68) rfl (fun g68 => ?_) (fun g68 => ?_)
                    ·
                      refine LR.v (Y.move rfl rfl) (Wd.g rfl rfl rfl) rfl rfl ?_
                      refine LR.v (Y.neq rfl rfl rfl) (Wd.g rfl rfl rfl) rfl rfl ?_
                      refine LR.v (Y.pick_t rfl rfl rfl) (Wd.u rfl) rfl rfl ?_
                      refine LR.nil ?_
                      refine hK20 _ _ ?_
                      refine CW.condp rfl (fun c71 => ?_) (fun c71 => ?_)
                      ·
                        refine CW.seq (fun K21 hK21 hE21 => ?_)
                        refine CW.region ?_
                        refine LR.v (Y.assign rfl rfl) (Wd.u rfl) rfl rfl ?_
                        refine LR.nil ?_
                        refine hK21 _ _ ?_
                        refine CW.ret (hE13 .ret nofun (by simp) _ _ (hE12 .ret nofun _ _ (hE9 .ret nofun _ _ (hE8 .ret nofun (by simp) _ _ (hE6 .ret nofun _ _ (hret .ret (.inr rfl) _ _ _ (res1 rfl rfl) ?_))))))
                        exact ⟨congrArg Value.bool (name_no (fun h => by have h9 := (okc_iff2 _).1 (h.2.2 i hil).1; rw [getD_at hil] at h9; simp at *; omega)).symm, hm0⟩
                      ·
                        refine CW.skip ?_
                        refine hK13 _ _ ?_
                        refine QN.sub (hK12 () _ ?_) ⟨rfl, (iv (by omega)), trivial⟩
                        exact ⟨(⟨by rw [getD_at hil]; exact (okc_iff2 _).2 (by simp at *; omega), fun h => hs2 (by rw [getD_at hil] at h; exact h)⟩), hcm12⟩
                    ·
                      refine LR.gs rfl rfl rfl rfl rfl rfl ?_
                      refine LR.gs rfl rfl rfl rfl rfl rfl ?_
                      refine LR.v (Y.pick_f rfl rfl rfl) (Wd.u rfl) rfl rfl ?_
                      refine LR.nil ?_
                      refine hK20 _ _ ?_
                      refine CW.cond_f rfl ?_
                      refine CW.skip ?_
                      refine hK13 _ _ ?_
                      refine QN.sub (hK12 () _ ?_) ⟨rfl, (iv (by omega)), trivial⟩
                      exact ⟨(⟨by rw [getD_at hil]; exact (okc_iff2 _).2 (by simp at *; omega), fun h => hs2 (by rw [getD_at hil] at h; exact h)⟩), hcm12⟩
                  ·
                    refine LR.gs rfl rfl rfl rfl rfl rfl ?_
                    refine LR.gs rfl rfl rfl rfl rfl rfl ?_
                    refine LR.v (Y.pick_f rfl rfl rfl) (Wd.u rfl) rfl rfl ?_
                    refine LR.v (Y.move rfl rfl) (Wd.u rfl) rfl rfl ?_
                    refine LR.gs rfl rfl rfl rfl rfl rfl ?_
                    refine LR.gs rfl rfl rfl rfl rfl rfl ?_
                    refine LR.v (Y.pick_f rfl rfl rfl) (Wd.u rfl) rfl rfl ?_
                    refine LR.nil ?_
                    refine hK20 _ _ ?_
                    refine CW.cond_f rfl ?_
                    refine CW.skip ?_
                    refine hK13 _ _ ?_
                    refine QN.sub (hK12 () _ ?_) ⟨rfl, (iv (by omega)), trivial⟩
                    exact ⟨(⟨by rw [getD_at hil]; exact (okc_iff2 _).2 (by simp at *; omega), fun h => hs2 (by rw [getD_at hil] at h; exact h)⟩), hcm12⟩
                ·
                  refine LR.gs rfl rfl rfl rfl rfl rfl ?_
                  refine LR.gs rfl rfl rfl rfl rfl rfl ?_
                  refine LR.v (Y.pick_f rfl rfl rfl) (Wd.u rfl) rfl rfl ?_
                  refine LR.v (Y.move rfl rfl) (Wd.u rfl) rfl rfl ?_
                  refine LR.gs rfl rfl rfl rfl rfl rfl ?_
                  refine LR.gs rfl rfl rfl rfl rfl rfl ?_
                  refine LR.v (Y.pick_f rfl rfl rfl) (Wd.u rfl) rfl rfl ?_
                  refine LR.v (Y.move rfl rfl) (Wd.u rfl) rfl rfl ?_
                  refine LR.gs rfl rfl rfl rfl rfl rfl ?_
                  refine LR.gs rfl rfl rfl rfl rfl rfl ?_
                  refine LR.v (Y.pick_f rfl rfl rfl) (Wd.u rfl) rfl rfl ?_
                  refine LR.nil ?_
                  refine hK20 _ _ ?_
                  refine CW.cond_f rfl ?_
                  refine CW.skip ?_
                  refine hK13 _ _ ?_
                  refine QN.sub (hK12 () _ ?_) ⟨rfl, (iv (by omega)), trivial⟩
                  exact ⟨(⟨by rw [getD_at hil]; exact (okc_iff2 _).2 (by simp at *; omega), fun h => hs2 (by rw [getD_at hil] at h; exact h)⟩), hcm12⟩
              ·
                refine LR.v (Y.move rfl rfl) (Wd.g rfl rfl rfl) rfl rfl ?_
                refine LR.v (Y.gtr rfl rfl rfl) (Wd.g rfl rfl rfl) rfl rfl ?_
                refine LR.v (Y.pick_f rfl rfl rfl) (Wd.g rfl rfl rfl) rfl rfl ?_
                refine LR.v (Y.pick_t rfl rfl rfl) (Wd.u rfl) rfl rfl ?_
                refine LR.v (Y.move rfl rfl) (Wd.u rfl) rfl rfl ?_
                refine LR.splitp (d := 56) rfl (fun g56 => ?_) (fun g56 => ?_)
                ·
                  refine LR.v (Y.move rfl rfl) (Wd.g rfl rfl rfl) rfl rfl ?_
                  refine LR.v (Y.neq rfl rfl rfl) (Wd.g rfl rfl rfl) rfl rfl ?_
                  refine LR.v (Y.pick_t rfl rfl rfl) (Wd.u rfl) rfl rfl ?_
                  refine LR.v (Y.move rfl rfl) (Wd.u rfl) rfl rfl ?_
                  refine LR.splitp (d := 60) rfl (fun g60 => ?_) (fun g60 => ?_)
                  ·
                    refine LR.v (Y.move rfl rfl) (Wd.g rfl rfl rfl) rfl rfl ?_
                    refine LR.v (Y.neq rfl rfl rfl) (Wd.g rfl rfl rfl) rfl rfl ?_
                    refine LR.v (Y.pick_t rfl rfl rfl) (Wd.u rfl) rfl rfl ?_
                    refine LR.v (Y.move rfl rfl) (Wd.u rfl) rfl rfl ?_
                    refine LR.splitp (d := 64) rfl (fun g64 => ?_) (fun g64 => ?_)
                    ·
                      refine LR.v (Y.move rfl rfl) (Wd.g rfl rfl rfl) rfl rfl ?_
                      refine LR.v (Y.neq rfl rfl rfl) (Wd.g rfl rfl rfl) rfl rfl ?_
                      refine LR.v (Y.pick_t rfl rfl rfl) (Wd.u rfl) rfl rfl ?_
                      refine LR.v (Y.move rfl rfl) (Wd.u rfl) rfl rfl ?_
                      refine LR.splitp (d := 68) rfl (fun g68 => ?_) (fun g68 => ?_)
                      ·
                        refine LR.v (Y.move rfl rfl) (Wd.g rfl rfl rfl) rfl rfl ?_
                        refine LR.v (Y.neq rfl rfl rfl) (Wd.g rfl rfl rfl) rfl rfl ?_
                        refine LR.v (Y.pick_t rfl rfl rfl) (Wd.u rfl) rfl rfl ?_
                        refine LR.nil ?_
                        refine hK20 _ _ ?_
                        refine CW.condp rfl (fun c71 => ?_) (fun c71 => ?_)
                        ·
                          refine CW.seq (fun K22 hK22 hE22 => ?_)
                          refine CW.region ?_
                          refine LR.v (Y.assign rfl rfl) (Wd.u rfl) rfl rfl ?_
                          refine LR.nil ?_
                          refine hK22 _ _ ?_
                          refine CW.ret (hE13 .ret nofun (by simp) _ _ (hE12 .ret nofun _ _ (hE9 .ret nofun _ _ (hE8 .ret nofun (by simp) _ _ (hE6 .ret nofun _ _ (hret .ret (.inr rfl) _ _ _ (res1 rfl rfl) ?_))))))
                          exact ⟨congrArg Value.bool (name_no (fun h => by have h9 := (okc_iff2 _).1 (h.2.2 i hil).1; rw [getD_at hil] at h9; simp at *; omega)).symm, hm0⟩
                        ·
                          refine CW.skip ?_
                          refine hK13 _ _ ?_
                          refine QN.sub (hK12 () _ ?_) ⟨rfl, (iv (by omega)), trivial⟩
                          exact ⟨(⟨by rw [getD_at hil]; exact (okc_iff2 _).2 (by simp at *; omega), fun h => hs2 (by rw [getD_at hil] at h; exact h)⟩), hcm12⟩
                      ·
                        refine LR.gs rfl rfl rfl rfl rfl rfl ?_
                        refine LR.gs rfl rfl rfl rfl rfl rfl ?_
                        refine LR.v (Y.pick_f rfl rfl rfl) (Wd.u rfl) rfl rfl ?_
                        refine LR.nil ?_
                        refine hK20 _ _ ?_
                        refine CW.cond_f rfl ?_
                        refine CW.skip ?_
                        refine hK13 _ _ ?_
                        refine QN.sub (hK12 () _ ?_) ⟨rfl, (iv (by omega)), trivial⟩
                        exact ⟨(⟨by rw [getD_at hil]; exact (okc_iff2 _).2 (by simp at *; omega), fun h => hs2 (by rw [getD_at hil] at h; exact h)⟩), hcm12⟩
                    ·
                      refine LR.gs rfl rfl rfl rfl rfl rfl ?_
                      refine LR.gs rfl rfl rfl rfl rfl rfl ?_
                      refine LR.v (Y.pick_f rfl rfl rfl) (Wd.u rfl) rfl rfl ?_
                      refine LR.v (Y.move rfl rfl) (Wd.u rfl) rfl rfl ?_
                      refine LR.gs rfl rfl rfl rfl rfl rfl ?_
                      refine LR.gs rfl rfl rfl rfl rfl rfl ?_
                      refine LR.v (Y.pick_f rfl rfl rfl) (Wd.u rfl) rfl rfl ?_
                      refine LR.nil ?_
                      refine hK20 _ _ ?_
                      refine CW.cond_f rfl ?_
                      refine CW.skip ?_
                      refine hK13 _ _ ?_
                      refine QN.sub (hK12 () _ ?_) ⟨rfl, (iv (by omega)), trivial⟩
                      exact ⟨(⟨by rw [getD_at hil]; exact (okc_iff2 _).2 (by simp at *; omega), fun h => hs2 (by rw [getD_at hil] at h; exact h)⟩), hcm12⟩
                  ·
                    refine LR.gs rfl rfl rfl rfl rfl rfl ?_
                    refine LR.gs rfl rfl rfl rfl rfl rfl ?_
                    refine LR.v (Y.pick_f rfl rfl rfl) (Wd.u rfl) rfl rfl ?_
                    refine LR.v (Y.move rfl rfl) (Wd.u rfl) rfl rfl ?_
                    refine LR.gs rfl rfl rfl rfl rfl rfl ?_
                    refine LR.gs rfl rfl rfl rfl rfl rfl ?_
                    refine LR.v (Y.pick_f rfl rfl rfl) (Wd.u rfl) rfl rfl ?_
                    refine LR.v (Y.move rfl rfl) (Wd.u rfl) rfl rfl ?_
                    refine LR.gs rfl rfl rfl rfl rfl rfl ?_
                    refine LR.gs rfl rfl rfl rfl rfl rfl ?_
                    refine LR.v (Y.pick_f rfl rfl rfl) (Wd.u rfl) rfl rfl ?_
                    refine LR.nil ?_
                    refine hK20 _ _ ?_
                    refine CW.cond_f rfl ?_
                    refine CW.skip ?_
                    refine hK13 _ _ ?_
                    refine QN.sub (hK12 () _ ?_) ⟨rfl, (iv (by omega)), trivial⟩
                    exact ⟨(⟨by rw [getD_at hil]; exact (okc_iff2 _).2 (by simp at *; omega), fun h => hs2 (by rw [getD_at hil] at h; exact h)⟩), hcm12⟩
                ·
                  refine LR.gs rfl rfl rfl rfl rfl rfl ?_
                  refine LR.gs rfl rfl rfl rfl rfl rfl ?_
                  refine LR.v (Y.pick_f rfl rfl rfl) (Wd.u rfl) rfl rfl ?_
                  refine LR.v (Y.move rfl rfl) (Wd.u rfl) rfl rfl ?_
                  refine LR.gs rfl rfl rfl rfl rfl rfl ?_
                  refine LR.gs rfl rfl rfl rfl rfl rfl ?_
                  refine LR.v (Y.pick_f rfl rfl rfl) (Wd.u rfl) rfl rfl ?_
                  refine LR.v (Y.move rfl rfl) (Wd.u rfl) rfl rfl ?_
                  refine LR.gs rfl rfl rfl rfl rfl rfl ?_
                  refine LR.gs rfl rfl rfl rfl rfl rfl ?_
                  refine LR.v (Y.pick_f rfl rfl rfl) (Wd.u rfl) rfl rfl ?_
                  refine LR.v (Y.move rfl rfl) (Wd.u rfl) rfl rfl ?_
                  refine LR.gs rfl rfl rfl rfl rfl rfl ?_
                  refine LR.gs rfl rfl rfl rfl rfl rfl ?_
                  refine LR.v (Y.pick_f rfl rfl rfl) (Wd.u rfl) rfl rfl ?_
                  refine LR.nil ?_
                  refine hK20 _ _ ?_
                  refine CW.cond_f rfl ?_
                  refine CW.skip ?_
                  refine hK13 _ _ ?_
                  refine QN.sub (hK12 () _ ?_) ⟨rfl, (iv (by omega)), trivial⟩
                  exact ⟨(⟨by rw [getD_at hil]; exact (okc_iff2 _).2 (by simp at *; omega), fun h => hs2 (by rw [getD_at hil] at h; exact h)⟩), hcm12⟩
            ·
              refine LR.v (Y.move rfl rfl) (Wd.g rfl rfl rfl) rfl rfl ?_
              refine LR.v (Y.gtr rfl rfl rfl) (Wd.g rfl rfl rfl) rfl rfl ?_
              refine LR.v (Y.pick_f rfl rfl rfl) (Wd.u rfl) rfl rfl ?_
              refine LR.v (Y.move rfl rfl) (Wd.u rfl) rfl rfl ?_
              refine LR.splitp (d := 48) rfl (fun g48 => ?_) (fun g48 => ?_)
              ·
                refine LR.v (Y.move rfl rfl) (Wd.g rfl rfl rfl) rfl rfl ?_
                refine LR.v (Y.lss rfl rfl rfl) (Wd.g rfl rfl rfl) rfl rfl ?_
                refine LR.v (Y.move rfl rfl) (Wd.g rfl rfl rfl) rfl rfl ?_
                refine LR.splitp (d := 51) rfl (fun g51 => ?_) (fun g51 => ?_)
                ·
                  refine LR.gs rfl rfl rfl rfl rfl rfl ?_
                  refine LR.gs rfl rfl rfl rfl rfl rfl ?_
                  refine LR.v (Y.pick_t rfl rfl rfl) (Wd.g rfl rfl rfl) rfl rfl ?_
                  refine LR.v (Y.pick_t rfl rfl rfl) (Wd.u rfl) rfl rfl ?_
                  refine LR.v (Y.move rfl rfl) (Wd.u rfl) rfl rfl ?_
                  refine LR.v (Y.move rfl rfl) (Wd.g rfl rfl rfl) rfl rfl ?_
                  refine LR.v (Y.neq rfl rfl rfl) (Wd.g rfl rfl rfl) rfl rfl ?_
                  refine LR.v (Y.pick_t rfl rfl rfl) (Wd.u rfl) rfl rfl ?_
                  refine LR.v (Y.move rfl rfl) (Wd.u rfl) rfl rfl ?_
                  refine LR.splitp (d := 60) rfl (fun g60 => ?_) (fun g60 => ?_)
                  ·
                    refine LR.v (Y.move rfl rfl) (Wd.g rfl rfl rfl) rfl rfl ?_
                    refine LR.v (Y.neq rfl rfl rfl) (Wd.g rfl rfl rfl) rfl rfl ?_
                    refine LR.v (Y.pick_t rfl rfl rfl) (Wd.u rfl) rfl rfl ?_
                    refine LR.v (Y.move rfl rfl) (Wd.u rfl) rfl rfl ?_
                    refine LR.splitp (d := 64) rfl (fun g64 => ?_) (fun g64 => ?_)
                    ·
                      refine LR.v (Y.move rfl rfl) (Wd.g rfl rfl rfl) rfl rfl ?_
                      refine LR.v (Y.neq rfl rfl rfl) (Wd.g rfl rfl rfl) rfl rfl ?_
                      refine LR.v (Y.pick_t rfl rfl rfl) (Wd.u rfl) rfl rfl ?_
                      refine LR.v (Y.move rfl rfl) (Wd.u rfl) rfl rfl ?_
                      refine LR.splitp (d := 68) rfl (fun g68 => ?_) (fun g68 => ?_)
                      ·
                        refine LR.v (Y.move rfl rfl) (Wd.g rfl rfl rfl) rfl rfl ?_
                        refine LR.v (Y.neq rfl rfl rfl) (Wd.g rfl rfl rfl) rfl rfl ?_
                        refine LR.v (Y.pick_t rfl rfl rfl) (Wd.u rfl) rfl rfl ?_
                        refine LR.nil ?_
                        refine hK20 _ _ ?_
                        refine CW.condp rfl (fun c71 => ?_) (fun c71 => ?_)
                        ·
                          refine CW.seq (fun K23 hK23 hE23 => ?_)
                          refine CW.region ?_
                          refine LR.v (Y.assign rfl rfl) (Wd.u rfl) rfl rfl ?_
                          refine LR.nil ?_
                          refine hK23 _ _ ?_
                          refine CW.ret (hE13 .ret nofun (by simp) _ _ (hE12 .ret nofun _ _ (hE9 .ret nofun _ _ (hE8 .ret nofun (by simp) _ _ (hE6 .ret nofun _ _ (hret .ret (.inr rfl) _ _ _ (res1 rfl rfl) ?_))))))
                          exact ⟨congrArg Value.bool (name_no (fun h => by have h9 := (okc_iff2 _).1 (h.2.2 i hil).1; rw [getD_at hil] at h9; simp at *; omega)).symm, hm0⟩
                        ·
                          refine CW.skip ?_
                          refine hK13 _ _ ?_
                          refine QN.sub (hK12 () _ ?_) ⟨rfl, (iv (by omega)), trivial⟩
                          exact ⟨(⟨by rw [getD_at hil]; exact (okc_iff2 _).2 (by simp at *; omega), fun h => hs2 (by rw [getD_at hil] at h; exact h)⟩), hcm12⟩
                      ·
                        refine LR.gs rfl rfl rfl rfl rfl rfl ?_
                        refine LR.gs rfl rfl rfl rfl rfl rfl ?_
                        refine LR.v (Y.pick_f rfl rfl rfl) (Wd.u rfl) rfl rfl ?_
                        refine LR.nil ?_
                        refine hK20 _ _ ?_
                        refine CW.cond_f rfl ?_
                        refine CW.skip ?_
                        refine hK13 _ _ ?_
                        refine QN.sub (hK12 () _ ?_) ⟨rfl, (iv (by omega)), trivial⟩
                        exact ⟨(⟨by rw [getD_at hil]; exact (okc_iff2 _).2 (by simp at *; omega), fun h => hs2 (by rw [getD_at hil] at h; exact h)⟩), hcm12⟩
                    ·
                      refine LR.gs rfl rfl rfl rfl rfl rfl ?_
                      refine LR.gs rfl rfl rfl rfl rfl rfl ?_
                      refine LR.v (Y.pick_f rfl rfl rfl) (Wd.u rfl) rfl rfl ?_
                      refine LR.v (Y.move rfl rfl) (Wd.u rfl) rfl rfl ?_
                      refine LR.gs rfl rfl rfl rfl rfl rfl ?_
                      refine LR.gs rfl rfl rfl rfl rfl rfl ?_
                      refine LR.v (Y.pick_f rfl rfl rfl) (Wd.u rfl) rfl rfl ?_
                      refine LR.nil ?_
                      refine hK20 _ _ ?_
                      refine CW.cond_f rfl ?_
                      refine CW.skip ?_
                      refine hK13 _ _ ?_
                      refine QN.sub (hK12 () _ ?_) ⟨rfl, (iv (by omega)), trivial⟩
                      exact ⟨(⟨by rw [getD_at hil]; exact (okc_iff2 _).2 (by simp at *; omega), fun h => hs2 (by rw [getD_at hil] at h; exact h)⟩), hcm12⟩
                  ·
                    refine LR.gs rfl rfl rfl rfl rfl rfl ?_
                    refine LR.gs rfl rfl rfl rfl rfl rfl ?_
                    refine LR.v (Y.pick_f rfl rfl rfl) (Wd.u rfl) rfl rfl ?_
                    refine LR.v (Y.move rfl rfl) (Wd.u rfl) rfl rfl ?_
                    refine LR.gs rfl rfl rfl rfl rfl rfl ?_
                    refine LR.gs rfl rfl rfl rfl rfl rfl ?_
                    refine LR.v (Y.pick_f rfl rfl rfl) (Wd.u rfl) rfl rfl ?_
                    refine LR.v (Y.move rfl rfl) (Wd.u rfl) rfl rfl ?_
                    refine LR.gs rfl rfl rfl rfl rfl rfl ?_
                    refine LR.gs rfl rfl rfl rfl rfl rfl ?_
                    refine LR.v (Y.pick_f rfl rfl rfl) (Wd.u rfl) rfl rfl ?_
                    refine LR.nil ?_
                    refine hK20 _ _ ?_
                    refine CW.cond_f rfl ?_
                    refine CW.skip ?_
                    refine hK13 _ _ ?_
                    refine QN.sub (hK12 () _ ?_) ⟨rfl, (iv (by omega)), trivial⟩
                    exact ⟨(⟨by rw [getD_at hil]; exact (okc_iff2 _).2 (by simp at *; omega), fun h => hs2 (by rw [getD_at hil] at h; exact h)⟩), hcm12⟩
                ·
                  refine LR.v (Y.move rfl rfl) (Wd.g rfl rfl rfl) rfl rfl ?_
                  refine LR.v (Y.gtr rfl rfl rfl) (Wd.g rfl rfl rfl) rfl rfl ?_
                  refine LR.v (Y.pick_f rfl rfl rfl) (Wd.g rfl rfl rfl) rfl rfl ?_
                  refine LR.v (Y.pick_t rfl rfl rfl) (Wd.u rfl) rfl rfl ?_
                  refine LR.v (Y.move rfl rfl) (Wd.u rfl) rfl rfl ?_
                  refine LR.splitp (d := 56) rfl (fun g56 => ?_) (fun g56 => ?_)
                  ·
                    refine LR.v (Y.move rfl rfl) (Wd.g rfl rfl rfl) rfl rfl ?_
                    refine LR.v (Y.neq rfl rfl rfl) (Wd.g rfl rfl rfl) rfl rfl ?_
                    refine LR.v (Y.pick_t rfl rfl rfl) (Wd.u rfl) rfl rfl ?_
                    refine LR.v (Y.move rfl rfl) (Wd.u rfl) rfl rfl ?_
                    refine LR.splitp (d := 60) rfl (fun g60 => ?_) (fun g60 => ?_)
                    ·
                      refine LR.v (Y.move rfl rfl) (Wd.g rfl rfl rfl) rfl rfl ?_
                      refine LR.v (Y.neq rfl rfl rfl) (Wd.g rfl rfl rfl) rfl rfl ?_
                      refine LR.v (Y.pick_t rfl rfl rfl) (Wd.u rfl) rfl rfl ?_
                      refine LR.v (Y.move rfl rfl) (Wd.u rfl) rfl rfl ?_
                      refine LR.splitp (d := 64) rfl (fun g64 => ?_) (fun g64 => ?_)
                      ·
                        refine LR.v (Y.move rfl rfl) (Wd.g rfl rfl rfl) rfl rfl ?_
                        refine LR.v (Y.neq rfl rfl rfl) (Wd.g rfl rfl rfl) rfl rfl ?_
                        refine LR.v (Y.pick_t rfl rfl rfl) (Wd.u rfl) rfl rfl ?_
                        refine LR.v (Y.move rfl rfl) (Wd.u rfl) rfl rfl ?_
                        refine LR.splitp (d := 68) rfl (fun g68 => ?_) (fun g68 => ?_)
                        ·
                          refine LR.v (Y.move rfl rfl) (Wd.g rfl rfl rfl) rfl rfl ?_
                          refine LR.v (Y.neq rfl rfl rfl) (Wd.g rfl rfl rfl) rfl rfl ?_
                          refine LR.v (Y.pick_t rfl rfl rfl) (Wd.u rfl) rfl rfl ?_
                          refine LR.nil ?_
                          refine hK20 _ _ ?_
                          refine CW.condp rfl (fun c71 => ?_) (fun c71 => ?_)
                          ·
                            refine CW.seq (fun K24 hK24 hE24 => ?_)
                            refine CW.region ?_
                            refine LR.v (Y.assign rfl rfl) (Wd.u rfl) rfl rfl ?_
                            refine LR.nil ?_
                            refine hK24 _ _ ?_
                            refine CW.ret (hE13 .ret nofun (by simp) _ _ (hE12 .ret nofun _ _ (hE9 .ret nofun _ _ (hE8 .ret nofun (by simp) _ _ (hE6 .ret nofun _ _ (hret .ret (.inr rfl) _ _ _ (res1 rfl rfl) ?_))))))
                            exact ⟨congrArg Value.bool (name_no (fun h => by have h9 := (okc_iff2 _).1 (h.2.2 i hil).1; rw [getD_at hil] at h9; simp at *; omega)).symm, hm0⟩
                          ·
                            refine CW.skip ?_
                            refine hK13 _ _ ?_
                            refine QN.sub (hK12 () _ ?_) ⟨rfl, (iv (by omega)), trivial⟩
                            exact ⟨(⟨by rw [getD_at hil]; exact (okc_iff2 _).2 (by simp at *; omega), fun h => hs2 (by rw [getD_at hil] at h; exact h)⟩), hcm12⟩
                        ·
                          refine LR.gs rfl rfl rfl rfl rfl rfl ?_
                          refine LR.gs rfl rfl rfl rfl rfl rfl ?_
                          refine LR.v (Y.pick_f rfl rfl rfl) (Wd.u rfl) rfl rfl ?_
                          refine LR.nil ?_
                          refine hK20 _ _ ?_
                          refine CW.cond_f rfl ?_
                          refine CW.skip ?_
                          refine hK13 _ _ ?_
                          refine QN.sub (hK12 () _ ?_) ⟨rfl, (iv (by omega)), trivial⟩
                          exact ⟨(⟨by rw [getD_at hil]; exact (okc_iff2 _).2 (by simp at *; omega), fun h => hs2 (by rw [getD_at hil] at h; exact h)⟩), hcm12⟩
                      ·
                        refine LR.gs rfl rfl rfl rfl rfl rfl ?_
                        refine LR.gs rfl rfl rfl rfl rfl rfl ?_
                        refine LR.v (Y.pick_f rfl rfl rfl) (Wd.u rfl) rfl rfl ?_
                        refine LR.v (Y.move rfl rfl) (Wd.u rfl) rfl rfl ?_
                        refine LR.gs rfl rfl rfl rfl rfl rfl ?_
                        refine LR.gs rfl rfl rfl rfl rfl rfl ?_
                        refine LR.v (Y.pick_f rfl rfl rfl) (Wd.u rfl) rfl rfl ?_
                        refine LR.nil ?_
                        refine hK20 _ _ ?_
                        refine CW.cond_f rfl ?_
                        refine CW.skip ?_
                        refine hK13 _ _ ?_
                        refine QN.sub (hK12 () _ ?_) ⟨rfl, (iv (by omega)), trivial⟩
                        exact ⟨(⟨by rw [getD_at hil]; exact (okc_iff2 _).2 (by simp at *; omega), fun h => hs2 (by rw [getD_at hil] at h; exact h)⟩), hcm12⟩
                    ·
                      refine LR.gs rfl rfl rfl rfl rfl rfl ?_
                      refine LR.gs rfl rfl rfl rfl rfl rfl ?_
                      refine LR.v (Y.pick_f rfl rfl rfl) (Wd.u rfl) rfl rfl ?_
                      refine LR.v (Y.move rfl rfl) (Wd.u rfl) rfl rfl ?_
                      refine LR.gs rfl rfl rfl rfl rfl rfl ?_
                      refine LR.gs rfl rfl rfl rfl rfl rfl ?_
                      refine LR.v (Y.pick_f rfl rfl rfl) (Wd.u rfl) rfl rfl ?_
                      refine LR.v (Y.move rfl rfl) (Wd.u rfl) rfl rfl ?_
                      refine LR.gs rfl rfl rfl rfl rfl rfl ?_
                      refine LR.gs rfl rfl rfl rfl rfl rfl ?_
                      refine LR.v (Y.pick_f rfl rfl rfl) (Wd.u rfl) rfl rfl ?_
                      refine LR.nil ?_
                      refine hK20 _ _ ?_
                      refine CW.cond_f rfl ?_
                      refine CW.skip ?_
                      refine hK13 _ _ ?_
                      refine QN.sub (hK12 () _ ?_) ⟨rfl, (iv (by omega)), trivial⟩
                      exact ⟨(⟨by rw [getD_at hil]; exact (okc_iff2 _).2 (by simp at *; omega), fun h => hs2 (by rw [getD_at hil] at h; exact h)⟩), hcm12⟩
                  ·
                    refine LR.gs rfl rfl rfl rfl rfl rfl ?_
                    refine LR.gs rfl rfl rfl rfl rfl rfl ?_
                    refine LR.v (Y.pick_f rfl rfl rfl) (Wd.u rfl) rfl rfl ?_
                    refine LR.v (Y.move rfl rfl) (Wd.u rfl) rfl rfl ?_
                    refine LR.gs rfl rfl rfl rfl rfl rfl ?_
                    refine LR.gs rfl rfl rfl rfl rfl rfl ?_
                    refine LR.v (Y.pick_f rfl rfl rfl) (Wd.u rfl) rfl rfl ?_
                    refine LR.v (Y.move rfl rfl) (Wd.u rfl) rfl rfl ?_
                    refine LR.gs rfl rfl rfl rfl rfl rfl ?_
                    refine LR.gs rfl rfl rfl rfl rfl rfl ?_
                    refine LR.v (Y.pick_f rfl rfl rfl) (Wd.u rfl) rfl rfl ?_
                    refine LR.v (Y.move rfl rfl) (Wd.u rfl) rfl rfl ?_
                    refine LR.gs rfl rfl rfl rfl rfl rfl ?_
                    refine LR.gs rfl rfl rfl rfl rfl rfl ?_
                    refine LR.v (Y.pick_f rfl rfl rfl) (Wd.u rfl) rfl rfl ?_
                    refine LR.nil ?_
                    refine hK20 _ _ ?_
                    refine CW.cond_f rfl ?_
                    refine CW.skip ?_
                    refine hK13 _ _ ?_
                    refine QN.sub (hK12 () _ ?_) ⟨rfl, (iv (by omega)), trivial⟩
                    exact ⟨(⟨by rw [getD_at hil]; exact (okc_iff2 _).2 (by simp at *; omega), fun h => hs2 (by rw [getD_at hil] at h; exact h)⟩), hcm12⟩
              ·
                refine LR.gs rfl rfl rfl rfl rfl rfl ?_
                refine LR.gs rfl rfl rfl rfl rfl rfl ?_
                refine LR.gs rfl rfl rfl rfl rfl rfl ?_
                refine LR.gsu rfl rfl rfl rfl rfl ?_
                refine LR.gsu rfl rfl rfl rfl rfl ?_
                refine LR.gs rfl rfl rfl rfl rfl rfl ?_
                refine LR.v (Y.pick_f rfl rfl rfl) (Wd.u rfl) rfl rfl ?_
                refine LR.v (Y.move rfl rfl) (Wd.u rfl) rfl rfl ?_
                refine LR.gs rfl rfl rfl rfl rfl rfl ?_
                refine LR.gs rfl rfl rfl rfl rfl rfl ?_
                refine LR.v (Y.pick_f rfl rfl rfl) (Wd.u rfl) rfl rfl ?_
                refine LR.v (Y.move rfl rfl) (Wd.u rfl) rfl rfl ?_
                refine LR.gs rfl rfl rfl rfl rfl rfl ?_
                refine LR.gs rfl rfl rfl rfl rfl rfl ?_
                refine LR.v (Y.pick_f rfl rfl rfl) (Wd.u rfl) rfl rfl ?_
                refine LR.v (Y.move rfl rfl) (Wd.u rfl) rfl rfl ?_
                refine LR.gs rfl rfl rfl rfl rfl rfl ?_
                refine LR.gs rfl rfl rfl rfl rfl rfl ?_
                refine LR.v (Y.pick_f rfl rfl rfl) (Wd.u rfl) rfl rfl ?_
                refine LR.v (Y.move rfl rfl) (Wd.u rfl) rfl rfl ?_
                refine LR.gs rfl rfl rfl rfl rfl rfl ?_
                refine LR.gs rfl rfl rfl rfl rfl rfl ?_
                refine LR.v (Y.pick_f rfl rfl rfl) (Wd.u rfl) rfl rfl ?_
                refine LR.nil ?_
                refine hK20 _ _ ?_
                refine CW.cond_f rfl ?_
                refine CW.skip ?_
                refine hK13 _ _ ?_
                refine QN.sub (hK12 () _ ?_) ⟨rfl, (iv (by omega)), trivial⟩
                exact ⟨(⟨by rw [getD_at hil]; exact (okc_iff2 _).2 (by simp at *; omega), fun h => hs2 (by rw [getD_at hil] at h; exact h)⟩), hcm12⟩
        ·
          intro _ Hcut1 hIcut1
          obtain ⟨hci, hlmcut1⟩ := hIcut1
          replace hm0 := hm0.tr hlmcut1
          replace hlm1 := hlm1.tr hlmcut1
          have hz3 := hlmcut1.size
          refine CW.region ?_
          refine LR.v (Y.move rfl rfl) (Wd.u rfl) rfl rfl ?_
          refine LR.v (Y.addi rfl rfl rfl (by omega)) (Wd.u rfl) rfl rfl ?_
          refine LR.v (Y.assign rfl rfl) (Wd.u rfl) rfl rfl ?_
          refine LR.nil ?_
          refine QN.sub (hN9 (i + 1) _ ?_ ?_) ⟨rfl, (iv (by omega)), trivial⟩
          · exact ⟨(by omega), (fun q h h2 => by rcases Nat.lt_or_ge q i with h5 | h5; exact hok q h h5; (obtain rfl : q = i := by omega); exact hci), hlm1⟩
          · first | omega | (simp only; omega) | (simp; omega)
      ·
        refine CW.exit (hE10 (.exit 0) nofun _ _ (hE9 (.exit 0) nofun _ _ (hX8 _ _ ?_)))
        refine hK6 _ _ ?_
        refine CW.seq (fun K25 hK25 hE25 => ?_)
        refine CW.region ?_
        refine LR.v (Y.assign rfl rfl) (Wd.u rfl) rfl rfl ?_
        refine LR.nil ?_
        refine hK25 _ _ ?_
        refine CW.ret (hret .ret (.inr rfl) _ _ _ (res1 rfl rfl) ?_)
        obtain rfl : i = l.length := by omega
        exact ⟨congrArg Value.bool ((name_iff2 l).2 ⟨by omega, by omega, fun q h => hok q h h⟩).symm, hm0⟩

theorem rdir_ct (l : List UInt8) (w0 : World) (H0 : Heap)
    (hl : l.length ≤ 4294967280) :
    Ct Tryd.prog w0 15 #[Str l] H0 (fun r H2 => r = Str (dirP l) ∧ Nw H0 H2) := by
  refine Ct.enter (args := [Str l]) Tryd.func15 rfl rfl rfl ?_
  intro Q0 hret
  have hm0 : Nw H0 H0 := Mo.refl _ _
  refine CW.seq (fun K1 hK1 hE1 => ?_)
  refine CW.region ?_
  refine LR.v (Y.assign rfl rfl) (Wd.u rfl) rfl rfl ?_
  refine LR.nil ?_
  refine hK1 _ _ ?_
  refine CW.seq (fun K2 hK2 hE2 => ?_)
  refine CW.seq (fun K3 hK3 hE3 => ?_)
  refine CW.region ?_
  refine LR.v (Y.move rfl rfl) (Wd.u rfl) rfl rfl ?_
  -- call selvage/selvageref2.Name
  refine LR.call rfl Tryd.call13 rfl (Wd.u rfl) rfl rfl (rname_ct l w0 _ hl) (fun v5 H5 r5 => ?_)
  obtain ⟨rfl, hs5⟩ := r5
  replace hm0 := hm0.tr hs5
  have hz1 := hs5.size
  refine LR.v (Y.not rfl rfl) (Wd.u rfl) rfl rfl ?_
  refine LR.nil ?_
  refine hK3 _ _ ?_
  refine CW.cond rfl (fun c6 => ?_) (fun c6 => ?_)
  ·
    refine CW.seq (fun K4 hK4 hE4 => ?_)
    refine CW.region ?_
    refine LR.v (Y.assign rfl rfl) (Wd.u rfl) rfl rfl ?_
    refine LR.nil ?_
    refine hK4 _ _ ?_
    refine CW.ret (hE2 .ret nofun _ _ (hret .ret (.inr rfl) _ _ _ (res1 rfl rfl) ?_))
    exact ⟨by rw [dirP, if_neg (by simpa using c6)]; rfl, hm0⟩
  ·
    refine CW.skip ?_
    refine hK2 _ _ ?_
    refine CW.seq (fun K5 hK5 hE5 => ?_)
    refine CW.seq (fun K6 hK6 hE6 => ?_)
    refine CW.region ?_
    refine LR.v (Y.move rfl rfl) (Wd.u rfl) rfl rfl ?_
    refine LR.v (Y.slen rfl Tryd.runUnderlying9 rfl) (Wd.u rfl) rfl rfl ?_
    refine LR.v (Y.cast (v2 := .int .i64 ((l.length : Nat) - 1 : Int)) (Y.subi rfl rfl rfl (by omega)) (rfl)) (Wd.u rfl) rfl rfl ?_
    refine LR.v (Y.assign rfl rfl) (Wd.u rfl) rfl rfl ?_
    refine LR.nil ?_
    refine hK6 _ _ ?_
    refine CW.block (fun K7 hK7 hX7 hE7 => ?_)
    refine CW.loop (fun (k : (Nat)) => [(0, Str l), (3, .int .i64 ((k : Int) - 1))])
      (fun (k : (Nat)) (H : Heap) => (k ≤ l.length) ∧ (∀ q, q < l.length → k ≤ q → (l.getD q 0).toNat ≠ 47) ∧ Nw H5 H)
      (fun (k : (Nat)) => k) l.length ⟨rfl, rfl, trivial⟩ ?_ ?_
    ·
      exact ⟨(by omega), fun q h h2 => absurd h2 (by omega), Mo.refl _ _⟩
    intro k HL1 hI1 K8 hN8 hE8
    obtain ⟨hk, hno, hlm1⟩ := hI1
    replace hm0 := hm0.tr hlm1
    have hz2 := hlm1.size
    refine CW.seq (fun K9 hK9 hE9 => ?_)
    refine CW.seq (fun K10 hK10 hE10 => ?_)
    refine CW.region ?_
    refine LR.v (Y.move rfl rfl) (Wd.u rfl) rfl rfl ?_
    refine LR.v (Y.geq rfl rfl rfl) (Wd.u rfl) rfl rfl ?_
    refine LR.nil ?_
    refine hK10 _ _ ?_
    refine CW.condp rfl (fun c11 => ?_) (fun c11 => ?_)
    ·
      have hkl : k - 1 < l.length := by omega
      refine CW.skip ?_
      refine hK9 _ _ ?_
      refine CW.seq (fun K11 hK11 hE11 => ?_)
      refine CW.block (fun K12 hK12 hX12 hE12 => ?_)
      refine CW.seq (fun K13 hK13 hE13 => ?_)
      refine CW.region ?_
      refine LR.v (Y.move rfl rfl) (Wd.u rfl) rfl rfl ?_
      refine LR.v (Y.move rfl rfl) (Wd.u rfl) rfl rfl ?_
      refine LR.v (Y.sindex (k - 1) rfl Tryd.runUnderlying9 rfl rfl (by first | rfl | omega) (by omega)) (Wd.u rfl) rfl rfl ?_
      refine LR.v (Y.eql rfl rfl rfl) (Wd.u rfl) rfl rfl ?_
      refine LR.nil ?_
      refine hK13 _ _ ?_
      refine CW.condp rfl (fun c17 => ?_) (fun c17 => ?_)
      ·
        refine CW.seq (fun K14 hK14 hE14 => ?_)
        refine CW.region ?_
        refine LR.v (Y.move rfl rfl) (Wd.u rfl) rfl rfl ?_
        refine LR.v (Y.move rfl rfl) (Wd.u rfl) rfl rfl ?_
        refine LR.v (Y.sslice (0) (k - 1) rfl Tryd.runUnderlying9 rfl (.inl ⟨rfl, rfl⟩) (.inr ⟨_, _, _, rfl, rfl, (by omega)⟩) (by omega) (by omega)) (Wd.u rfl) rfl rfl ?_
        refine LR.v (Y.assign rfl rfl) (Wd.u rfl) rfl rfl ?_
        refine LR.nil ?_
        refine hK14 _ _ ?_
        refine CW.ret (hE12 .ret nofun (by simp) _ _ (hE11 .ret nofun _ _ (hE8 .ret nofun _ _ (hE7 .ret nofun (by simp) _ _ (hE5 .ret nofun _ _ (hret .ret (.inr rfl) _ _ _ (res1 rfl rfl) ?_))))))
        exact ⟨by rw [dirP, if_pos (by simpa using c6), head_at hkl (nat47.1 (by omega)) (fun q h h2 => hno q h (by omega))]; simp, hm0⟩
      ·
        refine CW.skip ?_
        refine hK12 _ _ ?_
        refine hK11 _ _ ?_
        refine CW.region ?_
        refine LR.v (Y.move rfl rfl) (Wd.u rfl) rfl rfl ?_
        refine LR.v (Y.subi rfl rfl rfl (by omega)) (Wd.u rfl) rfl rfl ?_
        refine LR.v (Y.assign rfl rfl) (Wd.u rfl) rfl rfl ?_
        refine LR.nil ?_
        refine QN.sub (hN8 (k - 1) _ ?_ ?_) ⟨rfl, (iv (by omega)), trivial⟩
        · exact ⟨(by omega), fun q h h2 => by
            by_cases h3 : k ≤ q
            · exact hno q h h3
            · obtain rfl : q = k - 1 := by omega
              rw [getD_at hkl]; omega, hlm1⟩
        · first | omega | (simp only; omega) | (simp; omega)
    ·
      refine CW.exit (hE9 (.exit 0) nofun _ _ (hE8 (.exit 0) nofun _ _ (hX7 _ _ ?_)))
      refine hK5 _ _ ?_
      refine CW.seq (fun K15 hK15 hE15 => ?_)
      refine CW.region ?_
      refine LR.v (Y.assign rfl rfl) (Wd.u rfl) rfl rfl ?_
      refine LR.nil ?_
      refine hK15 _ _ ?_
      refine CW.ret (hret .ret (.inr rfl) _ _ _ (res1 rfl rfl) ?_)
      exact ⟨by rw [dirP, if_pos (by simpa using c6), head_no (fun q h => hno q h (by omega))]; rfl, hm0⟩

theorem names_ct (mx_ : Int) (s : List UInt8) (w0 : World) (H0 : Heap)
    (mx : MX mx_ H0) (bf_mx : BF (fun b => b = 0) H0.size) (hs : s.length ≤ 4294967280) :
    Ct Tryd.prog w0 3 #[Str s] H0 (fun r H2 => r = .bool true ∧ Nw H0 H2) := by
  refine Ct.enter (args := [Str s]) Tryd.func3 rfl rfl rfl ?_
  intro Q0 hret
  have hm0 : Nw H0 H0 := Mo.refl _ _
  refine CW.seq (fun K1 hK1 hE1 => ?_)
  refine CW.region ?_
  refine LR.v (Y.assign rfl rfl) (Wd.u rfl) rfl rfl ?_
  refine LR.nil ?_
  refine hK1 _ _ ?_
  refine CW.seq (fun K2 hK2 hE2 => ?_)
  refine CW.region ?_
  -- call selvage/selvagelaw2.known
  refine LR.call rfl Tryd.call11 rfl (Wd.u rfl) rfl rfl (known_ct mx_ w0 _ mx bf_mx) (fun v3 H3 r3 => ?_)
  obtain ⟨rfl, hs3⟩ := r3
  replace mx := mx.nw hs3
  replace hm0 := hm0.tr hs3
  have hz1 := hs3.size
  refine LR.v (Y.move rfl rfl) (Wd.u rfl) rfl rfl ?_
  refine LR.v (Y.move rfl rfl) (Wd.g rfl rfl rfl) rfl rfl ?_
  -- call selvage/simfs.Name
  refine LR.call rfl Tryd.call12 rfl (Wd.g rfl rfl rfl) rfl rfl (name_ct mx_ s w0 _ mx (bf_mx.mono (by omega)) hs) (fun v6 H6 r6 => ?_)
  obtain ⟨rfl, hs6⟩ := r6
  replace mx := mx.nw hs6
  replace hm0 := hm0.tr hs6
  have hz2 := hs6.size
  refine LR.v (Y.move rfl rfl) (Wd.g rfl rfl rfl) rfl rfl ?_
  -- call selvage/selvageref2.Name
  refine LR.call rfl Tryd.call13 rfl (Wd.g rfl rfl rfl) rfl rfl (rname_ct s w0 _ hs) (fun v8 H8 r8 => ?_)
  obtain ⟨rfl, hs8⟩ := r8
  replace mx := mx.nw hs8
  replace hm0 := hm0.tr hs8
  have hz3 := hs8.size
  refine LR.v ((Y.beql rfl Tryd.underlying4 rfl rfl).isT (rfl)) (Wd.g rfl rfl rfl) rfl rfl ?_
  refine LR.v (Y.pick_t rfl rfl rfl) (Wd.u rfl) rfl rfl ?_
  refine LR.v (Y.move rfl rfl) (Wd.u rfl) rfl rfl ?_
  refine LR.v (Y.move rfl rfl) (Wd.g rfl rfl rfl) rfl rfl ?_
  -- call selvage/simfs.Dir
  refine LR.call rfl Tryd.call14 rfl (Wd.g rfl rfl rfl) rfl rfl (dir_ct mx_ s w0 _ mx (bf_mx.mono (by omega)) hs) (fun v13 H13 r13 => ?_)
  obtain ⟨rfl, hs13⟩ := r13
  replace mx := mx.nw hs13
  replace hm0 := hm0.tr hs13
  have hz4 := hs13.size
  refine LR.v (Y.move rfl rfl) (Wd.g rfl rfl rfl) rfl rfl ?_
  -- call selvage/selvageref2.Dir
  refine LR.call rfl Tryd.call15 rfl (Wd.g rfl rfl rfl) rfl rfl (rdir_ct s w0 _ hs) (fun v15 H15 r15 => ?_)
  obtain ⟨rfl, hs15⟩ := r15
  replace mx := mx.nw hs15
  replace hm0 := hm0.tr hs15
  have hz5 := hs15.size
  refine LR.v ((Y.seql rfl rfl rfl).isT (rfl)) (Wd.g rfl rfl rfl) rfl rfl ?_
  refine LR.v (Y.pick_t rfl rfl rfl) (Wd.u rfl) rfl rfl ?_
  refine LR.v (Y.assign rfl rfl) (Wd.u rfl) rfl rfl ?_
  refine LR.nil ?_
  refine hK2 _ _ ?_
  refine CW.ret (hret .ret (.inr rfl) _ _ _ (res1 rfl rfl) ?_)
  exact ⟨rfl, hm0⟩

end Go.Proofs.YtfbfjhppppoilaaDoor.SimX
