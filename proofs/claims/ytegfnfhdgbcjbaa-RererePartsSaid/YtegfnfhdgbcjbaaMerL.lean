/-
  Marks told.
-/
import Derived.Test.YtegfnfhdgbcjbaaMerH
namespace Go.Proofs.Ytegfnfhdgbcjbaa.MerL
open Go.Proofs.Ytegfnfhdgbcjbaa.E Go.RowKit Go.Proofs.Ytegfnfhdgbcjbaa.LinM Go.Proofs.Ytegfnfhdgbcjbaa.LinA Go.Proofs.Ytegfnfhdgbcjbaa.LinC Go.Proofs.Ytegfnfhdgbcjbaa.LinF Go.Proofs.Ytegfnfhdgbcjbaa.LinL Go.Proofs.Ytegfnfhdgbcjbaa.LinN Go.Proofs.Ytegfnfhdgbcjbaa.MerA Go.Proofs.Ytegfnfhdgbcjbaa.MerB Go.Proofs.Ytegfnfhdgbcjbaa.MerC Go.Proofs.Ytegfnfhdgbcjbaa.MerD Go.Proofs.Ytegfnfhdgbcjbaa.MerE Go.Proofs.Ytegfnfhdgbcjbaa.MerF Go.Proofs.Ytegfnfhdgbcjbaa.MerG Go.Proofs.Ytegfnfhdgbcjbaa.MerH
set_option linter.unusedVariables false
set_option linter.unusedSimpArgs false
set_option linter.unusedSectionVars false

/-- does a text end so? -/
def sfx (s t : List UInt8) : Bool := decide (t.length ≤ s.length ∧ s.drop (s.length - t.length) = t)
def trimS (s t : List UInt8) : List UInt8 := if sfx s t = true then s.take (s.length - t.length) else s
/-- which mark a line is -/
def markL (s : List UInt8) : Int := if trimS s [10] = mw0 then 0 else if trimS s [10] = mw1 then 1 else if trimS s [10] = mw2 then 2 else if trimS s [10] = mw3 then 3 else -1
theorem sfx_iff {s t : List UInt8} : sfx s t = true ↔ ∃ p, s = p ++ t := by
  simp only [sfx, decide_eq_true_eq]
  constructor
  · rintro ⟨h1, h2⟩
    exact ⟨s.take (s.length - t.length), by conv => lhs; rw [← List.take_append_drop (s.length - t.length) s, h2]⟩
  · rintro ⟨p, rfl⟩
    simp
theorem trim_eq {s w : List UInt8} : trimS s [10] = w ↔ s = w ++ [10] ∨ (s = w ∧ sfx s [10] = false) := by
  unfold trimS
  by_cases h : sfx s [10] = true
  · rw [if_pos h]
    obtain ⟨p, rfl⟩ := sfx_iff.1 h
    simp [h]
  · rw [if_neg h]
    constructor
    · intro e; exact .inr ⟨e, by simpa using h⟩
    · rintro (rfl | ⟨e, _⟩)
      · exact absurd (sfx_iff.2 ⟨w, rfl⟩) h
      · exact e
/-- the marks without their line feeds, by number -/
def mw (n : Nat) : List UInt8 := [mw0, mw1, mw2, mw3].getD n []
theorem mark_n {s : List UInt8} {n : Nat} (hn : n < 4) (h : trimS s [10] = mw n) : markL s = n := by
  unfold markL
  rw [h]
  match n, hn with
  | 0, _ => rfl
  | 1, _ => rfl
  | 2, _ => rfl
  | 3, _ => rfl
theorem mark_neg {s : List UInt8} (h : ∀ n : Nat, n < 4 → trimS s [10] ≠ mw n) : markL s = -1 := by
  unfold markL
  rw [if_neg (show ¬ trimS s [10] = mw0 from h 0 (by decide)), if_neg (show ¬ trimS s [10] = mw1 from h 1 (by decide)), if_neg (show ¬ trimS s [10] = mw2 from h 2 (by decide)), if_neg (show ¬ trimS s [10] = mw3 from h 3 (by decide))]
theorem mk_mw {n : Nat} (hn : n < 4) : mk n = mw n ++ [10] ∧ (mk n).take 7 = mw n ∧ sfx (mw n) [10] = false ∧ sfx (mk n) [10] = true ∧ (mk n).length = 8 := by
  match n, hn with
  | 0, _ => decide
  | 1, _ => decide
  | 2, _ => decide
  | 3, _ => decide
theorem mark_cases (s : List UInt8) : (∃ n : Nat, n < 4 ∧ markL s = n ∧ trimS s [10] = mw n) ∨ (markL s = -1 ∧ ∀ n : Nat, n < 4 → trimS s [10] ≠ mw n) := by
  by_cases h : ∃ n : Nat, n < 4 ∧ trimS s [10] = mw n
  · obtain ⟨n, h1, h2⟩ := h; exact .inl ⟨n, h1, mark_n h1 h2, h2⟩
  · have h3 : ∀ n : Nat, n < 4 → trimS s [10] ≠ mw n := fun n hn e => h ⟨n, hn, e⟩
    exact .inr ⟨mark_neg h3, h3⟩
theorem mark_bd (s : List UInt8) : -1 ≤ markL s ∧ markL s ≤ 3 := by
  rcases mark_cases s with ⟨n, h1, h2, _⟩ | ⟨h, _⟩ <;> omega
/-- does a text have a mark? -/
def marksL (b : List UInt8) : Bool := (splitL [] b).any (fun s => decide (0 ≤ markL s))

theorem hasSuf_ct0 (s t : List UInt8) (w0 : World) (H0 : Heap)
    (hs : s.length ≤ 1099511627776) (ht : t.length ≤ 1099511627776) :
    Ct Try.prog w0 59 #[Str s, Str t] H0 (fun r H2 => r = .bool (sfx s t) ∧ Nw H0 H2) := by
  refine Ct.enter (args := [Str s, Str t]) Try.func59 rfl rfl rfl ?_
  intro Q0 hret
  have hm0 : Nw H0 H0 := Mo.refl _ _
  refine CW.seq (fun K1 hK1 hE1 => ?_)
  refine CW.region ?_
  refine LR.v (Y.assign rfl rfl) (Wd.u rfl) rfl rfl ?_
  refine LR.nil ?_
  refine hK1 _ _ ?_
  refine CW.seq (fun K2 hK2 hE2 => ?_)
  refine CW.region ?_
  refine LR.v (Y.move rfl rfl) (Wd.u rfl) rfl rfl ?_
  refine LR.v (Y.slen rfl Try.runUnderlying9 rfl) (Wd.u rfl) rfl rfl ?_
  refine LR.v (Y.move rfl rfl) (Wd.u rfl) rfl rfl ?_
  refine LR.v (Y.slen rfl Try.runUnderlying9 rfl) (Wd.u rfl) rfl rfl ?_
  refine LR.v (Y.geq rfl rfl rfl) (Wd.u rfl) rfl rfl ?_
  refine LR.v (Y.move rfl rfl) (Wd.u rfl) rfl rfl ?_
  refine LR.splitp (d := 10) rfl (fun g10 => ?_) (fun g10 => ?_)
  ·
    refine LR.v (Y.move rfl rfl) (Wd.g rfl rfl rfl) rfl rfl ?_
    refine LR.v (Y.move rfl rfl) (Wd.g rfl rfl rfl) rfl rfl ?_
    refine LR.v (Y.slen rfl Try.runUnderlying9 rfl) (Wd.g rfl rfl rfl) rfl rfl ?_
    refine LR.v (Y.move rfl rfl) (Wd.g rfl rfl rfl) rfl rfl ?_
    refine LR.v (Y.slen rfl Try.runUnderlying9 rfl) (Wd.g rfl rfl rfl) rfl rfl ?_
    refine LR.v (Y.subi rfl rfl rfl (by omega)) (Wd.g rfl rfl rfl) rfl rfl ?_
    refine LR.v (Y.sslice (s.length - t.length) (s.length) rfl Try.runUnderlying9 rfl (.inr ⟨_, _, _, rfl, rfl, by first | rfl | omega⟩) (.inl ⟨rfl, rfl⟩) (by omega) (by omega)) (Wd.g rfl rfl rfl) rfl rfl ?_
    refine LR.v (Y.move rfl rfl) (Wd.g rfl rfl rfl) rfl rfl ?_
    refine LR.v (Y.seql rfl rfl rfl) (Wd.g rfl rfl rfl) rfl rfl ?_
    refine LR.v (Y.pick_t rfl rfl rfl) (Wd.u rfl) rfl rfl ?_
    refine LR.v (Y.assign rfl rfl) (Wd.u rfl) rfl rfl ?_
    refine LR.nil ?_
    refine hK2 _ _ ?_
    refine CW.ret (hret .ret (.inr rfl) _ _ _ (res1 rfl rfl) ?_)
    exact ⟨by first | (unfold sfx; rw [List.take_length]; exact bdec ⟨fun h => ⟨by omega, h⟩, fun h => h.2⟩) | (rw [show sfx s t = false from decide_eq_false (fun h => by omega)]), hm0⟩
  ·
    refine LR.gs rfl rfl rfl rfl rfl rfl ?_
    refine LR.gs rfl rfl rfl rfl rfl rfl ?_
    refine LR.gs rfl rfl rfl rfl rfl rfl ?_
    refine LR.gs rfl rfl rfl rfl rfl rfl ?_
    refine LR.gs rfl rfl rfl rfl rfl rfl ?_
    refine LR.gs rfl rfl rfl rfl rfl rfl ?_
    refine LR.gs rfl rfl rfl rfl rfl rfl ?_
    refine LR.gs rfl rfl rfl rfl rfl rfl ?_
    refine LR.gs rfl rfl rfl rfl rfl rfl ?_
    refine LR.v (Y.pick_f rfl rfl rfl) (Wd.u rfl) rfl rfl ?_
    refine LR.v (Y.assign rfl rfl) (Wd.u rfl) rfl rfl ?_
    refine LR.nil ?_
    refine hK2 _ _ ?_
    refine CW.ret (hret .ret (.inr rfl) _ _ _ (res1 rfl rfl) ?_)
    exact ⟨by first | (unfold sfx; rw [List.take_length]; exact bdec ⟨fun h => ⟨by omega, h⟩, fun h => h.2⟩) | (rw [show sfx s t = false from decide_eq_false (fun h => by omega)]), hm0⟩

theorem hasSuf_ct (s t : List UInt8) (w0 : World) (H0 : Heap)
    (hs : s.length ≤ 1099511627776) (ht : t.length ≤ 1099511627776) :
    Ct Try.prog w0 41 #[Str s, Str t] H0 (fun r H2 => r = .bool (sfx s t) ∧ Nw H0 H2) := by
  refine Ct.enter (args := [Str s, Str t]) Try.func41 rfl rfl rfl ?_
  intro Q0 hret
  have hm0 : Nw H0 H0 := Mo.refl _ _
  refine CW.seq (fun K1 hK1 hE1 => ?_)
  refine CW.region ?_
  refine LR.v (Y.assign rfl rfl) (Wd.u rfl) rfl rfl ?_
  refine LR.nil ?_
  refine hK1 _ _ ?_
  refine CW.seq (fun K2 hK2 hE2 => ?_)
  refine CW.region ?_
  refine LR.v (Y.move rfl rfl) (Wd.u rfl) rfl rfl ?_
  refine LR.v (Y.move rfl rfl) (Wd.u rfl) rfl rfl ?_
  -- call internal/stringslite.HasSuffix
  refine LR.call rfl Try.call59 rfl (Wd.u rfl) rfl rfl (hasSuf_ct0 s t w0 _ hs ht) (fun v7 H7 r7 => ?_)
  obtain ⟨rfl, hs7⟩ := r7
  replace hm0 := hm0.tr hs7
  have hz1 := hs7.size
  refine LR.v (Y.assign rfl rfl) (Wd.u rfl) rfl rfl ?_
  refine LR.nil ?_
  refine hK2 _ _ ?_
  refine CW.ret (hret .ret (.inr rfl) _ _ _ (res1 rfl rfl) ?_)
  exact ⟨rfl, hm0⟩

theorem trimSuf_ct0 (s t : List UInt8) (w0 : World) (H0 : Heap)
    (hs : s.length ≤ 1099511627776) (ht : t.length ≤ 1099511627776) :
    Ct Try.prog w0 65 #[Str s, Str t] H0 (fun r H2 => r = Str (trimS s t) ∧ Nw H0 H2) := by
  refine Ct.enter (args := [Str s, Str t]) Try.func65 rfl rfl rfl ?_
  intro Q0 hret
  have hm0 : Nw H0 H0 := Mo.refl _ _
  refine CW.seq (fun K1 hK1 hE1 => ?_)
  refine CW.region ?_
  refine LR.v (Y.assign rfl rfl) (Wd.u rfl) rfl rfl ?_
  refine LR.nil ?_
  refine hK1 _ _ ?_
  refine CW.seq (fun K2 hK2 hE2 => ?_)
  refine CW.seq (fun K3 hK3 hE3 => ?_)
  refine CW.region ?_
  refine LR.v (Y.move rfl rfl) (Wd.u rfl) rfl rfl ?_
  refine LR.v (Y.move rfl rfl) (Wd.u rfl) rfl rfl ?_
  -- call internal/stringslite.HasSuffix
  refine LR.call rfl Try.call59 rfl (Wd.u rfl) rfl rfl (hasSuf_ct0 s t w0 _ hs ht) (fun v7 H7 r7 => ?_)
  obtain ⟨rfl, hs7⟩ := r7
  replace hm0 := hm0.tr hs7
  have hz1 := hs7.size
  refine LR.nil ?_
  refine hK3 _ _ ?_
  refine CW.cond rfl (fun c7 => ?_) (fun c7 => ?_)
  ·
    have hsl : t.length ≤ s.length := (of_decide_eq_true c7).1
    refine CW.seq (fun K4 hK4 hE4 => ?_)
    refine CW.region ?_
    refine LR.v (Y.move rfl rfl) (Wd.u rfl) rfl rfl ?_
    refine LR.v (Y.move rfl rfl) (Wd.u rfl) rfl rfl ?_
    refine LR.v (Y.slen rfl Try.runUnderlying9 rfl) (Wd.u rfl) rfl rfl ?_
    refine LR.v (Y.move rfl rfl) (Wd.u rfl) rfl rfl ?_
    refine LR.v (Y.slen rfl Try.runUnderlying9 rfl) (Wd.u rfl) rfl rfl ?_
    refine LR.v (Y.subi rfl rfl rfl (by omega)) (Wd.u rfl) rfl rfl ?_
    refine LR.v (Y.sslice (0) (s.length - t.length) rfl Try.runUnderlying9 rfl (.inl ⟨rfl, rfl⟩) (.inr ⟨_, _, _, rfl, rfl, by first | rfl | omega⟩) (by omega) (by omega)) (Wd.u rfl) rfl rfl ?_
    refine LR.v (Y.assign rfl rfl) (Wd.u rfl) rfl rfl ?_
    refine LR.nil ?_
    refine hK4 _ _ ?_
    refine CW.ret (hE2 .ret nofun _ _ (hret .ret (.inr rfl) _ _ _ (res1 rfl rfl) ?_))
    exact ⟨by rw [trimS, if_pos c7, List.drop_zero], hm0⟩
  ·
    refine CW.skip ?_
    refine hK2 _ _ ?_
    refine CW.seq (fun K5 hK5 hE5 => ?_)
    refine CW.region ?_
    refine LR.v (Y.move rfl rfl) (Wd.u rfl) rfl rfl ?_
    refine LR.v (Y.assign rfl rfl) (Wd.u rfl) rfl rfl ?_
    refine LR.nil ?_
    refine hK5 _ _ ?_
    refine CW.ret (hret .ret (.inr rfl) _ _ _ (res1 rfl rfl) ?_)
    exact ⟨by rw [trimS, if_neg (by simpa using c7)], hm0⟩

theorem trimSuf_ct (s t : List UInt8) (w0 : World) (H0 : Heap)
    (hs : s.length ≤ 1099511627776) (ht : t.length ≤ 1099511627776) :
    Ct Try.prog w0 58 #[Str s, Str t] H0 (fun r H2 => r = Str (trimS s t) ∧ Nw H0 H2) := by
  refine Ct.enter (args := [Str s, Str t]) Try.func58 rfl rfl rfl ?_
  intro Q0 hret
  have hm0 : Nw H0 H0 := Mo.refl _ _
  refine CW.seq (fun K1 hK1 hE1 => ?_)
  refine CW.region ?_
  refine LR.v (Y.assign rfl rfl) (Wd.u rfl) rfl rfl ?_
  refine LR.nil ?_
  refine hK1 _ _ ?_
  refine CW.seq (fun K2 hK2 hE2 => ?_)
  refine CW.region ?_
  refine LR.v (Y.move rfl rfl) (Wd.u rfl) rfl rfl ?_
  refine LR.v (Y.move rfl rfl) (Wd.u rfl) rfl rfl ?_
  -- call internal/stringslite.TrimSuffix
  refine LR.call rfl Try.call65 rfl (Wd.u rfl) rfl rfl (trimSuf_ct0 s t w0 _ hs ht) (fun v7 H7 r7 => ?_)
  obtain ⟨rfl, hs7⟩ := r7
  replace hm0 := hm0.tr hs7
  have hz1 := hs7.size
  refine LR.v (Y.assign rfl rfl) (Wd.u rfl) rfl rfl ?_
  refine LR.nil ?_
  refine hK2 _ _ ?_
  refine CW.ret (hret .ret (.inr rfl) _ _ _ (res1 rfl rfl) ?_)
  exact ⟨rfl, hm0⟩

theorem markP_ct (s : List UInt8) (w0 : World) (H0 : Heap)
    (hs : s.length ≤ 1099511627776) :
    Ct Try.prog w0 40 #[Str s] H0 (fun r H2 => r = .int .i64 (markL s) ∧ Nw H0 H2) := by
  refine Ct.enter (args := [Str s]) Try.func40 rfl rfl rfl ?_
  intro Q0 hret
  have hm0 : Nw H0 H0 := Mo.refl _ _
  refine CW.seq (fun K1 hK1 hE1 => ?_)
  refine CW.region ?_
  refine LR.v (Y.assign rfl rfl) (Wd.u rfl) rfl rfl ?_
  refine LR.nil ?_
  refine hK1 _ _ ?_
  refine CW.seq (fun K2 hK2 hE2 => ?_)
  refine CW.seq (fun K3 hK3 hE3 => ?_)
  refine CW.region ?_
  refine LR.v (Y.move rfl rfl) (Wd.u rfl) rfl rfl ?_
  -- call strings.TrimSuffix
  refine LR.call rfl Try.call58 rfl (Wd.u rfl) rfl rfl (trimSuf_ct s [10] w0 _ hs (by decide)) (fun v4 H4 r4 => ?_)
  obtain ⟨rfl, hs4⟩ := r4
  replace hm0 := hm0.tr hs4
  have hz1 := hs4.size
  refine LR.nil ?_
  refine hK3 _ _ ?_
  refine CW.block (fun K4 hK4 hX4 hE4 => ?_)
  refine CW.seq (fun K5 hK5 hE5 => ?_)
  refine CW.region ?_
  refine LR.v (Y.seql rfl rfl rfl) (Wd.u rfl) rfl rfl ?_
  refine LR.v (Y.assign rfl rfl) (Wd.u rfl) rfl rfl ?_
  refine LR.nil ?_
  refine hK5 _ _ ?_
  refine CW.condp rfl (fun c5 => ?_) (fun c5 => ?_)
  ·
    refine CW.seq (fun K6 hK6 hE6 => ?_)
    refine CW.region ?_
    refine LR.v (Y.assign rfl rfl) (Wd.u rfl) rfl rfl ?_
    refine LR.nil ?_
    refine hK6 _ _ ?_
    refine CW.ret (hE4 .ret nofun (by simp) _ _ (hE2 .ret nofun _ _ (hret .ret (.inr rfl) _ _ _ (res1 rfl rfl) ?_)))
    exact ⟨by rw [markL]; first | rw [if_pos (by assumption)] | rw [if_neg (by assumption), if_pos (by assumption)] | rw [if_neg (by assumption), if_neg (by assumption), if_pos (by assumption)] | rw [if_neg (by assumption), if_neg (by assumption), if_neg (by assumption), if_pos (by assumption)] | rw [if_neg (by assumption), if_neg (by assumption), if_neg (by assumption), if_neg (by assumption)], hm0⟩
  ·
    refine CW.seq (fun K7 hK7 hE7 => ?_)
    refine CW.region ?_
    refine LR.v (Y.seql rfl rfl rfl) (Wd.u rfl) rfl rfl ?_
    refine LR.v (Y.assign rfl rfl) (Wd.u rfl) rfl rfl ?_
    refine LR.nil ?_
    refine hK7 _ _ ?_
    refine CW.condp rfl (fun c7 => ?_) (fun c7 => ?_)
    ·
      refine CW.seq (fun K8 hK8 hE8 => ?_)
      refine CW.region ?_
      refine LR.v (Y.assign rfl rfl) (Wd.u rfl) rfl rfl ?_
      refine LR.nil ?_
      refine hK8 _ _ ?_
      refine CW.ret (hE4 .ret nofun (by simp) _ _ (hE2 .ret nofun _ _ (hret .ret (.inr rfl) _ _ _ (res1 rfl rfl) ?_)))
      exact ⟨by rw [markL]; first | rw [if_pos (by assumption)] | rw [if_neg (by assumption), if_pos (by assumption)] | rw [if_neg (by assumption), if_neg (by assumption), if_pos (by assumption)] | rw [if_neg (by assumption), if_neg (by assumption), if_neg (by assumption), if_pos (by assumption)] | rw [if_neg (by assumption), if_neg (by assumption), if_neg (by assumption), if_neg (by assumption)], hm0⟩
    ·
      refine CW.seq (fun K9 hK9 hE9 => ?_)
      refine CW.region ?_
      refine LR.v (Y.seql rfl rfl rfl) (Wd.u rfl) rfl rfl ?_
      refine LR.v (Y.assign rfl rfl) (Wd.u rfl) rfl rfl ?_
      refine LR.nil ?_
      refine hK9 _ _ ?_
      refine CW.condp rfl (fun c9 => ?_) (fun c9 => ?_)
      ·
        refine CW.seq (fun K10 hK10 hE10 => ?_)
        refine CW.region ?_
        refine LR.v (Y.assign rfl rfl) (Wd.u rfl) rfl rfl ?_
        refine LR.nil ?_
        refine hK10 _ _ ?_
        refine CW.ret (hE4 .ret nofun (by simp) _ _ (hE2 .ret nofun _ _ (hret .ret (.inr rfl) _ _ _ (res1 rfl rfl) ?_)))
        exact ⟨by rw [markL]; first | rw [if_pos (by assumption)] | rw [if_neg (by assumption), if_pos (by assumption)] | rw [if_neg (by assumption), if_neg (by assumption), if_pos (by assumption)] | rw [if_neg (by assumption), if_neg (by assumption), if_neg (by assumption), if_pos (by assumption)] | rw [if_neg (by assumption), if_neg (by assumption), if_neg (by assumption), if_neg (by assumption)], hm0⟩
      ·
        refine CW.seq (fun K11 hK11 hE11 => ?_)
        refine CW.region ?_
        refine LR.v (Y.seql rfl rfl rfl) (Wd.u rfl) rfl rfl ?_
        refine LR.v (Y.assign rfl rfl) (Wd.u rfl) rfl rfl ?_
        refine LR.nil ?_
        refine hK11 _ _ ?_
        refine CW.condp rfl (fun c11 => ?_) (fun c11 => ?_)
        ·
          refine CW.seq (fun K12 hK12 hE12 => ?_)
          refine CW.region ?_
          refine LR.v (Y.assign rfl rfl) (Wd.u rfl) rfl rfl ?_
          refine LR.nil ?_
          refine hK12 _ _ ?_
          refine CW.ret (hE4 .ret nofun (by simp) _ _ (hE2 .ret nofun _ _ (hret .ret (.inr rfl) _ _ _ (res1 rfl rfl) ?_)))
          exact ⟨by rw [markL]; first | rw [if_pos (by assumption)] | rw [if_neg (by assumption), if_pos (by assumption)] | rw [if_neg (by assumption), if_neg (by assumption), if_pos (by assumption)] | rw [if_neg (by assumption), if_neg (by assumption), if_neg (by assumption), if_pos (by assumption)] | rw [if_neg (by assumption), if_neg (by assumption), if_neg (by assumption), if_neg (by assumption)], hm0⟩
        ·
          refine CW.skip ?_
          refine hK4 _ _ ?_
          refine hK2 _ _ ?_
          refine CW.seq (fun K13 hK13 hE13 => ?_)
          refine CW.region ?_
          refine LR.v (Y.assign rfl rfl) (Wd.u rfl) rfl rfl ?_
          refine LR.nil ?_
          refine hK13 _ _ ?_
          refine CW.ret (hret .ret (.inr rfl) _ _ _ (res1 rfl rfl) ?_)
          exact ⟨by rw [markL]; first | rw [if_pos (by assumption)] | rw [if_neg (by assumption), if_pos (by assumption)] | rw [if_neg (by assumption), if_neg (by assumption), if_pos (by assumption)] | rw [if_neg (by assumption), if_neg (by assumption), if_neg (by assumption), if_pos (by assumption)] | rw [if_neg (by assumption), if_neg (by assumption), if_neg (by assumption), if_neg (by assumption)], hm0⟩

theorem which_ct (s : List UInt8) (w0 : World) (H0 : Heap)
    (hs : s.length ≤ 1099511627776) :
    Ct Try.prog w0 32 #[Str s] H0 (fun r H2 => ∃ w : Bool, r = .tuple #[.int .i64 (markL s), .bool w] ∧ (0 ≤ markL s → w = sfx s [10]) ∧ Nw H0 H2) := by
  refine Ct.enter (args := [Str s]) Try.func32 rfl rfl rfl ?_
  intro Q0 hret
  have hm0 : Nw H0 H0 := Mo.refl _ _
  refine CW.seq (fun K1 hK1 hE1 => ?_)
  refine CW.region ?_
  refine LR.v (Y.assign rfl rfl) (Wd.u rfl) rfl rfl ?_
  refine LR.v (Y.assign rfl rfl) (Wd.u rfl) rfl rfl ?_
  refine LR.nil ?_
  refine hK1 _ _ ?_
  refine CW.seq (fun K2 hK2 hE2 => ?_)
  refine CW.seq (fun K3 hK3 hE3 => ?_)
  refine CW.region ?_
  refine LR.v (Y.assign rfl rfl) (Wd.u rfl) rfl rfl ?_
  refine LR.nil ?_
  refine hK3 _ _ ?_
  refine CW.block (fun K4 hK4 hX4 hE4 => ?_)
  refine CW.loop (fun (n : (Nat)) => [(0, Str s), (4, .int .i64 n)])
    (fun (n : (Nat)) (H : Heap) => (n ≤ 4) ∧ (∀ m : Nat, m < n → s ≠ mk m ∧ s ≠ (mk m).take 7) ∧ Nw H0 H)
    (fun (n : (Nat)) => 4 - n) 0 ⟨rfl, rfl, trivial⟩ ?_ ?_
  ·
    exact ⟨(by omega), (fun m h => by omega), Mo.refl _ _⟩
  intro n HL1 hI1 K5 hN5 hE5
  obtain ⟨hn, hno, hlm1⟩ := hI1
  replace hm0 := hm0.tr hlm1
  have hz1 := hlm1.size
  refine CW.seq (fun K6 hK6 hE6 => ?_)
  refine CW.seq (fun K7 hK7 hE7 => ?_)
  refine CW.region ?_
  refine LR.v (Y.move rfl rfl) (Wd.u rfl) rfl rfl ?_
  refine LR.v (Y.lss rfl rfl rfl) (Wd.u rfl) rfl rfl ?_
  refine LR.nil ?_
  refine hK7 _ _ ?_
  refine CW.condp rfl (fun c6 => ?_) (fun c6 => ?_)
  ·
    refine CW.skip ?_
    refine hK6 _ _ ?_
    refine CW.seq (fun K8 hK8 hE8 => ?_)
    refine CW.block (fun K9 hK9 hX9 hE9 => ?_)
    refine CW.seq (fun K10 hK10 hE10 => ?_)
    refine CW.seq (fun K11 hK11 hE11 => ?_)
    refine CW.region ?_
    refine LR.v (Y.move rfl rfl) (Wd.u rfl) rfl rfl ?_
    refine LR.v (Y.move rfl rfl) (Wd.u rfl) rfl rfl ?_
    -- call selvage/selvageref14.mark
    refine LR.call rfl Try.call52 rfl (Wd.u rfl) rfl rfl (mark_ct n w0 _ (by omega)) (fun v11 H11 r11 => ?_)
    obtain ⟨rfl, hs11⟩ := r11
    replace hm0 := hm0.tr hs11
    replace hlm1 := hlm1.tr hs11
    have hz2 := hs11.size
    refine LR.v (Y.seql rfl rfl rfl) (Wd.u rfl) rfl rfl ?_
    refine LR.nil ?_
    refine hK11 _ _ ?_
    refine CW.condp rfl (fun c12 => ?_) (fun c12 => ?_)
    ·
      refine CW.seq (fun K12 hK12 hE12 => ?_)
      refine CW.region ?_
      refine LR.v (Y.move rfl rfl) (Wd.u rfl) rfl rfl ?_
      refine LR.v (Y.assign rfl rfl) (Wd.u rfl) rfl rfl ?_
      refine LR.v (Y.assign rfl rfl) (Wd.u rfl) rfl rfl ?_
      refine LR.nil ?_
      refine hK12 _ _ ?_
      refine CW.ret (hE10 .ret nofun _ _ (hE9 .ret nofun (by simp) _ _ (hE8 .ret nofun _ _ (hE5 .ret nofun _ _ (hE4 .ret nofun (by simp) _ _ (hE2 .ret nofun _ _ (hret .ret (.inr rfl) _ _ _ (res2 rfl rfl rfl) ?_)))))))
      obtain ⟨e1, e2, e3, e4, e5⟩ := mk_mw (n := n) (by omega)
      exact ⟨true, by rw [mark_n (n := n) (by omega) (trim_eq.2 (.inl (c12.trans e1)))], (fun _ => by rw [c12, e4]), hm0⟩
    ·
      refine CW.skip ?_
      refine hK10 _ _ ?_
      refine CW.seq (fun K13 hK13 hE13 => ?_)
      refine CW.region ?_
      refine LR.v (Y.move rfl rfl) (Wd.u rfl) rfl rfl ?_
      refine LR.v (Y.move rfl rfl) (Wd.u rfl) rfl rfl ?_
      -- call selvage/selvageref14.mark
      refine LR.call rfl Try.call52 rfl (Wd.u rfl) rfl rfl (mark_ct n w0 _ (by omega)) (fun v16 H16 r16 => ?_)
      obtain ⟨rfl, hs16⟩ := r16
      replace hm0 := hm0.tr hs16
      replace hlm1 := hlm1.tr hs16
      have hz3 := hs16.size
      have hmk := mk_mw (n := n) (by omega)
      refine LR.v (Y.sslice (0) (7) rfl Try.runUnderlying9 rfl (.inl ⟨rfl, rfl⟩) (.inr ⟨_, _, _, rfl, rfl, by first | rfl | omega⟩) (by omega) (by omega)) (Wd.u rfl) rfl rfl ?_
      refine LR.v (Y.cast (v2 := .bool (decide (s = (mk n).take 7))) (Y.seql rfl rfl rfl) (by rw [List.drop_zero])) (Wd.u rfl) rfl rfl ?_
      refine LR.nil ?_
      refine hK13 _ _ ?_
      refine CW.condp rfl (fun c18 => ?_) (fun c18 => ?_)
      ·
        refine CW.seq (fun K14 hK14 hE14 => ?_)
        refine CW.region ?_
        refine LR.v (Y.move rfl rfl) (Wd.u rfl) rfl rfl ?_
        refine LR.v (Y.assign rfl rfl) (Wd.u rfl) rfl rfl ?_
        refine LR.v (Y.assign rfl rfl) (Wd.u rfl) rfl rfl ?_
        refine LR.nil ?_
        refine hK14 _ _ ?_
        refine CW.ret (hE9 .ret nofun (by simp) _ _ (hE8 .ret nofun _ _ (hE5 .ret nofun _ _ (hE4 .ret nofun (by simp) _ _ (hE2 .ret nofun _ _ (hret .ret (.inr rfl) _ _ _ (res2 rfl rfl rfl) ?_))))))
        obtain ⟨e1, e2, e3, e4, e5⟩ := mk_mw (n := n) (by omega)
        exact ⟨false, by rw [mark_n (n := n) (by omega) (trim_eq.2 (.inr ⟨c18.trans e2, by rw [c18, e2]; exact e3⟩))], (fun _ => by rw [c18, e2, e3]), hm0⟩
      ·
        refine CW.skip ?_
        refine hK9 _ _ ?_
        refine hK8 _ _ ?_
        refine CW.region ?_
        refine LR.v (Y.move rfl rfl) (Wd.u rfl) rfl rfl ?_
        refine LR.v (Y.addi rfl rfl rfl (by omega)) (Wd.u rfl) rfl rfl ?_
        refine LR.v (Y.assign rfl rfl) (Wd.u rfl) rfl rfl ?_
        refine LR.nil ?_
        refine QN.sub (hN5 (n + 1) _ ?_ ?_) ⟨rfl, (iv (by omega)), trivial⟩
        · exact ⟨(by omega), (fun m h => by by_cases e : m = n; exact e ▸ ⟨c12, c18⟩; exact hno m (by omega)), hlm1⟩
        · first | omega | (simp only; omega) | (simp; omega)
  ·
    refine CW.exit (hE6 (.exit 0) nofun _ _ (hE5 (.exit 0) nofun _ _ (hX4 _ _ ?_)))
    refine hK2 _ _ ?_
    refine CW.seq (fun K15 hK15 hE15 => ?_)
    refine CW.region ?_
    refine LR.v (Y.assign rfl rfl) (Wd.u rfl) rfl rfl ?_
    refine LR.v (Y.assign rfl rfl) (Wd.u rfl) rfl rfl ?_
    refine LR.nil ?_
    refine hK15 _ _ ?_
    refine CW.ret (hret .ret (.inr rfl) _ _ _ (res2 rfl rfl rfl) ?_)
    have hneg : markL s = -1 := by
      rcases mark_cases s with ⟨m, h1, h2, h3⟩ | h
      · obtain ⟨e1, e2, _, _, _⟩ := mk_mw h1
        obtain ⟨a1, a2⟩ := hno m (by omega)
        rcases trim_eq.1 h3 with h | ⟨h, _⟩
        · exact absurd (h.trans e1.symm) a1
        · exact absurd (h.trans e2.symm) a2
      · exact h.1
    exact ⟨false, by rw [hneg], (fun h => by omega), hm0⟩

theorem rmarks_ct (v : Value) (b : List UInt8) (w0 : World) (H0 : Heap)
    (hb : RdT H0 fB 1 v b) (hbl : b.length ≤ 1048576) :
    Ct Try.prog w0 13 #[v] H0 (fun r H2 => r = .bool (marksL b) ∧ Nw H0 H2) := by
  refine Ct.enter (args := [v]) Try.func13 rfl rfl rfl ?_
  intro Q0 hret
  have hm0 : Nw H0 H0 := Mo.refl _ _
  replace hb := hb.bnd
  have bf_hb := Rd.bf hb
  refine CW.seq (fun K1 hK1 hE1 => ?_)
  refine CW.region ?_
  refine LR.v (Y.assign rfl rfl) (Wd.u rfl) rfl rfl ?_
  refine LR.nil ?_
  refine hK1 _ _ ?_
  refine CW.seq (fun K2 hK2 hE2 => ?_)
  refine CW.region ?_
  refine LR.v (Y.move rfl rfl) (Wd.u rfl) rfl rfl ?_
  -- call selvage/selvageref12.Split
  refine LR.call rfl Try.call30 rfl (Wd.u rfl) rfl rfl (rsplit3 _ b w0 _ hb.any hbl) (fun v8 H8 r8 => ?_)
  obtain ⟨v8, k8, rfl, os, hk8, hs8⟩ := r8
  have df1 := DF.app (DF.z) (bf_hb.mono hm0.size) hk8
  have nx2 : Nx 0 H0.size k8 := Nx.tr (Nx.refl 0 _) hk8 hm0.size
  replace hb := hb.nw hs8
  replace hm0 := hm0.tr hs8
  have hz1 := hs8.size
  have hle_os := os.le
  have hsm := split_mem (b := b)
  obtain ⟨l, hl⟩ : ∃ l, splitL [] b = l := ⟨_, rfl⟩
  rw [hl] at os hsm
  have hll := os.len
  refine LR.v (Y.assign rfl rfl) (Wd.u rfl) rfl rfl ?_
  refine LR.nil ?_
  refine hK2 _ _ ?_
  refine CW.seq (fun K3 hK3 hE3 => ?_)
  refine CW.seq (fun K4 hK4 hE4 => ?_)
  refine CW.region ?_
  refine LR.v (Y.assign rfl rfl) (Wd.u rfl) rfl rfl ?_
  refine LR.nil ?_
  refine hK4 _ _ ?_
  refine CW.block (fun K5 hK5 hX5 hE5 => ?_)
  refine CW.loop (fun (j : (Nat)) => [(3, v8), (4, .int .i64 j)])
    (fun (j : (Nat)) (H : Heap) => (j ≤ l.length) ∧ ((l.take j).any (fun s => decide (0 ≤ markL s)) = false) ∧ Nw H8 H)
    (fun (j : (Nat)) => l.length - j) 0 ⟨rfl, rfl, trivial⟩ ?_ ?_
  ·
    exact ⟨(by omega), rfl, Mo.refl _ _⟩
  intro j HL1 hI1 K6 hN6 hE6
  obtain ⟨hj, ha, hlm1⟩ := hI1
  replace hb := hb.nw hlm1
  replace os := os.nw hlm1
  replace hm0 := hm0.tr hlm1
  have hz2 := hlm1.size
  refine CW.seq (fun K7 hK7 hE7 => ?_)
  refine CW.seq (fun K8 hK8 hE8 => ?_)
  refine CW.region ?_
  refine LR.v (Y.move rfl rfl) (Wd.u rfl) rfl rfl ?_
  refine LR.v (Y.move rfl rfl) (Wd.u rfl) rfl rfl ?_
  refine LR.v (Y.len os.rd rfl Try.runUnderlying32 rfl) (Wd.u rfl) rfl rfl ?_
  refine LR.v (Y.lss rfl rfl rfl) (Wd.u rfl) rfl rfl ?_
  refine LR.nil ?_
  refine hK8 _ _ ?_
  refine CW.condp rfl (fun c12 => ?_) (fun c12 => ?_)
  ·
    refine CW.skip ?_
    refine hK7 _ _ ?_
    refine CW.seq (fun K9 hK9 hE9 => ?_)
    refine CW.block (fun K10 hK10 hX10 hE10 => ?_)
    refine CW.seq (fun K11 hK11 hE11 => ?_)
    refine CW.region ?_
    refine LR.v (Y.move rfl rfl) (Wd.u rfl) rfl rfl ?_
    refine LR.v (Y.move rfl rfl) (Wd.u rfl) rfl rfl ?_
    refine LR.v (Y.owAddr os (j) rfl Try.runUnderlying32 Try.sizeOf9 rfl rfl (by first | rfl | omega) (by first | omega | (simp; omega) | (simp; done))) (Wd.u rfl) rfl rfl ?_
    refine LR.v (Y.load1 (os.pt (j := j) (by first | omega | (simp; omega) | (simp; done))) rfl Try.isAgg9 rfl) (Wd.u rfl) rfl rfl ?_
    -- call selvage/selvageref14.which
    refine LR.call rfl Try.call32 rfl (Wd.u rfl) rfl rfl (which_ct l[j] w0 _ (by have := hsm l[j] (List.getElem_mem (by omega)); omega)) (fun v20 H20 r20 => ?_)
    obtain ⟨w20, rfl, hw20, hs20⟩ := r20
    replace hb := hb.nw hs20
    replace os := os.nw hs20
    replace hm0 := hm0.tr hs20
    replace hlm1 := hlm1.tr hs20
    have hz3 := hs20.size
    refine LR.v (Y.move rfl rfl) (Wd.u rfl) rfl rfl ?_
    refine LR.v (Y.extract rfl rfl rfl) (Wd.u rfl) rfl rfl ?_
    refine LR.v (Y.extract rfl rfl rfl) (Wd.u rfl) rfl rfl ?_
    refine LR.v (Y.assign rfl rfl) (Wd.u rfl) rfl rfl ?_
    refine LR.v (Y.assign rfl rfl) (Wd.u rfl) rfl rfl ?_
    refine LR.nil ?_
    refine hK11 _ _ ?_
    refine CW.seq (fun K12 hK12 hE12 => ?_)
    refine CW.region ?_
    refine LR.v (Y.move rfl rfl) (Wd.u rfl) rfl rfl ?_
    refine LR.v (Y.geq rfl rfl rfl) (Wd.u rfl) rfl rfl ?_
    refine LR.nil ?_
    refine hK12 _ _ ?_
    refine CW.condp rfl (fun c24 => ?_) (fun c24 => ?_)
    ·
      refine CW.seq (fun K13 hK13 hE13 => ?_)
      refine CW.region ?_
      refine LR.v (Y.assign rfl rfl) (Wd.u rfl) rfl rfl ?_
      refine LR.nil ?_
      refine hK13 _ _ ?_
      refine CW.ret (hE10 .ret nofun (by simp) _ _ (hE9 .ret nofun _ _ (hE6 .ret nofun _ _ (hE5 .ret nofun (by simp) _ _ (hE3 .ret nofun _ _ (hret .ret (.inr rfl) _ _ _ (res1 rfl rfl) ?_))))))
      exact ⟨by rw [marksL, hl]; first | rw [any_at (j := j) (by omega) (by simp; omega)] | (rw [List.take_of_length_le (by omega)] at ha; rw [ha]), hm0⟩
    ·
      refine CW.skip ?_
      refine hK10 _ _ ?_
      refine hK9 _ _ ?_
      refine CW.region ?_
      refine LR.v (Y.move rfl rfl) (Wd.u rfl) rfl rfl ?_
      refine LR.v (Y.addi rfl rfl rfl (by omega)) (Wd.u rfl) rfl rfl ?_
      refine LR.v (Y.assign rfl rfl) (Wd.u rfl) rfl rfl ?_
      refine LR.nil ?_
      refine QN.sub (hN6 (j + 1) _ ?_ ?_) ⟨rfl, (iv (by omega)), trivial⟩
      · exact ⟨(by omega), any_take ha (by omega) (by simp; omega), hlm1⟩
      · first | omega | (simp only; omega) | (simp; omega)
  ·
    refine CW.exit (hE7 (.exit 0) nofun _ _ (hE6 (.exit 0) nofun _ _ (hX5 _ _ ?_)))
    refine hK3 _ _ ?_
    refine CW.seq (fun K14 hK14 hE14 => ?_)
    refine CW.region ?_
    refine LR.v (Y.assign rfl rfl) (Wd.u rfl) rfl rfl ?_
    refine LR.nil ?_
    refine hK14 _ _ ?_
    refine CW.ret (hret .ret (.inr rfl) _ _ _ (res1 rfl rfl) ?_)
    exact ⟨by rw [marksL, hl]; rw [List.take_of_length_le (by omega)] at ha; rw [ha], hm0⟩

end Go.Proofs.Ytegfnfhdgbcjbaa.MerL
