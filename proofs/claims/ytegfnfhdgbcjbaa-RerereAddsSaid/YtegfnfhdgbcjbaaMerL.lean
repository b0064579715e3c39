/-
  Marks told.
-/
import Derived.Test.YtegfnfhdgbcjbaaMerH
namespace Go.Proofs.Ytegfnfhdgbcjbaa.MerL
open Go.Proofs.Ytegfnfhdgbcjbaa.E Go.RowKit Go.Proofs.Ytegfnfhdgbcjbaa.LinM Go.Proofs.Ytegfnfhdgbcjbaa.LinC Go.Proofs.Ytegfnfhdgbcjbaa.LinL Go.Proofs.Ytegfnfhdgbcjbaa.LinN Go.Proofs.Ytegfnfhdgbcjbaa.MerA Go.Proofs.Ytegfnfhdgbcjbaa.MerB Go.Proofs.Ytegfnfhdgbcjbaa.MerC Go.Proofs.Ytegfnfhdgbcjbaa.MerD Go.Proofs.Ytegfnfhdgbcjbaa.MerE Go.Proofs.Ytegfnfhdgbcjbaa.MerF Go.Proofs.Ytegfnfhdgbcjbaa.MerH
set_option maxRecDepth 20000
set_option linter.unusedVariables false
set_option linter.unusedSimpArgs false
set_option linter.unusedSectionVars false

/-- does a text end so? -/
def sfx (s t : List UInt8) : Bool := decide (t.length ≤ s.length ∧ s.drop (s.length - t.length) = t)
def trimS (s t : List UInt8) : List UInt8 := if sfx s t = true then s.take (s.length - t.length) else s
/-- which mark a line is -/
def markL (s : List UInt8) : Int := if trimS s [10] = mw0 then 0 else if trimS s [10] = mw1 then 1 else if trimS s [10] = mw2 then 2 else if trimS s [10] = mw3 then 3 else -1
/-- the marks without their line feeds, by number -/
def mw (n : Nat) : List UInt8 := [mw0, mw1, mw2, mw3].getD n []
theorem mark_n {s : List UInt8} {n : Nat} (hn : n < 4) (h : trimS s [10] = mw n) : markL s = n := by
  unfold markL
  rw [h]
  match n, hn with
  | 0, _ => rfl
  | 1, _ => rfl
  | 2, _ => rfl
  | 3, _ => rfl
theorem mark_neg {s : List UInt8} (h : ∀ n : Nat, n < 4 → trimS s [10] ≠ mw n) : markL s = -1 := by
  unfold markL
  rw [if_neg (show ¬ trimS s [10] = mw0 from h 0 (by decide)), if_neg (show ¬ trimS s [10] = mw1 from h 1 (by decide)), if_neg (show ¬ trimS s [10] = mw2 from h 2 (by decide)), if_neg (show ¬ trimS s [10] = mw3 from h 3 (by decide))]
theorem mark_cases (s : List UInt8) : (∃ n : Nat, n < 4 ∧ markL s = n ∧ trimS s [10] = mw n) ∨ (markL s = -1 ∧ ∀ n : Nat, n < 4 → trimS s [10] ≠ mw n) := by
  by_cases h : ∃ n : Nat, n < 4 ∧ trimS s [10] = mw n
  · obtain ⟨n, h1, h2⟩ := h; exact .inl ⟨n, h1, mark_n h1 h2, h2⟩
  · have h3 : ∀ n : Nat, n < 4 → trimS s [10] ≠ mw n := fun n hn e => h ⟨n, hn, e⟩
    exact .inr ⟨mark_neg h3, h3⟩
theorem mark_bd (s : List UInt8) : -1 ≤ markL s ∧ markL s ≤ 3 := by
  rcases mark_cases s with ⟨n, h1, h2, _⟩ | ⟨h, _⟩ <;> omega
theorem hasSuf_ct0 (s t : List UInt8) (w0 : World) (H0 : Heap)
    (hs : s.length ≤ 1099511627776) (ht : t.length ≤ 1099511627776) :
    Ct Try.prog w0 59 #[Str s, Str t] H0 (fun r H2 => r = .bool (sfx s t) ∧ Nw H0 H2) := by
  refine Ct.enter (args := [Str s, Str t]) Try.func59 rfl rfl rfl ?_
  intro Q0 hret
  have hm0 : Nw H0 H0 := Mo.refl _ _
  refine CW.seq (fun K1 hK1 hE1 => ?_)
  refine CW.region ?_
  refine LR.v (Y.assign rfl rfl) (Wd.u rfl) rfl rfl ?_
  refine LR.nil ?_
  refine hK1 _ _ ?_
  refine CW.seq (fun K2 hK2 hE2 => ?_)
  refine CW.region ?_
  refine LR.v (Y.move rfl rfl) (Wd.u rfl) rfl rfl ?_
  refine LR.v (Y.slen rfl Try.runUnderlying9 rfl) (Wd.u rfl) rfl rfl ?_
  refine LR.v (Y.move rfl rfl) (Wd.u rfl) rfl rfl ?_
  refine LR.v (Y.slen rfl Try.runUnderlying9 rfl) (Wd.u rfl) rfl rfl ?_
  refine LR.v (Y.geq rfl rfl rfl) (Wd.u rfl) rfl rfl ?_
  refine LR.v (Y.move rfl rfl) (Wd.u rfl) rfl rfl ?_
  refine LR.splitp (d := 10) rfl (fun g10 => ?_) (fun g10 => ?_)
  ·
    refine LR.v (Y.move rfl rfl) (Wd.g rfl rfl rfl) rfl rfl ?_
    refine LR.v (Y.move rfl rfl) (Wd.g rfl rfl rfl) rfl rfl ?_
    refine LR.v (Y.slen rfl Try.runUnderlying9 rfl) (Wd.g rfl rfl rfl) rfl rfl ?_
    refine LR.v (Y.move rfl rfl) (Wd.g rfl rfl rfl) rfl rfl ?_
    refine LR.v (Y.slen rfl Try.runUnderlying9 rfl) (Wd.g rfl rfl rfl) rfl rfl ?_
    refine LR.v (Y.subi rfl rfl rfl (by omega)) (Wd.g rfl rfl rfl) rfl rfl ?_
    refine LR.v (Y.sslice (s.length - t.length) (s.length) rfl Try.runUnderlying9 rfl (.inr ⟨_, _, _, rfl, rfl, by first | rfl | omega⟩) (.inl ⟨rfl, rfl⟩) (by omega) (by omega)) (Wd.g rfl rfl rfl) rfl rfl ?_
    refine LR.v (Y.move rfl rfl) (Wd.g rfl rfl rfl) rfl rfl ?_
    refine LR.v (Y.seql rfl rfl rfl) (Wd.g rfl rfl rfl) rfl rfl ?_
    refine LR.v (Y.pick_t rfl rfl rfl) (Wd.u rfl) rfl rfl ?_
    refine LR.v (Y.assign rfl rfl) (Wd.u rfl) rfl rfl ?_
    refine LR.nil ?_
    refine hK2 _ _ ?_
    refine CW.ret (hret .ret (.inr rfl) _ _ _ (res1 rfl rfl) ?_)
    exact ⟨by first | (unfold sfx; rw [List.take_length]; exact bdec ⟨fun h => ⟨by omega, h⟩, fun h => h.2⟩) | (rw [show sfx s t = false from decide_eq_false (fun h => by omega)]), hm0⟩
  ·
    refine LR.gs rfl rfl rfl rfl rfl rfl ?_
    refine LR.gs rfl rfl rfl rfl rfl rfl ?_
    refine LR.gs rfl rfl rfl rfl rfl rfl ?_
    refine LR.gs rfl rfl rfl rfl rfl rfl ?_
    refine LR.gs rfl rfl rfl rfl rfl rfl ?_
    refine LR.gs rfl rfl rfl rfl rfl rfl ?_
    refine LR.gs rfl rfl rfl rfl rfl rfl ?_
    refine LR.gs rfl rfl rfl rfl rfl rfl ?_
    refine LR.gs rfl rfl rfl rfl rfl rfl ?_
    refine LR.v (Y.pick_f rfl rfl rfl) (Wd.u rfl) rfl rfl ?_
    refine LR.v (Y.assign rfl rfl) (Wd.u rfl) rfl rfl ?_
    refine LR.nil ?_
    refine hK2 _ _ ?_
    refine CW.ret (hret .ret (.inr rfl) _ _ _ (res1 rfl rfl) ?_)
    exact ⟨by first | (unfold sfx; rw [List.take_length]; exact bdec ⟨fun h => ⟨by omega, h⟩, fun h => h.2⟩) | (rw [show sfx s t = false from decide_eq_false (fun h => by omega)]), hm0⟩

theorem hasSuf_ct (s t : List UInt8) (w0 : World) (H0 : Heap)
    (hs : s.length ≤ 1099511627776) (ht : t.length ≤ 1099511627776) :
    Ct Try.prog w0 41 #[Str s, Str t] H0 (fun r H2 => r = .bool (sfx s t) ∧ Nw H0 H2) := by
  refine Ct.enter (args := [Str s, Str t]) Try.func41 rfl rfl rfl ?_
  intro Q0 hret
  have hm0 : Nw H0 H0 := Mo.refl _ _
  refine CW.seq (fun K1 hK1 hE1 => ?_)
  refine CW.region ?_
  refine LR.v (Y.assign rfl rfl) (Wd.u rfl) rfl rfl ?_
  refine LR.nil ?_
  refine hK1 _ _ ?_
  refine CW.seq (fun K2 hK2 hE2 => ?_)
  refine CW.region ?_
  refine LR.v (Y.move rfl rfl) (Wd.u rfl) rfl rfl ?_
  refine LR.v (Y.move rfl rfl) (Wd.u rfl) rfl rfl ?_
  -- call internal/stringslite.HasSuffix
  refine LR.call rfl Try.call59 rfl (Wd.u rfl) rfl rfl (hasSuf_ct0 s t w0 _ hs ht) (fun v7 H7 r7 => ?_)
  obtain ⟨rfl, hs7⟩ := r7
  replace hm0 := hm0.tr hs7
  have hz1 := hs7.size
  refine LR.v (Y.assign rfl rfl) (Wd.u rfl) rfl rfl ?_
  refine LR.nil ?_
  refine hK2 _ _ ?_
  refine CW.ret (hret .ret (.inr rfl) _ _ _ (res1 rfl rfl) ?_)
  exact ⟨rfl, hm0⟩

theorem trimSuf_ct0 (s t : List UInt8) (w0 : World) (H0 : Heap)
    (hs : s.length ≤ 1099511627776) (ht : t.length ≤ 1099511627776) :
    Ct Try.prog w0 65 #[Str s, Str t] H0 (fun r H2 => r = Str (trimS s t) ∧ Nw H0 H2) := by
  refine Ct.enter (args := [Str s, Str t]) Try.func65 rfl rfl rfl ?_
  intro Q0 hret
  have hm0 : Nw H0 H0 := Mo.refl _ _
  refine CW.seq (fun K1 hK1 hE1 => ?_)
  refine CW.region ?_
  refine LR.v (Y.assign rfl rfl) (Wd.u rfl) rfl rfl ?_
  refine LR.nil ?_
  refine hK1 _ _ ?_
  refine CW.seq (fun K2 hK2 hE2 => ?_)
  refine CW.seq (fun K3 hK3 hE3 => ?_)
  refine CW.region ?_
  refine LR.v (Y.move rfl rfl) (Wd.u rfl) rfl rfl ?_
  refine LR.v (Y.move rfl rfl) (Wd.u rfl) rfl rfl ?_
  -- call internal/stringslite.HasSuffix
  refine LR.call rfl Try.call59 rfl (Wd.u rfl) rfl rfl (hasSuf_ct0 s t w0 _ hs ht) (fun v7 H7 r7 => ?_)
  obtain ⟨rfl, hs7⟩ := r7
  replace hm0 := hm0.tr hs7
  have hz1 := hs7.size
  refine LR.nil ?_
  refine hK3 _ _ ?_
  refine CW.cond rfl (fun c7 => ?_) (fun c7 => ?_)
  ·
    have hsl : t.length ≤ s.length := (of_decide_eq_true c7).1
    refine CW.seq (fun K4 hK4 hE4 => ?_)
    refine CW.region ?_
    refine LR.v (Y.move rfl rfl) (Wd.u rfl) rfl rfl ?_
    refine LR.v (Y.move rfl rfl) (Wd.u rfl) rfl rfl ?_
    refine LR.v (Y.slen rfl Try.runUnderlying9 rfl) (Wd.u rfl) rfl rfl ?_
    refine LR.v (Y.move rfl rfl) (Wd.u rfl) rfl rfl ?_
    refine LR.v (Y.slen rfl Try.runUnderlying9 rfl) (Wd.u rfl) rfl rfl ?_
    refine LR.v (Y.subi rfl rfl rfl (by omega)) (Wd.u rfl) rfl rfl ?_
    refine LR.v (Y.sslice (0) (s.length - t.length) rfl Try.runUnderlying9 rfl (.inl ⟨rfl, rfl⟩) (.inr ⟨_, _, _, rfl, rfl, by first | rfl | omega⟩) (by omega) (by omega)) (Wd.u rfl) rfl rfl ?_
    refine LR.v (Y.assign rfl rfl) (Wd.u rfl) rfl rfl ?_
    refine LR.nil ?_
    refine hK4 _ _ ?_
    refine CW.ret (hE2 .ret nofun _ _ (hret .ret (.inr rfl) _ _ _ (res1 rfl rfl) ?_))
    exact ⟨by rw [trimS, if_pos c7, List.drop_zero], hm0⟩
  ·
    refine CW.skip ?_
    refine hK2 _ _ ?_
    refine CW.seq (fun K5 hK5 hE5 => ?_)
    refine CW.region ?_
    refine LR.v (Y.move rfl rfl) (Wd.u rfl) rfl rfl ?_
    refine LR.v (Y.assign rfl rfl) (Wd.u rfl) rfl rfl ?_
    refine LR.nil ?_
    refine hK5 _ _ ?_
    refine CW.ret (hret .ret (.inr rfl) _ _ _ (res1 rfl rfl) ?_)
    exact ⟨by rw [trimS, if_neg (by simpa using c7)], hm0⟩

theorem trimSuf_ct (s t : List UInt8) (w0 : World) (H0 : Heap)
    (hs : s.length ≤ 1099511627776) (ht : t.length ≤ 1099511627776) :
    Ct Try.prog w0 58 #[Str s, Str t] H0 (fun r H2 => r = Str (trimS s t) ∧ Nw H0 H2) := by
  refine Ct.enter (args := [Str s, Str t]) Try.func58 rfl rfl rfl ?_
  intro Q0 hret
  have hm0 : Nw H0 H0 := Mo.refl _ _
  refine CW.seq (fun K1 hK1 hE1 => ?_)
  refine CW.region ?_
  refine LR.v (Y.assign rfl rfl) (Wd.u rfl) rfl rfl ?_
  refine LR.nil ?_
  refine hK1 _ _ ?_
  refine CW.seq (fun K2 hK2 hE2 => ?_)
  refine CW.region ?_
  refine LR.v (Y.move rfl rfl) (Wd.u rfl) rfl rfl ?_
  refine LR.v (Y.move rfl rfl) (Wd.u rfl) rfl rfl ?_
  -- call internal/stringslite.TrimSuffix
  refine LR.call rfl Try.call65 rfl (Wd.u rfl) rfl rfl (trimSuf_ct0 s t w0 _ hs ht) (fun v7 H7 r7 => ?_)
  obtain ⟨rfl, hs7⟩ := r7
  replace hm0 := hm0.tr hs7
  have hz1 := hs7.size
  refine LR.v (Y.assign rfl rfl) (Wd.u rfl) rfl rfl ?_
  refine LR.nil ?_
  refine hK2 _ _ ?_
  refine CW.ret (hret .ret (.inr rfl) _ _ _ (res1 rfl rfl) ?_)
  exact ⟨rfl, hm0⟩

theorem markP_ct (s : List UInt8) (w0 : World) (H0 : Heap)
    (hs : s.length ≤ 1099511627776) :
    Ct Try.prog w0 40 #[Str s] H0 (fun r H2 => r = .int .i64 (markL s) ∧ Nw H0 H2) := by
  refine Ct.enter (args := [Str s]) Try.func40 rfl rfl rfl ?_
  intro Q0 hret
  have hm0 : Nw H0 H0 := Mo.refl _ _
  refine CW.seq (fun K1 hK1 hE1 => ?_)
  refine CW.region ?_
  refine LR.v (Y.assign rfl rfl) (Wd.u rfl) rfl rfl ?_
  refine LR.nil ?_
  refine hK1 _ _ ?_
  refine CW.seq (fun K2 hK2 hE2 => ?_)
  refine CW.seq (fun K3 hK3 hE3 => ?_)
  refine CW.region ?_
  refine LR.v (Y.move rfl rfl) (Wd.u rfl) rfl rfl ?_
  -- call strings.TrimSuffix
  refine LR.call rfl Try.call58 rfl (Wd.u rfl) rfl rfl (trimSuf_ct s [10] w0 _ hs (by decide)) (fun v4 H4 r4 => ?_)
  obtain ⟨rfl, hs4⟩ := r4
  replace hm0 := hm0.tr hs4
  have hz1 := hs4.size
  refine LR.nil ?_
  refine hK3 _ _ ?_
  refine CW.block (fun K4 hK4 hX4 hE4 => ?_)
  refine CW.seq (fun K5 hK5 hE5 => ?_)
  refine CW.region ?_
  refine LR.v (Y.seql rfl rfl rfl) (Wd.u rfl) rfl rfl ?_
  refine LR.v (Y.assign rfl rfl) (Wd.u rfl) rfl rfl ?_
  refine LR.nil ?_
  refine hK5 _ _ ?_
  refine CW.condp rfl (fun c5 => ?_) (fun c5 => ?_)
  ·
    refine CW.seq (fun K6 hK6 hE6 => ?_)
    refine CW.region ?_
    refine LR.v (Y.assign rfl rfl) (Wd.u rfl) rfl rfl ?_
    refine LR.nil ?_
    refine hK6 _ _ ?_
    refine CW.ret (hE4 .ret nofun (by simp) _ _ (hE2 .ret nofun _ _ (hret .ret (.inr rfl) _ _ _ (res1 rfl rfl) ?_)))
    exact ⟨by rw [markL]; first | rw [if_pos (by assumption)] | rw [if_neg (by assumption), if_pos (by assumption)] | rw [if_neg (by assumption), if_neg (by assumption), if_pos (by assumption)] | rw [if_neg (by assumption), if_neg (by assumption), if_neg (by assumption), if_pos (by assumption)] | rw [if_neg (by assumption), if_neg (by assumption), if_neg (by assumption), if_neg (by assumption)], hm0⟩
  ·
    refine CW.seq (fun K7 hK7 hE7 => ?_)
    refine CW.region ?_
    refine LR.v (Y.seql rfl rfl rfl) (Wd.u rfl) rfl rfl ?_
    refine LR.v (Y.assign rfl rfl) (Wd.u rfl) rfl rfl ?_
    refine LR.nil ?_
    refine hK7 _ _ ?_
    refine CW.condp rfl (fun c7 => ?_) (fun c7 => ?_)
    ·
      refine CW.seq (fun K8 hK8 hE8 => ?_)
      refine CW.region ?_
      refine LR.v (Y.assign rfl rfl) (Wd.u rfl) rfl rfl ?_
      refine LR.nil ?_
      refine hK8 _ _ ?_
      refine CW.ret (hE4 .ret nofun (by simp) _ _ (hE2 .ret nofun _ _ (hret .ret (.inr rfl) _ _ _ (res1 rfl rfl) ?_)))
      exact ⟨by rw [markL]; first | rw [if_pos (by assumption)] | rw [if_neg (by assumption), if_pos (by assumption)] | rw [if_neg (by assumption), if_neg (by assumption), if_pos (by assumption)] | rw [if_neg (by assumption), if_neg (by assumption), if_neg (by assumption), if_pos (by assumption)] | rw [if_neg (by assumption), if_neg (by assumption), if_neg (by assumption), if_neg (by assumption)], hm0⟩
    ·
      refine CW.seq (fun K9 hK9 hE9 => ?_)
      refine CW.region ?_
      refine LR.v (Y.seql rfl rfl rfl) (Wd.u rfl) rfl rfl ?_
      refine LR.v (Y.assign rfl rfl) (Wd.u rfl) rfl rfl ?_
      refine LR.nil ?_
      refine hK9 _ _ ?_
      refine CW.condp rfl (fun c9 => ?_) (fun c9 => ?_)
      ·
        refine CW.seq (fun K10 hK10 hE10 => ?_)
        refine CW.region ?_
        refine LR.v (Y.assign rfl rfl) (Wd.u rfl) rfl rfl ?_
        refine LR.nil ?_
        refine hK10 _ _ ?_
        refine CW.ret (hE4 .ret nofun (by simp) _ _ (hE2 .ret nofun _ _ (hret .ret (.inr rfl) _ _ _ (res1 rfl rfl) ?_)))
        exact ⟨by rw [markL]; first | rw [if_pos (by assumption)] | rw [if_neg (by assumption), if_pos (by assumption)] | rw [if_neg (by assumption), if_neg (by assumption), if_pos (by assumption)] | rw [if_neg (by assumption), if_neg (by assumption), if_neg (by assumption), if_pos (by assumption)] | rw [if_neg (by assumption), if_neg (by assumption), if_neg (by assumption), if_neg (by assumption)], hm0⟩
      ·
        refine CW.seq (fun K11 hK11 hE11 => ?_)
        refine CW.region ?_
        refine LR.v (Y.seql rfl rfl rfl) (Wd.u rfl) rfl rfl ?_
        refine LR.v (Y.assign rfl rfl) (Wd.u rfl) rfl rfl ?_
        refine LR.nil ?_
        refine hK11 _ _ ?_
        refine CW.condp rfl (fun c11 => ?_) (fun c11 => ?_)
        ·
          refine CW.seq (fun K12 hK12 hE12 => ?_)
          refine CW.region ?_
          refine LR.v (Y.assign rfl rfl) (Wd.u rfl) rfl rfl ?_
          refine LR.nil ?_
          refine hK12 _ _ ?_
          refine CW.ret (hE4 .ret nofun (by simp) _ _ (hE2 .ret nofun _ _ (hret .ret (.inr rfl) _ _ _ (res1 rfl rfl) ?_)))
          exact ⟨by rw [markL]; first | rw [if_pos (by assumption)] | rw [if_neg (by assumption), if_pos (by assumption)] | rw [if_neg (by assumption), if_neg (by assumption), if_pos (by assumption)] | rw [if_neg (by assumption), if_neg (by assumption), if_neg (by assumption), if_pos (by assumption)] | rw [if_neg (by assumption), if_neg (by assumption), if_neg (by assumption), if_neg (by assumption)], hm0⟩
        ·
          refine CW.skip ?_
          refine hK4 _ _ ?_
          refine hK2 _ _ ?_
          refine CW.seq (fun K13 hK13 hE13 => ?_)
          refine CW.region ?_
          refine LR.v (Y.assign rfl rfl) (Wd.u rfl) rfl rfl ?_
          refine LR.nil ?_
          refine hK13 _ _ ?_
          refine CW.ret (hret .ret (.inr rfl) _ _ _ (res1 rfl rfl) ?_)
          exact ⟨by rw [markL]; first | rw [if_pos (by assumption)] | rw [if_neg (by assumption), if_pos (by assumption)] | rw [if_neg (by assumption), if_neg (by assumption), if_pos (by assumption)] | rw [if_neg (by assumption), if_neg (by assumption), if_neg (by assumption), if_pos (by assumption)] | rw [if_neg (by assumption), if_neg (by assumption), if_neg (by assumption), if_neg (by assumption)], hm0⟩

end Go.Proofs.Ytegfnfhdgbcjbaa.MerL
