/-
  What holds of the pairs of two trees.
-/
import Derived.Test.YtclhnkmkejijjaaRenM
namespace Go.Proofs.Ytclhnkmkejijjaa.RenN
open Go.Proofs.Ytclhnkmkejijjaa.E Go.RowKit Go.Proofs.Ytclhnkmkejijjaa.RenA Go.Proofs.Ytclhnkmkejijjaa.RenB Go.Proofs.Ytclhnkmkejijjaa.RenC Go.Proofs.Ytclhnkmkejijjaa.RenD Go.Proofs.Ytclhnkmkejijjaa.RenE Go.Proofs.Ytclhnkmkejijjaa.RenF Go.Proofs.Ytclhnkmkejijjaa.RenG Go.Proofs.Ytclhnkmkejijjaa.RenH Go.Proofs.Ytclhnkmkejijjaa.RenI Go.Proofs.Ytclhnkmkejijjaa.RenL Go.Proofs.Ytclhnkmkejijjaa.RenM
set_option maxRecDepth 20000
set_option linter.unusedVariables false
set_option linter.unusedSimpArgs false
set_option linter.unusedSectionVars false

theorem erase_perm {α : Type} {l : List α} {q : Nat} (h : q < l.length) : l.Perm (l[q] :: l.eraseIdx q) := by
  rw [List.eraseIdx_eq_take_drop_succ]
  conv => lhs; rw [← List.take_append_drop q l, List.drop_eq_getElem_cons h]
  exact List.perm_middle
theorem exL_perm (come : List Fl) : ∀ gone : List Fl, ((exL gone come).1.map (·.o) ++ (exL gone come).2.1.map (·.p)).Perm (gone.map (·.p)) ∧ ((exL gone come).1.map (·.n) ++ (exL gone come).2.2.map (·.p)).Perm (come.map (·.p)) := by
  have key : ∀ (g : List Fl) (s : List Pr × List Fl × List Fl), ((g.foldl exStep s).1.map (·.o) ++ (g.foldl exStep s).2.1.map (·.p)).Perm (s.1.map (·.o) ++ s.2.1.map (·.p) ++ g.map (·.p)) ∧ ((g.foldl exStep s).1.map (·.n) ++ (g.foldl exStep s).2.2.map (·.p)).Perm (s.1.map (·.n) ++ s.2.2.map (·.p)) := by
    intro g
    induction g with
    | nil => intro s; exact ⟨by simp, by simp⟩
    | cons f g ih =>
      intro s
      obtain ⟨h1, h2⟩ := ih (exStep s f)
      rw [List.foldl_cons]
      rcases Int.lt_or_le (pst f s.2.2 s.2.2.length) 0 with hp | hp
      · rw [exStep_no hp] at h1 h2 ⊢
        refine ⟨h1.trans ?_, h2⟩
        simp
      · obtain ⟨q, hq⟩ : ∃ q : Nat, pst f s.2.2 s.2.2.length = q := ⟨(pst f s.2.2 s.2.2.length).toNat, by omega⟩
        have hl := pst_lt f s.2.2 s.2.2.length
        have hql : q < s.2.2.length := by omega
        rw [exStep_yes hq hql] at h1 h2 ⊢
        refine ⟨h1.trans ?_, h2.trans ?_⟩
        · simp only [List.map_append, List.map_cons, List.map_nil, List.append_assoc]
          refine List.Perm.append_left _ ?_
          exact (List.perm_middle (a := f.p) (l₁ := s.2.1.map (·.p)) (l₂ := g.map (·.p))).symm
        · simp only [List.map_append, List.map_cons, List.map_nil, List.append_assoc]
          refine List.Perm.append_left _ ?_
          have e : (s.2.2.map (·.p)).Perm (s.2.2[q].p :: (s.2.2.eraseIdx q).map (·.p)) := by
            have := (erase_perm hql).map (·.p)
            exact this
          exact e.symm
  intro gone
  have h := key gone ([], [], come)
  simp only [List.map_nil, List.nil_append] at h
  exact h
theorem pst_d {f : Fl} {l : List Fl} : ∀ {k : Nat}, 0 ≤ pst f l k → ∃ g, l[(pst f l k).toNat]? = some g ∧ f.d = g.d
  | 0, h => by simp [pst] at h
  | k + 1, h => by
    rw [pst] at h ⊢
    split at h
    · exact pst_d h
    · rename_i g e
      split at h
      · rename_i h2; rw [if_pos h2]; exact ⟨g, by simpa using e, h2.1⟩
      · rename_i h2; rw [if_neg h2]; exact pst_d h
/-- a pair that may be -/
def PrOk (gone come : List Fl) (p : Pr) : Prop := ∃ f ∈ gone, ∃ g ∈ come, p = ⟨f.p, g.p, (scoreB f.d g.d : Nat)⟩ ∧ 50 ≤ scoreB f.d g.d
theorem exL_ok (come : List Fl) (gone : List Fl) : ∀ p ∈ (exL gone come).1, PrOk gone come p := by
  have key : ∀ (g : List Fl) (s : List Pr × List Fl × List Fl) (G : List Fl), (∀ p ∈ s.1, PrOk G come p) → (∀ x ∈ s.2.2, x ∈ come) → (∀ x ∈ g, x ∈ G) → ∀ p ∈ (g.foldl exStep s).1, PrOk G come p := by
    intro g
    induction g with
    | nil => intro s G h _ _; exact h
    | cons f g ih =>
      intro s G h1 h2 h3
      rw [List.foldl_cons]
      refine ih _ G ?_ ?_ (fun x hx => h3 x (by simp [hx]))
      · rcases Int.lt_or_le (pst f s.2.2 s.2.2.length) 0 with hp | hp
        · rw [exStep_no hp]; exact h1
        · obtain ⟨q, hq⟩ : ∃ q : Nat, pst f s.2.2 s.2.2.length = q := ⟨(pst f s.2.2 s.2.2.length).toNat, by omega⟩
          have hl := pst_lt f s.2.2 s.2.2.length
          have hql : q < s.2.2.length := by omega
          obtain ⟨y, hy, hd⟩ := pst_d hp
          rw [hq, Int.toNat_natCast, List.getElem?_eq_getElem hql] at hy
          have hy' : s.2.2[q] = y := Option.some.inj hy
          rw [exStep_yes hq hql]
          intro p hp2
          rcases List.mem_append.1 hp2 with hp2 | hp2
          · exact h1 p hp2
          · rw [List.mem_singleton] at hp2
            have hs : scoreB f.d s.2.2[q].d = 100 := by rw [hy', ← hd]; exact scoreB_self _
            exact ⟨f, h3 f (by simp), s.2.2[q], h2 _ (List.getElem_mem hql), by rw [hp2, hs]; rfl, by omega⟩
      · rcases Int.lt_or_le (pst f s.2.2 s.2.2.length) 0 with hp | hp
        · rw [exStep_no hp]; exact h2
        · obtain ⟨q, hq⟩ : ∃ q : Nat, pst f s.2.2 s.2.2.length = q := ⟨(pst f s.2.2 s.2.2.length).toNat, by omega⟩
          have hl := pst_lt f s.2.2 s.2.2.length
          rw [exStep_yes hq (by omega)]
          exact fun x hx => h2 x (List.mem_of_mem_eraseIdx hx)
  exact key gone ([], [], come) gone (fun p h => by cases h) (fun x h => h) (fun x h => h)
theorem candG_ok {left rest : List Fl} {x : Lk} (h : x ∈ candG left rest) : ∃ f ∈ left, ∃ g ∈ rest, x = ⟨⟨f.p, g.p, (scoreB f.d g.d : Nat)⟩, nearL f.p g.p⟩ ∧ 50 ≤ scoreB f.d g.d := by
  unfold candG at h
  split at h
  · unfold candL cand1 at h
    obtain ⟨f, hf, h⟩ := List.mem_flatMap.1 h
    obtain ⟨g, hg, h⟩ := List.mem_filterMap.1 h
    split at h
    · rename_i h2
      exact ⟨f, hf, g, hg, (Option.some.inj h).symm, h2⟩
    · cases h
  · cases h
theorem grd_props : ∀ (L : List Lk) (F T : List (List UInt8)), (∀ p ∈ grd F T L, ∃ x ∈ L, p = x.p) ∧ (∀ p ∈ grd F T L, ¬ p.o ∈ F ∧ ¬ p.n ∈ T) ∧ ((grd F T L).map (·.o)).Nodup ∧ ((grd F T L).map (·.n)).Nodup
  | [], F, T => by simp [grd]
  | x :: L, F, T => by
    rw [grd]
    split
    · rename_i h
      obtain ⟨h1, h2, h3, h4⟩ := grd_props L (x.p.o :: F) (x.p.n :: T)
      refine ⟨fun p hp => ?_, fun p hp => ?_, ?_, ?_⟩
      · rcases List.mem_cons.1 hp with rfl | hp
        · exact ⟨x, by simp, rfl⟩
        · obtain ⟨y, hy, e⟩ := h1 p hp; exact ⟨y, by simp [hy], e⟩
      · rcases List.mem_cons.1 hp with rfl | hp
        · exact h
        · have := h2 p hp
          exact ⟨fun e => this.1 (by simp [e]), fun e => this.2 (by simp [e])⟩
      · rw [List.map_cons, List.nodup_cons]
        refine ⟨fun hm => ?_, h3⟩
        obtain ⟨p, hp, e⟩ := List.mem_map.1 hm
        exact (h2 p hp).1 (by simp [e])
      · rw [List.map_cons, List.nodup_cons]
        refine ⟨fun hm => ?_, h4⟩
        obtain ⟨p, hp, e⟩ := List.mem_map.1 hm
        exact (h2 p hp).2 (by simp [e])
    · obtain ⟨h1, h2, h3, h4⟩ := grd_props L F T
      exact ⟨fun p hp => by obtain ⟨y, hy, e⟩ := h1 p hp; exact ⟨y, by simp [hy], e⟩, h2, h3, h4⟩
/-- what holds of the pairs, where no path is gone, or come, twice -/
theorem det_props {cs : List Ch} {out : List Pr} (h : DetP cs out) (hg : ((goneL cs).map (·.p)).Nodup) (hc : ((comeL cs).map (·.p)).Nodup) :
    (∀ p ∈ out, PrOk (goneL cs) (comeL cs) p) ∧ (out.map (·.o)).Nodup ∧ (out.map (·.n)).Nodup ∧ out.Pairwise (fun x y => Op.bytesLess x.o y.o = true) := by
  obtain ⟨L, h1, _, h2, h3⟩ := h
  obtain ⟨e1, e2⟩ := exL_perm (comeL cs) (goneL cs)
  obtain ⟨m1, m2⟩ := exL_mem (gone := goneL cs) (come := comeL cs)
  have ok := exL_ok (comeL cs) (goneL cs)
  obtain ⟨ps, left, rest, hE⟩ : ∃ a b c, exL (goneL cs) (comeL cs) = (a, b, c) := ⟨_, _, _, rfl⟩
  rw [hE] at h1 h2 e1 e2 m1 m2 ok
  simp only at h1 h2 e1 e2 m1 m2 ok
  obtain ⟨g1, _, g3, g4⟩ := grd_props L [] []
  have gl : ∀ p ∈ grd [] [] L, ∃ f ∈ left, ∃ g ∈ rest, p = ⟨f.p, g.p, (scoreB f.d g.d : Nat)⟩ ∧ 50 ≤ scoreB f.d g.d := by
    intro p hp
    obtain ⟨x, hx, e⟩ := g1 p hp
    obtain ⟨f, hf, g, hg, e3, e4⟩ := candG_ok (h1.subset hx)
    exact ⟨f, hf, g, hg, by rw [e, e3], e4⟩
  have n1 := e1.nodup_iff.2 hg
  have n2 := e2.nodup_iff.2 hc
  rw [List.nodup_append] at n1 n2
  have no : (out.map (·.o)).Nodup := by
    refine (h2.map (·.o)).nodup_iff.2 ?_
    rw [List.map_append, List.nodup_append]
    refine ⟨n1.1, g3, fun a ha b hb => ?_⟩
    obtain ⟨p, hp, rfl⟩ := List.mem_map.1 hb
    obtain ⟨f, hf, g, _, e, _⟩ := gl p hp
    exact n1.2.2 a ha _ (by rw [e]; exact List.mem_map.2 ⟨f, hf, rfl⟩)
  refine ⟨fun p hp => ?_, no, ?_, ?_⟩
  · rcases List.mem_append.1 (h2.subset hp) with hp | hp
    · exact ok p hp
    · obtain ⟨f, hf, g, hg, e, e4⟩ := gl p hp
      exact ⟨f, m1 f hf, g, m2 g hg, e, e4⟩
  · refine (h2.map (·.n)).nodup_iff.2 ?_
    rw [List.map_append, List.nodup_append]
    refine ⟨n2.1, g4, fun a ha b hb => ?_⟩
    obtain ⟨p, hp, rfl⟩ := List.mem_map.1 hb
    obtain ⟨f, _, g, hg, e, _⟩ := gl p hp
    exact n2.2.2 a ha _ (by rw [e]; exact List.mem_map.2 ⟨g, hg, rfl⟩)
  · rw [List.nodup_iff_pairwise_ne, List.pairwise_map] at no
    refine (h3.and no).imp (fun {x y} hxy => ?_)
    obtain ⟨hx, hne⟩ := hxy
    cases h9 : Op.bytesLess x.o y.o with
    | true => rfl
    | false =>
      have h10 : Op.bytesLess y.o x.o = false := by
        cases h10 : Op.bytesLess y.o x.o with
        | false => rfl
        | true => exact absurd (cmpS_lt.2 h10) hx
      exact absurd (bl_total _ _ h9 h10) hne
/-- by their paths, each once -/
def Asc (l : List Fl) : Prop := l.Pairwise (fun x y => Op.bytesLess x.p y.p = true)
theorem Asc.nodup {l : List Fl} (h : Asc l) : (l.map (·.p)).Nodup := by
  rw [List.nodup_iff_pairwise_ne, List.pairwise_map]
  exact h.imp (fun {x y} hxy e => by rw [e, bl_refl] at hxy; cases hxy)
theorem goneL_cons (c : Ch) (cs : List Ch) : goneL (c :: cs) = (if c.n.k = 0 ∧ cntF c.o.c = true then [c.o] else []) ++ goneL cs := by
  unfold goneL; rw [List.filterMap_cons]; by_cases h : c.n.k = 0 ∧ cntF c.o.c = true
  · simp [if_pos h]
  · simp [if_neg h]
theorem comeL_cons (c : Ch) (cs : List Ch) : comeL (c :: cs) = (if c.o.k = 0 ∧ cntF c.n.c = true then [c.n] else []) ++ comeL cs := by
  unfold comeL; rw [List.filterMap_cons]; by_cases h : c.o.k = 0 ∧ cntF c.n.c = true
  · simp [if_pos h]
  · simp [if_neg h]
theorem if_sub {α : Type} {c : Prop} [Decidable c] (x : α) {l m : List α} (h : l.Sublist m) : ((if c then [x] else []) ++ l).Sublist (x :: m) := by
  split
  · exact h.cons_cons x
  · exact h.cons x
theorem if_no {α : Type} {c : Prop} [Decidable c] (x : α) {l m : List α} (hc : ¬ c) (h : l.Sublist m) : ((if c then [x] else []) ++ l).Sublist m := by
  rw [if_neg hc]; exact h
/-- what is gone, and come, between two trees -/
theorem diff_subl : ∀ (a b : List Fl), (∀ x ∈ a, x.k ≠ 0) → (∀ x ∈ b, x.k ≠ 0) → (goneL (diffL a b)).Sublist a ∧ (comeL (diffL a b)).Sublist b
  | [], [], _, _ => by rw [diffL]; exact ⟨List.Sublist.refl _, List.Sublist.refl _⟩
  | x :: a, [], ha, hb => by
    have ih := diff_subl a [] (fun y hy => ha y (by simp [hy])) hb
    rw [diffL, goneL_cons, comeL_cons]
    exact ⟨if_sub _ ih.1, if_no _ (fun h => ha x (by simp) h.1) ih.2⟩
  | [], y :: b, ha, hb => by
    have ih := diff_subl [] b ha (fun y hy => hb y (by simp [hy]))
    rw [diffL, goneL_cons, comeL_cons]
    exact ⟨if_no _ (fun h => hb y (by simp) h.1) ih.1, if_sub _ ih.2⟩
  | x :: a, y :: b, ha, hb => by
    have i1 := diff_subl a (y :: b) (fun y hy => ha y (by simp [hy])) hb
    have i2 := diff_subl (x :: a) b ha (fun y hy => hb y (by simp [hy]))
    have i3 := diff_subl a b (fun y hy => ha y (by simp [hy])) (fun y hy => hb y (by simp [hy]))
    rw [diffL]
    split
    · rw [goneL_cons, comeL_cons]
      exact ⟨if_sub _ i1.1, if_no _ (fun h => ha x (by simp) h.1) i1.2⟩
    · split
      · rw [goneL_cons, comeL_cons]
        exact ⟨if_no _ (fun h => hb y (by simp) h.1) i2.1, if_sub _ i2.2⟩
      · split
        · exact ⟨i3.1.cons _, i3.2.cons _⟩
        · rw [goneL_cons, comeL_cons]
          exact ⟨if_no _ (fun h => hb y (by simp) h.1) (i3.1.cons _), if_no _ (fun h => ha x (by simp) h.1) (i3.2.cons _)⟩
termination_by a b => a.length + b.length
theorem Asc.tail {x : Fl} {l : List Fl} (h : Asc (x :: l)) : Asc l := (List.pairwise_cons.1 h).2
theorem Asc.head {x : Fl} {l : List Fl} (h : Asc (x :: l)) : ∀ y ∈ l, Op.bytesLess x.p y.p = true := (List.pairwise_cons.1 h).1
end Go.Proofs.Ytclhnkmkejijjaa.RenN
