/-
  Both tell the same pairs.
-/
import Derived.Test.YtclhnkmkejijjaaRenT
namespace Go.Proofs.Ytclhnkmkejijjaa.RenV
open Go.Proofs.Ytclhnkmkejijjaa.E Go.RowKit Go.Proofs.Ytclhnkmkejijjaa.RenA Go.Proofs.Ytclhnkmkejijjaa.RenB Go.Proofs.Ytclhnkmkejijjaa.RenC Go.Proofs.Ytclhnkmkejijjaa.RenD Go.Proofs.Ytclhnkmkejijjaa.RenE Go.Proofs.Ytclhnkmkejijjaa.RenF Go.Proofs.Ytclhnkmkejijjaa.RenG Go.Proofs.Ytclhnkmkejijjaa.RenH Go.Proofs.Ytclhnkmkejijjaa.RenI Go.Proofs.Ytclhnkmkejijjaa.RenL Go.Proofs.Ytclhnkmkejijjaa.RenM Go.Proofs.Ytclhnkmkejijjaa.RenN Go.Proofs.Ytclhnkmkejijjaa.RenO Go.Proofs.Ytclhnkmkejijjaa.RenS Go.Proofs.Ytclhnkmkejijjaa.RenT
set_option maxRecDepth 20000
set_option linter.unusedVariables false
set_option linter.unusedSimpArgs false
set_option linter.unusedSectionVars false

abbrev Ch.cc (x : Ch) : Fc × Fc := (x.o.c, x.n.c)
theorem nil_of_map {α β : Type} {f : α → β} {l : List α} (h : [] = l.map f) : l = [] := List.map_eq_nil_iff.1 h.symm
theorem sameF_c {x y x2 y2 : Fl} (h : x.c = x2.c) (h2 : y.c = y2.c) : sameF x y = sameF x2 y2 := by
  have a1 : x.p = x2.p := congrArg Prod.fst h
  have a2 : x.k = x2.k := congrArg (fun z : Fc => z.2.1) h
  have a3 : x.d = x2.d := congrArg (fun z : Fc => z.2.2) h
  have b1 : y.p = y2.p := congrArg Prod.fst h2
  have b2 : y.k = y2.k := congrArg (fun z : Fc => z.2.1) h2
  have b3 : y.d = y2.d := congrArg (fun z : Fc => z.2.2) h2
  unfold sameF
  rw [a1, a2, a3, b1, b2, b3]
theorem diffL_c : ∀ (a b a2 b2 : List Fl), a.map Fl.c = a2.map Fl.c → b.map Fl.c = b2.map Fl.c → (diffL a b).map Ch.cc = (diffL a2 b2).map Ch.cc
  | [], [], a2, b2, ha, hb => by rw [nil_of_map ha, nil_of_map hb]
  | x :: a, [], a2, b2, ha, hb => by
    rw [nil_of_map hb]
    cases a2 with
    | nil => simp at ha
    | cons x2 a2 =>
      simp only [List.map_cons, List.cons.injEq] at ha
      have ih := diffL_c a [] a2 [] ha.2 rfl
      rw [diffL, diffL, List.map_cons, List.map_cons, ih]
      exact congrArg (fun z => (z, zFl.c) :: _) ha.1
  | [], y :: b, a2, b2, ha, hb => by
    rw [nil_of_map ha]
    cases b2 with
    | nil => simp at hb
    | cons y2 b2 =>
      simp only [List.map_cons, List.cons.injEq] at hb
      have ih := diffL_c [] b [] b2 rfl hb.2
      rw [diffL, diffL, List.map_cons, List.map_cons, ih]
      exact congrArg (fun z => (zFl.c, z) :: _) hb.1
  | x :: a, y :: b, a2, b2, ha, hb => by
    cases a2 with
    | nil => simp at ha
    | cons x2 a2 =>
      cases b2 with
      | nil => simp at hb
      | cons y2 b2 =>
        have ha0 := ha
        have hb0 := hb
        simp only [List.map_cons, List.cons.injEq] at ha hb
        have i1 := diffL_c a (y :: b) a2 (y2 :: b2) ha.2 hb0
        have i2 := diffL_c (x :: a) b (x2 :: a2) b2 ha0 hb.2
        have i3 := diffL_c a b a2 b2 ha.2 hb.2
        have hxp : x.p = x2.p := congrArg Prod.fst ha.1
        have hyp : y.p = y2.p := congrArg Prod.fst hb.1
        have hsm := sameF_c ha.1 hb.1
        have e1 : diffL (x :: a) (y :: b) = if Op.bytesLess x.p y.p = true then ⟨x, zFl⟩ :: diffL a (y :: b) else if Op.bytesLess y.p x.p = true then ⟨zFl, y⟩ :: diffL (x :: a) b else if sameF x y = true then diffL a b else ⟨x, y⟩ :: diffL a b := by rw [diffL]
        have e2 : diffL (x2 :: a2) (y2 :: b2) = if Op.bytesLess x2.p y2.p = true then ⟨x2, zFl⟩ :: diffL a2 (y2 :: b2) else if Op.bytesLess y2.p x2.p = true then ⟨zFl, y2⟩ :: diffL (x2 :: a2) b2 else if sameF x2 y2 = true then diffL a2 b2 else ⟨x2, y2⟩ :: diffL a2 b2 := by rw [diffL]
        rw [hxp, hyp, hsm] at e1
        rw [e1, e2]
        by_cases h1 : Op.bytesLess x2.p y2.p = true
        · rw [if_pos h1, if_pos h1, List.map_cons, List.map_cons, i1]
          exact congrArg (fun z => (z, zFl.c) :: _) ha.1
        · rw [if_neg h1, if_neg h1]
          by_cases h2 : Op.bytesLess y2.p x2.p = true
          · rw [if_pos h2, if_pos h2, List.map_cons, List.map_cons, i2]
            exact congrArg (fun z => (zFl.c, z) :: _) hb.1
          · rw [if_neg h2, if_neg h2]
            by_cases h3 : sameF x2 y2 = true
            · rw [if_pos h3, if_pos h3, i3]
            · rw [if_neg h3, if_neg h3, List.map_cons, List.map_cons, i3]
              have : Ch.cc ⟨x, y⟩ = Ch.cc ⟨x2, y2⟩ := by show (x.c, y.c) = (x2.c, y2.c); rw [ha.1, hb.1]
              rw [this]
termination_by a b => a.length + b.length
theorem gone_c : ∀ {cs cs2 : List Ch}, cs.map Ch.cc = cs2.map Ch.cc → (goneL cs).map Fl.c = (goneL cs2).map Fl.c ∧ (comeL cs).map Fl.c = (comeL cs2).map Fl.c
  | [], cs2, h => by rw [nil_of_map h]; exact ⟨rfl, rfl⟩
  | c :: cs, [], h => by simp at h
  | c :: cs, c2 :: cs2, h => by
    simp only [List.map_cons, List.cons.injEq] at h
    obtain ⟨h1, h2⟩ := gone_c h.2
    have ho : c.o.c = c2.o.c := congrArg Prod.fst h.1
    have hn : c.n.c = c2.n.c := congrArg Prod.snd h.1
    have hok : c.o.k = c2.o.k := congrArg (fun z : Fc => z.2.1) ho
    have hnk : c.n.k = c2.n.k := congrArg (fun z : Fc => z.2.1) hn
    rw [goneL_cons, goneL_cons, comeL_cons, comeL_cons, List.map_append, List.map_append, List.map_append, List.map_append, h1, h2]
    refine ⟨?_, ?_⟩
    · congr 1
      by_cases hk : c2.n.k = 0 ∧ cntF c2.o.c = true
      · rw [if_pos hk, if_pos (by rw [hnk, ho]; exact hk)]; simpa using ho
      · rw [if_neg hk, if_neg (by rw [hnk, ho]; exact hk)]
    · congr 1
      by_cases hk : c2.o.k = 0 ∧ cntF c2.n.c = true
      · rw [if_pos hk, if_pos (by rw [hok, hn]; exact hk)]; simpa using hn
      · rw [if_neg hk, if_neg (by rw [hok, hn]; exact hk)]
theorem get_c {l l2 : List Fl} (h : l.map Fl.c = l2.map Fl.c) (j : Nat) : (l[j]?).map Fl.c = (l2[j]?).map Fl.c := by
  rw [← List.getElem?_map, ← List.getElem?_map, h]
theorem get_c' {l l2 : List Fl} (h : l.map Fl.c = l2.map Fl.c) {j : Nat} {x : Fl} (hx : l[j]? = some x) : ∃ x2, l2[j]? = some x2 ∧ x.c = x2.c := by
  have e := get_c h j
  rw [hx] at e
  cases h2 : l2[j]? with
  | none => rw [h2] at e; cases e
  | some x2 => rw [h2] at e; exact ⟨x2, rfl, Option.some.inj e⟩
theorem len_c {l l2 : List Fl} (h : l.map Fl.c = l2.map Fl.c) : l.length = l2.length := by have := congrArg List.length h; simpa using this
theorem pst_c {f f2 : Fl} (hf : f.c = f2.c) {l l2 : List Fl} (h : l.map Fl.c = l2.map Fl.c) : ∀ k, pst f l k = pst f2 l2 k
  | 0 => rfl
  | k + 1 => by
    have ih := pst_c hf h k
    have fp : f.p = f2.p := congrArg Prod.fst hf
    have fd : f.d = f2.d := congrArg (fun z : Fc => z.2.2) hf
    by_cases hk : k < l.length
    · have hk2 : k < l2.length := by rw [← len_c h]; exact hk
      obtain ⟨g2, e1, e2⟩ := get_c' h (List.getElem?_eq_getElem hk)
      rw [List.getElem?_eq_getElem hk2] at e1
      have e1 := Option.some.inj e1
      subst e1
      have gp : l[k].p = l2[k].p := congrArg Prod.fst e2
      have gd : l[k].d = l2[k].d := congrArg (fun z : Fc => z.2.2) e2
      have key : (f.d = l[k].d ∧ (pst f l k < 0 ∨ ∃ h : (pst f l k).toNat < l.length, nearL f.p l[k].p < nearL f.p (l[(pst f l k).toNat]).p)) ↔ (f2.d = l2[k].d ∧ (pst f2 l2 k < 0 ∨ ∃ h : (pst f2 l2 k).toNat < l2.length, nearL f2.p l2[k].p < nearL f2.p (l2[(pst f2 l2 k).toNat]).p)) := by
        rw [fd, gd, fp, gp, ih]
        refine and_congr Iff.rfl (or_congr Iff.rfl ?_)
        constructor
        · rintro ⟨h1, h2⟩
          obtain ⟨x2, q1, q2⟩ := get_c' h (List.getElem?_eq_getElem h1)
          obtain ⟨q3, q4⟩ := List.getElem?_eq_some_iff.1 q1
          refine ⟨q3, ?_⟩
          rw [q4, ← show _ = x2.p from congrArg Prod.fst q2]; exact h2
        · rintro ⟨h1, h2⟩
          obtain ⟨x2, q1, q2⟩ := get_c' h.symm (List.getElem?_eq_getElem h1)
          obtain ⟨q3, q4⟩ := List.getElem?_eq_some_iff.1 q1
          refine ⟨q3, ?_⟩
          rw [q4, ← show _ = x2.p from congrArg Prod.fst q2]; exact h2
      by_cases hc : f.d = l[k].d ∧ (pst f l k < 0 ∨ ∃ h : (pst f l k).toNat < l.length, nearL f.p l[k].p < nearL f.p (l[(pst f l k).toNat]).p)
      · rw [pst_hit hk hc.1 hc.2, pst_hit hk2 (key.1 hc).1 (key.1 hc).2]
      · rw [pst_miss hk hc, pst_miss hk2 (fun h9 => hc (key.2 h9)), ih]
    · have hk2 : ¬ k < l2.length := by rw [← len_c h]; exact hk
      have n1 : l[k]? = none := List.getElem?_eq_none (by omega)
      have n2 : l2[k]? = none := List.getElem?_eq_none (by omega)
      rw [pst, pst, n1, n2]; exact ih
def StC (s s2 : List Pr × List Fl × List Fl) : Prop := s.1 = s2.1 ∧ s.2.1.map Fl.c = s2.2.1.map Fl.c ∧ s.2.2.map Fl.c = s2.2.2.map Fl.c
theorem exStep_c {s s2 : List Pr × List Fl × List Fl} (hs : StC s s2) {f f2 : Fl} (hf : f.c = f2.c) : StC (exStep s f) (exStep s2 f2) := by
  obtain ⟨h1, h2, h3⟩ := hs
  have hp := pst_c hf h3 s.2.2.length
  have hl := len_c h3
  have fp : f.p = f2.p := congrArg Prod.fst hf
  rcases Int.lt_or_le (pst f s.2.2 s.2.2.length) 0 with hn | hn
  · rw [exStep_no hn, exStep_no (by rw [← hl, ← hp]; exact hn)]
    exact ⟨h1, by simp only [List.map_append, h2, List.map_cons, List.map_nil, hf], h3⟩
  · obtain ⟨q, hq⟩ : ∃ q : Nat, pst f s.2.2 s.2.2.length = q := ⟨(pst f s.2.2 s.2.2.length).toNat, by omega⟩
    have hlt := pst_lt f s.2.2 s.2.2.length
    have hq1 : q < s.2.2.length := by omega
    have hq2 : q < s2.2.2.length := by omega
    rw [exStep_yes hq hq1, exStep_yes (by rw [← hl, ← hp]; exact hq) hq2]
    obtain ⟨g2, e1, e2⟩ := get_c' h3 (List.getElem?_eq_getElem hq1)
    rw [List.getElem?_eq_getElem hq2] at e1
    have e1 := Option.some.inj e1
    have gp : s.2.2[q].p = g2.p := congrArg Prod.fst e2
    refine ⟨?_, h2, ?_⟩
    · simp only
      rw [h1, fp, gp, e1]
    · simp only
      rw [List.eraseIdx_eq_take_drop_succ, List.eraseIdx_eq_take_drop_succ, List.map_append, List.map_append, List.map_take, List.map_take, List.map_drop, List.map_drop, h3]
theorem exL_c {gone gone2 come come2 : List Fl} (hg : gone.map Fl.c = gone2.map Fl.c) (hc : come.map Fl.c = come2.map Fl.c) : StC (exL gone come) (exL gone2 come2) := by
  have key : ∀ (g g2 : List Fl) (s s2 : List Pr × List Fl × List Fl), g.map Fl.c = g2.map Fl.c → StC s s2 → StC (g.foldl exStep s) (g2.foldl exStep s2) := by
    intro g
    induction g with
    | nil => intro g2 s s2 h hs; rw [nil_of_map h]; exact hs
    | cons f g ih =>
      intro g2 s s2 h hs
      cases g2 with
      | nil => simp at h
      | cons f2 g2 =>
        simp only [List.map_cons, List.cons.injEq] at h
        exact ih g2 _ _ h.2 (exStep_c hs h.1)
  exact key gone gone2 _ _ hg ⟨rfl, rfl, hc⟩
theorem mkL_c {f f2 g g2 : Fl} (hf : f.c = f2.c) (hg : g.c = g2.c) : mkL f g = mkL f2 g2 ∧ scoreB f.d g.d = scoreB f2.d g2.d := by
  have fp : f.p = f2.p := congrArg Prod.fst hf
  have fd : f.d = f2.d := congrArg (fun z : Fc => z.2.2) hf
  have gp : g.p = g2.p := congrArg Prod.fst hg
  have gd : g.d = g2.d := congrArg (fun z : Fc => z.2.2) hg
  unfold mkL
  rw [fp, fd, gp, gd]; exact ⟨rfl, rfl⟩
theorem cand1_c {f f2 : Fl} (hf : f.c = f2.c) : ∀ {r r2 : List Fl}, r.map Fl.c = r2.map Fl.c → cand1 f r = cand1 f2 r2
  | [], r2, h => by rw [nil_of_map h]; rfl
  | g :: r, [], h => by simp at h
  | g :: r, g2 :: r2, h => by
    simp only [List.map_cons, List.cons.injEq] at h
    have e := mkL_c hf h.1
    rw [cand1_cons, cand1_cons, cand1_c hf h.2, e.1, e.2]
theorem candL_c {r r2 : List Fl} (hr : r.map Fl.c = r2.map Fl.c) : ∀ {l l2 : List Fl}, l.map Fl.c = l2.map Fl.c → candL l r = candL l2 r2
  | [], l2, h => by rw [nil_of_map h]; rfl
  | f :: l, [], h => by simp at h
  | f :: l, f2 :: l2, h => by
    simp only [List.map_cons, List.cons.injEq] at h
    rw [candL_cons, candL_cons, candL_c hr h.2, cand1_c h.1 hr]
theorem candG_c {l l2 r r2 : List Fl} (hl : l.map Fl.c = l2.map Fl.c) (hr : r.map Fl.c = r2.map Fl.c) : candG l r = candG l2 r2 := by
  unfold candG
  rw [len_c hl, len_c hr, candL_c hr hl]
theorem sorted_eq2 {α : Type} {R : α → α → Prop} (anti : ∀ x y, R x y → R y x → x = y) : ∀ {l m : List α}, l.Perm m → l.Pairwise R → m.Pairwise R → l = m
  | [], m, h, _, _ => (List.nil_perm.1 h).symm
  | x :: l, [], h, _, _ => by have := h.length_eq; simp at this
  | x :: l, y :: m, h, h1, h2 => by
    obtain ⟨a1, a2⟩ := List.pairwise_cons.1 h1
    obtain ⟨b1, b2⟩ := List.pairwise_cons.1 h2
    have hxy : x = y := by
      rcases List.mem_cons.1 (h.subset (List.mem_cons_self : x ∈ x :: l)) with e | hx
      · exact e
      · rcases List.mem_cons.1 (h.symm.subset (List.mem_cons_self : y ∈ y :: m)) with e | hy
        · exact e.symm
        · exact anti x y (a1 y hy) (b1 x hx)
    subst hxy
    rw [sorted_eq2 anti (List.Perm.cons_inv h) a2 b2]
theorem paths_c {l l2 : List Fl} (h : l.map Fl.c = l2.map Fl.c) : l.map (·.p) = l2.map (·.p) := by
  have := congrArg (List.map Prod.fst) h
  simp only [List.map_map] at this
  exact this
/-- there is one answer -/
theorem det_uniq {cs cs2 : List Ch} {out out2 : List Pr} (hcs : cs.map Ch.cc = cs2.map Ch.cc) (h : DetP cs out) (h2 : DetP cs2 out2) (hg : ((goneL cs).map (·.p)).Nodup) (hc : ((comeL cs).map (·.p)).Nodup) : out = out2 := by
  obtain ⟨g1, g2⟩ := gone_c hcs
  have s1 := (det_props h hg hc).2.2.2
  have s2 := (det_props h2 (by rw [← paths_c g1]; exact hg) (by rw [← paths_c g2]; exact hc)).2.2.2
  obtain ⟨e1, e2, e3⟩ := exL_c g1 g2
  obtain ⟨L, p1, p2, p3, _⟩ := h
  obtain ⟨L2, q1, q2, q3, _⟩ := h2
  rw [candG_c e2 e3] at p1
  have hL : L = L2 := sorted_eq2 (R := fun x y => ¬ lkCmp y x < 0) (fun x y h1 h2 => by
    rw [lkCmp_eq] at h1 h2
    have h3 := lkC_co.sw x y
    have h4 := lkC_co.sw y x
    exact lkC_z.1 (by omega)) (p1.trans q1.symm) p2 q2
  rw [hL, e1] at p3
  exact sorted_eq2 (R := fun x y : Pr => Op.bytesLess x.o y.o = true) (fun x y h1 h2 => by
    have := bl_trans h1 h2
    rw [bl_refl] at this; cases this) (p3.trans q3.symm) s1 s2
theorem Asc.sub {l m : List Fl} (h : Asc m) (hs : l.Sublist m) : Asc l := List.Pairwise.sublist hs h
/-- the changes of two good rows, and of their twins, tell the same -/
theorem twin_det {ga gb ta tb : List Fl} {out out2 : List Pr} (ha : GoodL ga) (hb : GoodL gb) (h1 : ta.map Fl.c = ga.map Fl.c) (h2 : tb.map Fl.c = gb.map Fl.c) (h : DetP (diffL ta tb) out) (h3 : DetP (diffL ga gb) out2) : out = out2 := by
  have ka : ∀ x ∈ ga, x.k ≠ 0 := fun x hx => by have := (ha.2.2 x hx).1; omega
  have kb : ∀ x ∈ gb, x.k ≠ 0 := fun x hx => by have := (hb.2.2 x hx).1; omega
  obtain ⟨s1, s2⟩ := diff_subl ga gb ka kb
  exact (det_uniq (diffL_c ga gb ta tb h1.symm h2.symm) h3 h ((s1.map (·.p)).nodup ha.1.nodup) ((s2.map (·.p)).nodup hb.1.nodup)).symm
theorem good_asc {ga gb : List Fl} (ha : GoodL ga) (hb : GoodL gb) : Asc (goneL (diffL ga gb)) ∧ ((comeL (diffL ga gb)).map (·.p)).Nodup := by
  have ka : ∀ x ∈ ga, x.k ≠ 0 := fun x hx => by have := (ha.2.2 x hx).1; omega
  have kb : ∀ x ∈ gb, x.k ≠ 0 := fun x hx => by have := (hb.2.2 x hx).1; omega
  obtain ⟨s1, s2⟩ := diff_subl ga gb ka kb
  exact ⟨Asc.sub ha.1 s1, (s2.map (·.p)).nodup hb.1.nodup⟩
theorem good_c {ga ta : List Fl} (ha : GoodL ga) (h : ta.map Fl.c = ga.map Fl.c) : ∀ x ∈ ta, x.p.length ≤ 1099511627776 ∧ x.d.length ≤ 2000 := by
  intro x hx
  have : x.c ∈ ta.map Fl.c := List.mem_map.2 ⟨x, hx, rfl⟩
  rw [h] at this
  obtain ⟨y, hy, e⟩ := List.mem_map.1 this
  have h9 := ha.2.2 y hy
  rw [show x.p = y.p from (congrArg Prod.fst e).symm, show x.d = y.d from (congrArg (fun z : Fc => z.2.2) e).symm]
  omega

end Go.Proofs.Ytclhnkmkejijjaa.RenV
