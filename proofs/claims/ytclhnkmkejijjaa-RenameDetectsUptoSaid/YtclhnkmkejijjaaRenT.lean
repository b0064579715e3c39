/-
  The document's likely pairs: the plain law.
-/
import Derived.Test.YtclhnkmkejijjaaRenS
namespace Go.Proofs.Ytclhnkmkejijjaa.RenT
open Go.Proofs.Ytclhnkmkejijjaa.E Go.RowKit Go.Proofs.Ytclhnkmkejijjaa.RenA Go.Proofs.Ytclhnkmkejijjaa.RenB Go.Proofs.Ytclhnkmkejijjaa.RenC Go.Proofs.Ytclhnkmkejijjaa.RenD Go.Proofs.Ytclhnkmkejijjaa.RenE Go.Proofs.Ytclhnkmkejijjaa.RenF Go.Proofs.Ytclhnkmkejijjaa.RenG Go.Proofs.Ytclhnkmkejijjaa.RenH Go.Proofs.Ytclhnkmkejijjaa.RenI Go.Proofs.Ytclhnkmkejijjaa.RenL Go.Proofs.Ytclhnkmkejijjaa.RenM Go.Proofs.Ytclhnkmkejijjaa.RenN Go.Proofs.Ytclhnkmkejijjaa.RenO Go.Proofs.Ytclhnkmkejijjaa.RenS
set_option maxRecDepth 20000
set_option linter.unusedVariables false
set_option linter.unusedSimpArgs false
set_option linter.unusedSectionVars false

def nP (n : List UInt8) (g : Fl) : Bool := decide (g.p ≠ n)
def nB (o n : List UInt8) (y : Lk) : Bool := decide (y.p.o ≠ o) && decide (y.p.n ≠ n)
abbrev mkL (f g : Fl) : Lk := ⟨⟨f.p, g.p, (scoreB f.d g.d : Nat)⟩, nearL f.p g.p⟩
theorem cand1_cons (f g : Fl) (rest : List Fl) : cand1 f (g :: rest) = (if 50 ≤ scoreB f.d g.d then [mkL f g] else []) ++ cand1 f rest := by
  unfold cand1
  rw [List.filterMap_cons]
  by_cases h : 50 ≤ scoreB f.d g.d <;> simp [h]
theorem candL_cons (f : Fl) (left rest : List Fl) : candL (f :: left) rest = cand1 f rest ++ candL left rest := by simp [candL]
theorem nB_mk (o n : List UInt8) (f g : Fl) : nB o n (mkL f g) = (nP o f && nP n g) := rfl
theorem cand1_filter (o n : List UInt8) (f : Fl) (hf : nP o f = true) : ∀ rest : List Fl, cand1 f (rest.filter (nP n)) = (cand1 f rest).filter (nB o n)
  | [] => rfl
  | g :: rest => by
    rw [cand1_cons, List.filter_append, ← cand1_filter o n f hf rest, List.filter_cons]
    have e := nB_mk o n f g
    rw [hf, Bool.true_and] at e
    cases h : nP n g with
    | false =>
      rw [h] at e
      rw [if_neg (by simp)]
      split <;> simp [e]
    | true =>
      rw [h] at e
      rw [if_pos rfl, cand1_cons]
      split <;> simp [e]
theorem cand1_mem {f : Fl} {rest : List Fl} {y : Lk} : y ∈ cand1 f rest ↔ ∃ g ∈ rest, 50 ≤ scoreB f.d g.d ∧ y = mkL f g := by
  unfold cand1
  rw [List.mem_filterMap]
  constructor
  · rintro ⟨g, hg, h⟩
    split at h
    · rename_i h2; exact ⟨g, hg, h2, (Option.some.inj h).symm⟩
    · cases h
  · rintro ⟨g, hg, h2, rfl⟩
    exact ⟨g, hg, by rw [if_pos h2]⟩
theorem candL_filter (o n : List UInt8) (rest : List Fl) : ∀ left : List Fl, candL (left.filter (nP o)) (rest.filter (nP n)) = (candL left rest).filter (nB o n)
  | [] => rfl
  | f :: left => by
    rw [candL_cons, List.filter_append, ← candL_filter o n rest left, List.filter_cons]
    cases h : nP o f with
    | false =>
      rw [if_neg (by simp)]
      have : (cand1 f rest).filter (nB o n) = [] := List.filter_eq_nil_iff.2 (fun y hy => by
        obtain ⟨g, _, _, rfl⟩ := cand1_mem.1 hy
        rw [nB_mk, h]; simp)
      rw [this, List.nil_append]
    | true => rw [if_pos rfl, candL_cons, cand1_filter o n f h]
theorem eraseIdx_filter : ∀ {xs : List Fl} {k : Nat} (_ : (xs.map (·.p)).Nodup) (hk : k < xs.length), xs.eraseIdx k = xs.filter (nP xs[k].p)
  | [], k, _, hk => by simp at hk
  | x :: xs, 0, hn, _ => by
    rw [List.map_cons, List.nodup_cons] at hn
    simp only [List.eraseIdx_cons_zero, List.getElem_cons_zero]
    rw [List.filter_cons, if_neg (by simp [nP]), List.filter_eq_self.2]
    intro y hy
    unfold nP
    exact decide_eq_true (fun e => hn.1 (by rw [← e]; exact List.mem_map.2 ⟨y, hy, rfl⟩))
  | x :: xs, k + 1, hn, hk => by
    rw [List.map_cons, List.nodup_cons] at hn
    have hk2 : k < xs.length := by simpa using hk
    simp only [List.eraseIdx_cons_succ, List.getElem_cons_succ]
    rw [List.filter_cons, if_pos, eraseIdx_filter hn.2 hk2]
    unfold nP
    exact decide_eq_true (fun e => hn.1 (by rw [e]; exact List.mem_map.2 ⟨_, List.getElem_mem hk2, rfl⟩))
theorem grd_filter (o n : List UInt8) : ∀ (L : List Lk) (F T F' T' : List (List UInt8)), (∀ s, s ∈ F ↔ s = o ∨ s ∈ F') → (∀ s, s ∈ T ↔ s = n ∨ s ∈ T') → grd F T L = grd F' T' (L.filter (nB o n))
  | [], _, _, _, _, _, _ => rfl
  | x :: L, F, T, F', T', hF, hT => by
    rw [grd, List.filter_cons]
    by_cases h1 : x.p.o = o
    · rw [if_neg (fun h => h.1 ((hF _).2 (.inl h1))), if_neg (by simp [nB, h1])]
      exact grd_filter o n L F T F' T' hF hT
    · by_cases h2 : x.p.n = n
      · rw [if_neg (fun h => h.2 ((hT _).2 (.inl h2))), if_neg (by simp [nB, h2])]
        exact grd_filter o n L F T F' T' hF hT
      · rw [if_pos (show nB o n x = true by simp [nB, h1, h2]), grd]
        by_cases h3 : ¬ x.p.o ∈ F' ∧ ¬ x.p.n ∈ T'
        · rw [if_pos h3, if_pos ⟨fun h => ((hF _).1 h).elim h1 h3.1, fun h => ((hT _).1 h).elim h2 h3.2⟩]
          congr 1
          refine grd_filter o n L _ _ _ _ (fun s => ?_) (fun s => ?_)
          · simp only [List.mem_cons, hF s]; constructor <;> (rintro (h | h | h) <;> simp [h])
          · simp only [List.mem_cons, hT s]; constructor <;> (rintro (h | h | h) <;> simp [h])
        · rw [if_neg h3, if_neg (fun h => h3 ⟨fun h9 => h.1 ((hF _).2 (.inr h9)), fun h9 => h.2 ((hT _).2 (.inr h9))⟩)]
          exact grd_filter o n L F T F' T' hF hT
theorem unus_iff {α : Type} {l : List α} {u : List Bool} (hu : u.length = l.length) {x : α} : x ∈ unus l u ↔ ∃ k : Nat, l[k]? = some x ∧ u[k]? = some false := by
  constructor
  · intro h
    obtain ⟨k, hk, h1, h2⟩ := unus_mem hu h
    exact ⟨k, by rw [List.getElem?_eq_getElem hk, h2], by rw [List.getElem?_eq_getElem (by omega), h1]⟩
  · rintro ⟨k, h1, h2⟩
    obtain ⟨hk, h1⟩ := List.getElem?_eq_some_iff.1 h1
    obtain ⟨_, h2⟩ := List.getElem?_eq_some_iff.1 h2
    obtain ⟨h3, h4⟩ := unus_get hk hu h2
    rw [← h1, ← h4]
    exact List.getElem_mem h3
theorem unus_sub {α : Type} : ∀ (l : List α) (u : List Bool), (unus l u).Sublist l
  | [], _ => by simp [unus]
  | _ :: _, [] => by simp [unus]
  | x :: l, b :: u => by
    have ih := unus_sub l u
    cases b with
    | true => have e : unus (x :: l) (true :: u) = unus l u := by simp [unus]
              rw [e]; exact ih.cons x
    | false => have e : unus (x :: l) (false :: u) = x :: unus l u := by simp [unus]
               rw [e]; exact ih.cons_cons x
theorem nz_get {t : List Int} {i : Nat} : (nz t)[i]? = some false ↔ t[i]? = some 0 := by
  unfold nz
  rw [List.getElem?_map]
  cases t[i]? with
  | none => simp
  | some v => simp
/-- one that may be, at its two places -/
def Cd (gone come : List Fl) (to : List Int) (u : List Bool) (i k : Nat) (y : Lk) : Prop := ∃ f g, gone[i]? = some f ∧ come[k]? = some g ∧ to[i]? = some 0 ∧ u[k]? = some false ∧ 50 ≤ scoreB f.d g.d ∧ y = mkL f g
theorem cand_mem {gone come : List Fl} {to : List Int} {u : List Bool} (ht : to.length = gone.length) (hu : u.length = come.length) {y : Lk} : y ∈ candL (unus gone (nz to)) (unus come u) ↔ ∃ i k, Cd gone come to u i k y := by
  unfold candL
  rw [List.mem_flatMap]
  constructor
  · rintro ⟨f, hf, h⟩
    obtain ⟨g, hg, h1, rfl⟩ := cand1_mem.1 h
    obtain ⟨i, i1, i2⟩ := (unus_iff (by rw [nz_len, ht])).1 hf
    obtain ⟨k, k1, k2⟩ := (unus_iff hu).1 hg
    exact ⟨i, k, f, g, i1, k1, nz_get.1 i2, k2, h1, rfl⟩
  · rintro ⟨i, k, f, g, i1, k1, i2, k2, h1, rfl⟩
    exact ⟨f, (unus_iff (by rw [nz_len, ht])).2 ⟨i, i1, nz_get.2 i2⟩, cand1_mem.2 ⟨g, (unus_iff hu).2 ⟨k, k1, k2⟩, h1, rfl⟩⟩
theorem Cd.fn {gone come : List Fl} {to : List Int} {u : List Bool} {i k : Nat} {y z : Lk} (h : Cd gone come to u i k y) (h2 : Cd gone come to u i k z) : y = z := by
  obtain ⟨f, g, a1, a2, _, _, _, rfl⟩ := h
  obtain ⟨f2, g2, b1, b2, _, _, _, rfl⟩ := h2
  rw [a1] at b1; rw [a2] at b2
  rw [Option.some.inj b1, Option.some.inj b2]
/-- behind some likely pairs -/
structure RelC (sm : Bool) (ps : List Pr) (L : List Lk) (gone come : List Fl) (to : List Int) (u : List Bool) (sc : List Int) : Prop where
  lt : to.length = gone.length
  lu : u.length = come.length
  ls : sc.length = gone.length
  r : ∀ j (h : j < to.length), 0 ≤ to[j] ∧ to[j] ≤ come.length
  ex : ∃ picks Lt, (outR come gone to sc).Perm (ps ++ picks) ∧ Lt.Perm (if sm = true then candL (unus gone (nz to)) (unus come u) else []) ∧ Lt.Pairwise (fun x y => ¬ lkCmp y x < 0) ∧ grd [] [] L = picks ++ grd [] [] Lt
theorem relB_all {gone come : List Fl} {to : List Int} {u : List Bool} {sc : List Int} (h : RelB gone come gone.length to u sc) : exL gone come = (outR come gone to sc, unus gone (nz to), unus come u) := by
  have e := h.ex
  rw [List.take_length, List.take_of_length_le (by rw [h.lt]; exact Nat.le_refl _), List.take_of_length_le (by rw [h.ls]; exact Nat.le_refl _), List.take_of_length_le (by rw [nz_len, h.lt]; exact Nat.le_refl _)] at e
  exact e
theorem RelC.init {gone come : List Fl} {to : List Int} {u : List Bool} {sc : List Int} {L : List Lk} (h : RelB gone come gone.length to u sc) (hL : L.Perm (candG (exL gone come).2.1 (exL gone come).2.2)) (hS : L.Pairwise (fun x y => ¬ lkCmp y x < 0)) : RelC (decide ((unus gone (nz to)).length ≤ 100 ∧ (unus come u).length ≤ 100)) (exL gone come).1 L gone come to u sc := by
  have e := relB_all h
  refine ⟨h.lt, h.lu, h.ls, h.r, [], L, ?_, ?_, hS, rfl⟩
  · rw [e]; simp
  · rw [e] at hL
    simp only [decide_eq_true_eq]
    exact hL
theorem RelC.done {sm : Bool} {ps : List Pr} {L : List Lk} {gone come : List Fl} {to : List Int} {u : List Bool} {sc : List Int} (h : RelC sm ps L gone come to u sc) (hn : sm = true → ∀ i k y, ¬ Cd gone come to u i k y) : (outR come gone to sc).Perm (ps ++ grd [] [] L) := by
  obtain ⟨picks, Lt, p1, p2, _, p4⟩ := h.ex
  have : Lt = [] := by
    refine List.eq_nil_iff_forall_not_mem.2 (fun y hy => ?_)
    have hy2 := p2.subset hy
    split at hy2
    · rename_i hs
      obtain ⟨i, k, hc⟩ := (cand_mem h.lt h.lu).1 hy2
      exact hn hs i k y hc
    · cases hy2
  subst this
  rw [p4]
  simpa [grd] using p1
theorem RelC.step {ps : List Pr} {L : List Lk} {gone come : List Fl} {to : List Int} {u : List Bool} {sc : List Int} (h : RelC true ps L gone come to u sc) (hg : (gone.map (·.p)).Nodup) (hc : (come.map (·.p)).Nodup) {a b : Nat} {x : Lk} (hx : Cd gone come to u a b x) (hmin : ∀ i k z, Cd gone come to u i k z → ¬ lkCmp z x < 0) :
    RelC true ps L gone come (to.set a ((b : Int) + 1)) (u.set b true) (sc.set a x.p.s) ∧ (unus gone (nz (to.set a ((b : Int) + 1)))).length < (unus gone (nz to)).length := by
  have hxm := (cand_mem h.lt h.lu).2 ⟨a, b, hx⟩
  obtain ⟨f, g, e1, e2, e3, e4, e5, rfl⟩ := hx
  obtain ⟨ha, e1⟩ := List.getElem?_eq_some_iff.1 e1
  obtain ⟨hb, e2⟩ := List.getElem?_eq_some_iff.1 e2
  obtain ⟨ha2, e3⟩ := List.getElem?_eq_some_iff.1 e3
  obtain ⟨hb2, e4⟩ := List.getElem?_eq_some_iff.1 e4
  subst e1
  subst e2
  obtain ⟨picks, Lt, p1, p2, p3, p4⟩ := h.ex
  rw [if_pos rfl] at p2
  have hnl : (nz to).length = gone.length := by rw [nz_len, h.lt]
  have hz : (nz to)[a]'(by omega) = false := by simp [nz, e3]
  obtain ⟨g1, g2⟩ := unus_get ha hnl hz
  obtain ⟨g3, g4⟩ := unus_get hb h.lu e4
  have s1 : nz (to.set a ((b : Int) + 1)) = (nz to).set a true := by
    unfold nz
    rw [List.map_set]
    congr 1
  have s2 := unus_set ha hnl hz
  have s3 := unus_set hb h.lu e4
  have n1 : ((unus gone (nz to)).map (·.p)).Nodup := ((unus_sub _ _).map _).nodup hg
  have n2 : ((unus come u).map (·.p)).Nodup := ((unus_sub _ _).map _).nodup hc
  have hlen : (unus gone (nz (to.set a ((b : Int) + 1)))).length < (unus gone (nz to)).length := by
    rw [s1, s2, List.length_eraseIdx_of_lt g1]; omega
  rw [eraseIdx_filter n1 g1, g2] at s2
  rw [eraseIdx_filter n2 g3, g4] at s3
  have hxL := p2.symm.subset hxm
  refine ⟨?_, hlen⟩
  cases Lt with
  | nil => cases hxL
  | cons y Lt =>
    have hyx : y = mkL gone[a] come[b] := by
      rcases List.mem_cons.1 hxL with e | hx2
      · exact e.symm
      · have h1 := (List.pairwise_cons.1 p3).1 _ hx2
        obtain ⟨i, k, hc2⟩ := (cand_mem h.lt h.lu).1 (p2.subset (List.mem_cons_self : y ∈ y :: Lt))
        have h2 := hmin i k y hc2
        rw [lkCmp_eq] at h1 h2
        have h3 := lkC_co.sw (mkL gone[a] come[b]) y
        have h4 := lkC_co.sw y (mkL gone[a] come[b])
        exact lkC_z.1 (by omega)
    subst hyx
    refine ⟨by simpa using h.lt, by simpa using h.lu, by simpa using h.ls, fun j hj => ?_, picks ++ [(mkL gone[a] come[b]).p], Lt.filter (nB gone[a].p come[b].p), ?_, ?_, (List.pairwise_cons.1 p3).2.filter _, ?_⟩
    · rw [List.getElem_set]
      split
      · omega
      · exact h.r j (by simpa using hj)
    · rw [← List.append_assoc]
      exact (outR_set ha h.lt h.ls e3 hb).trans (p1.append_right _)
    · rw [if_pos rfl, s1, s2, s3, candL_filter]
      have h9 := p2.filter (nB gone[a].p come[b].p)
      rw [List.filter_cons, if_neg (by simp [nB])] at h9
      exact h9
    · rw [p4, grd, if_pos ⟨by simp, by simp⟩, List.append_assoc]
      rw [grd_filter gone[a].p come[b].p Lt [gone[a].p] [come[b].p] [] [] (fun s => by simp) (fun s => by simp)]
      rfl
theorem ahead_lk {y z : Lk} (hy : y.r = nearL y.p.o y.p.n) (hz : z.r = nearL z.p.o z.p.n) : RenB.ahead z.p y.p = true ↔ lkCmp z y < 0 := by
  rw [lkCmp_eq]
  have eA : RenB.ahead z.p y.p = if z.p.s ≠ y.p.s then decide (y.p.s < z.p.s) else if (decide (lastL z.p.o = lastL z.p.n)) ≠ (decide (lastL y.p.o = lastL y.p.n)) then decide (lastL z.p.o = lastL z.p.n) else if z.p.o ≠ y.p.o then Op.bytesLess z.p.o y.p.o else Op.bytesLess z.p.n y.p.n := rfl
  have eC : lkC z y = if cmpI y.p.s z.p.s ≠ 0 then cmpI y.p.s z.p.s else if cmpI z.r y.r ≠ 0 then cmpI z.r y.r else if cmpS z.p.o y.p.o ≠ 0 then cmpS z.p.o y.p.o else cmpS z.p.n y.p.n := rfl
  by_cases h1 : z.p.s = y.p.s
  · have c1 : cmpI y.p.s z.p.s = 0 := cmpI_z.2 h1.symm
    rw [if_neg (fun h => h h1)] at eA
    rw [if_neg (fun h => h c1)] at eC
    by_cases h2 : decide (lastL z.p.o = lastL z.p.n) = decide (lastL y.p.o = lastL y.p.n)
    · have h2' := decide_eq_decide.1 h2
      have c2 : cmpI z.r y.r = 0 := cmpI_z.2 (by
        rw [hz, hy]
        unfold nearL
        by_cases h9 : lastL z.p.o = lastL z.p.n
        · rw [if_pos h9, if_pos (h2'.1 h9)]
        · rw [if_neg h9, if_neg (fun h => h9 (h2'.2 h))])
      rw [if_neg (fun h => h h2)] at eA
      rw [if_neg (fun h => h c2)] at eC
      by_cases h3 : z.p.o = y.p.o
      · rw [if_neg (fun h => h h3)] at eA
        rw [if_neg (fun h => h (cmpS_z.2 h3))] at eC
        rw [eA, eC, cmpS_lt]
      · rw [if_pos h3] at eA
        rw [if_pos (fun h => h3 (cmpS_z.1 h))] at eC
        rw [eA, eC, cmpS_lt]
    · have h2' : ¬ (lastL z.p.o = lastL z.p.n ↔ lastL y.p.o = lastL y.p.n) := fun h => h2 (decide_eq_decide.2 h)
      rw [if_pos h2] at eA
      rw [hz, hy] at eC
      unfold nearL at eC
      rw [eA, eC]
      by_cases h9 : lastL z.p.o = lastL z.p.n <;> by_cases h8 : lastL y.p.o = lastL y.p.n
      · exact absurd ⟨fun _ => h8, fun _ => h9⟩ h2'
      · simp [h9, h8, cmpI]
      · simp [h9, h8, cmpI]
      · exact absurd ⟨fun h => absurd h h9, fun h => absurd h h8⟩ h2'
  · have c1 : cmpI y.p.s z.p.s ≠ 0 := fun h => h1 (cmpI_z.1 h).symm
    rw [if_pos h1] at eA
    rw [if_pos c1] at eC
    rw [eA, eC, decide_eq_true_eq]
    unfold cmpI
    (repeat' split) <;> omega
def Bf (i k i2 k2 : Nat) : Prop := i2 < i ∨ i2 = i ∧ k2 < k
theorem Bf.succ {i k i2 k2 : Nat} (h : Bf i (k + 1) i2 k2) : Bf i k i2 k2 ∨ i2 = i ∧ k2 = k := by unfold Bf at *; omega
/-- the best one so far -/
def SB (gone come : List Fl) (to : List Int) (u : List Bool) (i k : Nat) (bi bk : Int) (x : Pr) : Prop :=
  (bi = -1 ∧ ∀ i2 k2 y, Bf i k i2 k2 → ¬ Cd gone come to u i2 k2 y) ∨ ∃ a b y, bi = (a : Nat) ∧ bk = (b : Nat) ∧ a < gone.length ∧ b < come.length ∧ Cd gone come to u a b y ∧ x = y.p ∧ ∀ i2 k2 z, Bf i k i2 k2 → Cd gone come to u i2 k2 z → ¬ lkCmp z y < 0
section
variable {gone come : List Fl} {to : List Int} {u : List Bool} {i k : Nat} {bi bk : Int} {x : Pr}
theorem SB.init : SB gone come to u 0 0 (-1) bk x := .inl ⟨rfl, fun i2 k2 y h => by unfold Bf at h; omega⟩
theorem SB.row (h : SB gone come to u i k bi bk x) (hk : come.length ≤ k) : SB gone come to u (i + 1) 0 bi bk x := by
  have key : ∀ i2 k2 y, Bf (i + 1) 0 i2 k2 → Cd gone come to u i2 k2 y → Bf i k i2 k2 := by
    rintro i2 k2 y hb ⟨f, g, _, e, _⟩
    have := (List.getElem?_eq_some_iff.1 e).1
    unfold Bf at *; omega
  rcases h with ⟨h, h2⟩ | ⟨a, b, y, h1, h2, h3, h4, h5, h6, h7⟩
  · exact .inl ⟨h, fun i2 k2 y hb hc => h2 i2 k2 y (key i2 k2 y hb hc) hc⟩
  · exact .inr ⟨a, b, y, h1, h2, h3, h4, h5, h6, fun i2 k2 z hb hc => h7 i2 k2 z (key i2 k2 z hb hc) hc⟩
theorem SB.skip (h : SB gone come to u i k bi bk x) (hno : ∀ y, ¬ Cd gone come to u i k y) : SB gone come to u i (k + 1) bi bk x := by
  have key : ∀ i2 k2 y, Bf i (k + 1) i2 k2 → Cd gone come to u i2 k2 y → Bf i k i2 k2 := by
    rintro i2 k2 y hb hc
    rcases hb.succ with hb | ⟨rfl, rfl⟩
    · exact hb
    · exact absurd hc (hno y)
  rcases h with ⟨h, h2⟩ | ⟨a, b, y, h1, h2, h3, h4, h5, h6, h7⟩
  · exact .inl ⟨h, fun i2 k2 y hb hc => h2 i2 k2 y (key i2 k2 y hb hc) hc⟩
  · exact .inr ⟨a, b, y, h1, h2, h3, h4, h5, h6, fun i2 k2 z hb hc => h7 i2 k2 z (key i2 k2 z hb hc) hc⟩
theorem Cd.near {y : Lk} (h : Cd gone come to u i k y) : y.r = nearL y.p.o y.p.n := by
  obtain ⟨_, _, _, _, _, _, _, rfl⟩ := h; rfl
theorem SB.keep (h : SB gone come to u i k bi bk x) {z : Lk} (hz : Cd gone come to u i k z) (h0 : ¬ bi < 0) (ha : RenB.ahead z.p x = false) : SB gone come to u i (k + 1) bi bk x := by
  rcases h with ⟨h, _⟩ | ⟨a, b, y, h1, h2, h3, h4, h5, rfl, h7⟩
  · omega
  · refine .inr ⟨a, b, y, h1, h2, h3, h4, h5, rfl, fun i2 k2 w hb hc => ?_⟩
    rcases hb.succ with hb | ⟨rfl, rfl⟩
    · exact h7 i2 k2 w hb hc
    · rw [hc.fn hz]
      intro h9
      have := (ahead_lk h5.near hz.near).2 h9
      rw [ha] at this; cases this
theorem SB.take (h : SB gone come to u i k bi bk x) {z : Lk} (hz : Cd gone come to u i k z) (ha : bi < 0 ∨ RenB.ahead z.p x = true) : SB gone come to u i (k + 1) i k z.p := by
  have hi : i < gone.length ∧ k < come.length := by
    obtain ⟨f, g, e1, e2, _⟩ := id hz
    exact ⟨(List.getElem?_eq_some_iff.1 e1).1, (List.getElem?_eq_some_iff.1 e2).1⟩
  refine .inr ⟨i, k, z, rfl, rfl, hi.1, hi.2, hz, rfl, fun i2 k2 w hb hc => ?_⟩
  rcases hb.succ with hb | ⟨rfl, rfl⟩
  · rcases h with ⟨h, h2⟩ | ⟨a, b, y, h1, h2, h3, h4, h5, rfl, h7⟩
    · exact absurd hc (h2 i2 k2 w hb)
    · have h8 := h7 i2 k2 w hb hc
      have h9 : lkCmp z y < 0 := (ahead_lk h5.near hz.near).1 (ha.resolve_left (by omega))
      rw [lkCmp_eq] at h8 h9 ⊢
      intro h10
      have t := lkC_co.tr w z y (by omega) (by omega)
      have e := lkC_co.tr0 (x := w) (y := z) (z := y) (by omega) (by omega)
      omega
  · rw [hc.fn hz, lkCmp_eq, lkC_z.2 rfl]; omega
theorem SB.none (h : SB gone come to u gone.length k bi bk x) (h0 : bi < 0) : ∀ i k y, ¬ Cd gone come to u i k y := by
  intro i2 k2 y hc
  rcases h with ⟨_, h2⟩ | ⟨a, b, y, h1, _⟩
  · refine h2 i2 k2 y ?_ hc
    obtain ⟨f, g, e1, _⟩ := hc
    exact .inl (List.getElem?_eq_some_iff.1 e1).1
  · omega
theorem SB.best (h : SB gone come to u gone.length k bi bk x) (h0 : ¬ bi < 0) : ∃ a b y, bi = (a : Nat) ∧ bk = (b : Nat) ∧ a < gone.length ∧ b < come.length ∧ Cd gone come to u a b y ∧ x = y.p ∧ ∀ i2 k2 z, Cd gone come to u i2 k2 z → ¬ lkCmp z y < 0 := by
  rcases h with ⟨h, _⟩ | ⟨a, b, y, h1, h2, h3, h4, h5, h6, h7⟩
  · omega
  · refine ⟨a, b, y, h1, h2, h3, h4, h5, h6, fun i2 k2 z hc => h7 i2 k2 z ?_ hc⟩
    obtain ⟨f, g, e1, _⟩ := hc
    exact .inl (List.getElem?_eq_some_iff.1 e1).1
theorem Cd.mk (hi : i < gone.length) (hk : k < come.length) (ht : to.length = gone.length) (hu : u.length = come.length) (h1 : to[i]'(by omega) = 0) (h2 : u[k]'(by omega) = false) (h3 : 50 ≤ scoreB gone[i].d come[k].d) : Cd gone come to u i k (mkL gone[i] come[k]) :=
  ⟨gone[i], come[k], List.getElem?_eq_getElem hi, List.getElem?_eq_getElem hk, by rw [List.getElem?_eq_getElem (by omega), h1], by rw [List.getElem?_eq_getElem (by omega), h2], h3, rfl⟩
theorem Cd.un (hi : i < gone.length) (hk : k < come.length) (ht : to.length = gone.length) (hu : u.length = come.length) (h : ¬ (to[i]'(by omega) = 0 ∧ u[k]'(by omega) = false ∧ 50 ≤ scoreB gone[i].d come[k].d)) (y : Lk) : ¬ Cd gone come to u i k y := by
  rintro ⟨f, g, e1, e2, e3, e4, e5, _⟩
  obtain ⟨_, e1⟩ := List.getElem?_eq_some_iff.1 e1
  obtain ⟨_, e2⟩ := List.getElem?_eq_some_iff.1 e2
  obtain ⟨_, e3⟩ := List.getElem?_eq_some_iff.1 e3
  obtain ⟨_, e4⟩ := List.getElem?_eq_some_iff.1 e4
  exact h ⟨e3, e4, by rw [e1, e2]; exact e5⟩
end
theorem outR_o (come : List Fl) : ∀ (g : List Fl) (t s : List Int), ((outR come g t s).map (·.o)).Sublist (g.map (·.p))
  | [], _, _ => by simp [outR]
  | f :: g, [], _ => by simp [outR]
  | f :: g, t :: ts, [] => by simp [outR]
  | f :: g, t :: ts, s :: ss => by
    have ih := outR_o come g ts ss
    rw [outR, List.map_append, List.map_cons]
    split
    · exact ih.cons_cons _
    · exact ih.cons _
theorem sortLk (l : List Lk) : ∃ L : List Lk, L.Perm l ∧ L.Pairwise (fun x y => ¬ lkCmp y x < 0) := by
  refine ⟨l.mergeSort (fun x y => decide (¬ lkCmp y x < 0)), List.mergeSort_perm _ _, ?_⟩
  refine (List.pairwise_mergeSort (fun a b c => ?_) (fun a b => ?_) l).imp (fun {a b} h => by simpa using h)
  · simp only [decide_eq_true_eq, lkCmp_eq]
    intro h1 h2 h3
    have a1 := lkC_co.tr a b c; have b1 := lkC_co.sw a b; have b2 := lkC_co.sw b c; have b3 := lkC_co.sw a c
    have c1 := lkC_co.sw b a; have c2 := lkC_co.sw c b; have c3 := lkC_co.sw c a
    omega
  · simp only [Bool.or_eq_true, decide_eq_true_eq, lkCmp_eq]
    have b1 := lkC_co.sw a b; have c1 := lkC_co.sw b a
    omega
theorem det_of {cs : List Ch} {L : List Lk} {to sc : List Int} (hL : L.Perm (candG (exL (goneL cs) (comeL cs)).2.1 (exL (goneL cs) (comeL cs)).2.2)) (hS : L.Pairwise (fun x y => ¬ lkCmp y x < 0)) (hP : (outR (comeL cs) (goneL cs) to sc).Perm ((exL (goneL cs) (comeL cs)).1 ++ grd [] [] L)) (ha : Asc (goneL cs)) : DetP cs (outR (comeL cs) (goneL cs) to sc) := by
  refine ⟨L, hL, hS, hP, ?_⟩
  have h1 : ((goneL cs).map (·.p)).Pairwise (fun x y => Op.bytesLess x y = true) := by rw [List.pairwise_map]; exact ha
  have h2 := h1.sublist (outR_o (comeL cs) (goneL cs) to sc)
  rw [List.pairwise_map] at h2
  refine h2.imp (fun {x y} h h3 => ?_)
  have := bl_trans h (cmpS_lt.1 h3)
  rw [bl_refl] at this; cases this

end Go.Proofs.Ytclhnkmkejijjaa.RenT
