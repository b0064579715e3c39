/-
  The document's pairs: the plain law.
-/
import Derived.Test.YtclhnkmkejijjaaRenO
namespace Go.Proofs.Ytclhnkmkejijjaa.RenS
open Go.Proofs.Ytclhnkmkejijjaa.E Go.RowKit Go.Proofs.Ytclhnkmkejijjaa.RenA Go.Proofs.Ytclhnkmkejijjaa.RenB Go.Proofs.Ytclhnkmkejijjaa.RenC Go.Proofs.Ytclhnkmkejijjaa.RenD Go.Proofs.Ytclhnkmkejijjaa.RenE Go.Proofs.Ytclhnkmkejijjaa.RenF Go.Proofs.Ytclhnkmkejijjaa.RenG Go.Proofs.Ytclhnkmkejijjaa.RenH Go.Proofs.Ytclhnkmkejijjaa.RenI Go.Proofs.Ytclhnkmkejijjaa.RenL Go.Proofs.Ytclhnkmkejijjaa.RenM Go.Proofs.Ytclhnkmkejijjaa.RenN Go.Proofs.Ytclhnkmkejijjaa.RenO
set_option maxRecDepth 20000
set_option linter.unusedVariables false
set_option linter.unusedSimpArgs false
set_option linter.unusedSectionVars false

/-- what of a list is not used, place by place -/
theorem unus_take {α : Type} {l : List α} {u : List Bool} {k : Nat} (hk : k < l.length) (hu : u.length = l.length) : unus (l.take (k + 1)) (u.take (k + 1)) = unus (l.take k) (u.take k) ++ if u[k]'(by omega) = true then [] else [l[k]] := by
  unfold unus
  rw [List.take_succ_eq_append_getElem hk, List.take_succ_eq_append_getElem (by omega : k < u.length), List.zip_append (by simp; omega), List.filter_append, List.map_append]
  congr 1
  cases h : u[k] <;> simp [h]
theorem unus_split {α : Type} {l : List α} {u : List Bool} {k : Nat} (hk : k < l.length) (hu : u.length = l.length) : unus l u = unus (l.take k) (u.take k) ++ (if u[k]'(by omega) = true then [] else [l[k]]) ++ unus (l.drop (k + 1)) (u.drop (k + 1)) := by
  rw [← unus_take hk hu]
  unfold unus
  conv => lhs; rw [← List.take_append_drop (k + 1) l, ← List.take_append_drop (k + 1) u]
  rw [List.zip_append (by simp; omega), List.filter_append, List.map_append]
/-- the place among those unused -/
def upos {α : Type} (l : List α) (u : List Bool) (k : Nat) : Nat := (unus (l.take k) (u.take k)).length
theorem unus_get {α : Type} {l : List α} {u : List Bool} {k : Nat} (hk : k < l.length) (hu : u.length = l.length) (h : u[k]'(by omega) = false) : ∃ h2 : upos l u k < (unus l u).length, (unus l u)[upos l u k] = l[k] := by
  have e := unus_split hk hu
  rw [h] at e
  simp only [Bool.false_eq_true, if_false] at e
  have hl : upos l u k < (unus l u).length := by rw [e]; simp [upos]
  refine ⟨hl, ?_⟩
  have : (unus l u)[upos l u k]? = some l[k] := by
    rw [e, List.append_assoc, upos, List.getElem?_append_right (Nat.le_refl _)]
    simp
  rw [List.getElem?_eq_getElem hl] at this
  exact Option.some.inj this
theorem unus_set {α : Type} {l : List α} {u : List Bool} {k : Nat} (hk : k < l.length) (hu : u.length = l.length) (h : u[k]'(by omega) = false) : unus l (u.set k true) = (unus l u).eraseIdx (upos l u k) := by
  have e := unus_split hk hu
  have e2 := unus_split (u := u.set k true) hk (by simpa using hu)
  rw [h] at e
  simp only [Bool.false_eq_true, if_false] at e
  rw [List.getElem_set_self, if_pos rfl, List.append_nil, List.take_set_of_le (Nat.le_refl _), List.drop_set_of_lt (by omega)] at e2
  rw [e2, e, List.append_assoc, upos, List.eraseIdx_append_of_length_le (Nat.le_refl _)]
  simp
/-- the document's choice for one that is gone, of the first k -/
def rst (f : Fl) (come : List Fl) (u : List Bool) : Nat → Int
  | 0 => -1
  | k + 1 => match come[k]?, u[k]? with
    | some g, some false => if g.d = f.d ∧ (rst f come u k < 0 ∨ ∃ x, come[(rst f come u k).toNat]? = some x ∧ lastL x.p ≠ lastL f.p ∧ lastL g.p = lastL f.p) then k else rst f come u k
    | _, _ => rst f come u k
theorem rst_rng (f : Fl) (come : List Fl) (u : List Bool) : ∀ k, -1 ≤ rst f come u k ∧ rst f come u k < k
  | 0 => by simp [rst]
  | k + 1 => by
    have h := rst_rng f come u k
    rw [rst]
    split
    · split <;> omega
    · omega
theorem rst_used {f : Fl} {come : List Fl} {u : List Bool} {k : Nat} (hk : k < come.length) (hu : u.length = come.length) (h : u[k]'(by omega) = true) : rst f come u (k + 1) = rst f come u k := by
  rw [rst, List.getElem?_eq_getElem hk, List.getElem?_eq_getElem (by omega), h]
theorem rst_free {f : Fl} {come : List Fl} {u : List Bool} {k : Nat} (hk : k < come.length) (hu : u.length = come.length) (h : u[k]'(by omega) = false) : rst f come u (k + 1) = if come[k].d = f.d ∧ (rst f come u k < 0 ∨ ∃ x, come[(rst f come u k).toNat]? = some x ∧ lastL x.p ≠ lastL f.p ∧ lastL come[k].p = lastL f.p) then (k : Int) else rst f come u k := by
  rw [rst, List.getElem?_eq_getElem hk, List.getElem?_eq_getElem (by omega), h]
theorem near_gt {a g x : List UInt8} : nearL a g < nearL a x ↔ lastL x ≠ lastL a ∧ lastL g = lastL a := by
  unfold nearL
  by_cases h1 : lastL a = lastL g <;> by_cases h2 : lastL a = lastL x
  · rw [if_pos h1, if_pos h2]; exact ⟨fun h => absurd h (by decide), fun h => absurd h2.symm h.1⟩
  · rw [if_pos h1, if_neg h2]; exact ⟨fun _ => ⟨fun e => h2 e.symm, h1.symm⟩, fun _ => by decide⟩
  · rw [if_neg h1, if_pos h2]; exact ⟨fun h => absurd h (by decide), fun h => absurd h2.symm h.1⟩
  · rw [if_neg h1, if_neg h2]; exact ⟨fun h => absurd h (by decide), fun h => absurd h.2.symm h1⟩
/-- both choose the same one -/
theorem pst_rst (f : Fl) (come : List Fl) (u : List Bool) (hu : u.length = come.length) : ∀ k, k ≤ come.length → (rst f come u k = -1 ∧ pst f (unus come u) (upos come u k) = -1) ∨ ∃ b, ∃ hb : b < come.length, b < k ∧ u[b]'(by omega) = false ∧ rst f come u k = b ∧ pst f (unus come u) (upos come u k) = upos come u b
  | 0, _ => .inl ⟨rfl, by simp [upos, unus, pst]⟩
  | k + 1, hk => by
    have ih := pst_rst f come u hu k (by omega)
    have hkl : k < come.length := hk
    cases h : u[k]'(by omega) with
    | true =>
      have e : upos come u (k + 1) = upos come u k := by unfold upos; rw [unus_take hkl hu, h]; simp
      rw [rst_used hkl hu h, e]
      rcases ih with ih | ⟨b, hb, h1, h2⟩
      · exact .inl ih
      · exact .inr ⟨b, hb, by omega, h2⟩
    | false =>
      have e : upos come u (k + 1) = upos come u k + 1 := by unfold upos; rw [unus_take hkl hu, h]; simp
      obtain ⟨hl, hg⟩ := unus_get hkl hu h
      rw [rst_free hkl hu h, e]
      rcases ih with ⟨r1, r2⟩ | ⟨b, hb, h1, h2, h3, h4⟩
      · by_cases hd : come[k].d = f.d
        · rw [if_pos ⟨hd, .inl (by omega)⟩, pst_hit hl (by rw [hg]; exact hd.symm) (.inl (by omega))]
          exact .inr ⟨k, hkl, by omega, h, rfl, rfl⟩
        · rw [if_neg (fun h9 => hd h9.1), pst_miss hl (fun h9 => hd (by rw [← hg]; exact h9.1.symm))]
          exact .inl ⟨r1, r2⟩
      · obtain ⟨hbl, hbg⟩ := unus_get hb hu h2
        have c1 : (rst f come u k < 0 ∨ ∃ x, come[(rst f come u k).toNat]? = some x ∧ lastL x.p ≠ lastL f.p ∧ lastL come[k].p = lastL f.p) ↔ nearL f.p come[k].p < nearL f.p come[b].p := by
          rw [h3, Int.toNat_natCast, List.getElem?_eq_getElem hb, near_gt]
          constructor
          · rintro (h9 | ⟨x, h9, h8⟩)
            · omega
            · rw [Option.some.inj h9]; exact h8
          · intro h9; exact .inr ⟨_, rfl, h9⟩
        by_cases hc : come[k].d = f.d ∧ nearL f.p come[k].p < nearL f.p come[b].p
        · rw [if_pos ⟨hc.1, c1.2 hc.2⟩, pst_hit hl (by rw [hg]; exact hc.1.symm) (.inr ⟨by rw [h4, Int.toNat_natCast]; exact hbl, by simp only [h4, Int.toNat_natCast, hg, hbg]; exact hc.2⟩)]
          exact .inr ⟨k, hkl, by omega, h, rfl, rfl⟩
        · rw [if_neg (fun h9 => hc ⟨h9.1, c1.1 h9.2⟩), pst_miss hl (by
            rintro ⟨h9, h8 | ⟨h8, h7⟩⟩
            · omega
            · simp only [h4, Int.toNat_natCast, hg, hbg] at h7 h9
              exact hc ⟨h9.symm, h7⟩)]
          exact .inr ⟨b, hb, by omega, h2, h3, h4⟩
theorem upos_all {α : Type} (l : List α) (u : List Bool) (hu : u.length = l.length) : upos l u l.length = (unus l u).length := by
  unfold upos; rw [List.take_length, ← hu, List.take_length]
/-- the pairs that are laid down -/
def outR (come : List Fl) : List Fl → List Int → List Int → List Pr
  | f :: g, t :: ts, s :: ss => (if 0 < t then [⟨f.p, (come.getD (t - 1).toNat zFl).p, s⟩] else []) ++ outR come g ts ss
  | _, _, _ => []
def nz (to : List Int) : List Bool := to.map (fun t => decide (t ≠ 0))
theorem outR_app (come : List Fl) : ∀ (g g2 : List Fl) (t t2 s s2 : List Int), t.length = g.length → s.length = g.length → outR come (g ++ g2) (t ++ t2) (s ++ s2) = outR come g t s ++ outR come g2 t2 s2
  | [], _, [], _, [], _, _, _ => rfl
  | [], _, _ :: _, _, _, _, h, _ => by simp at h
  | [], _, [], _, _ :: _, _, _, h => by simp at h
  | f :: g, g2, [], _, _, _, h, _ => by simp at h
  | f :: g, g2, _ :: _, _, [], _, _, h => by simp at h
  | f :: g, g2, t :: ts, t2, s :: ss, s2, h, h2 => by
    simp only [List.cons_append, outR, List.append_assoc]
    rw [outR_app come g g2 ts t2 ss s2 (by simpa using h) (by simpa using h2)]
theorem outR_take {come g : List Fl} {t s : List Int} {i : Nat} (hi : i < g.length) (ht : t.length = g.length) (hs : s.length = g.length) : outR come (g.take (i + 1)) (t.take (i + 1)) (s.take (i + 1)) = outR come (g.take i) (t.take i) (s.take i) ++ if 0 < t[i] then [⟨g[i].p, (come.getD (t[i] - 1).toNat zFl).p, s[i]⟩] else [] := by
  rw [List.take_succ_eq_append_getElem hi, List.take_succ_eq_append_getElem (by omega : i < t.length), List.take_succ_eq_append_getElem (by omega : i < s.length), outR_app _ _ _ _ _ _ _ (by simp; omega) (by simp; omega)]
  simp [outR]
theorem outR_split {come g : List Fl} {t s : List Int} {i : Nat} (hi : i < g.length) (ht : t.length = g.length) (hs : s.length = g.length) : outR come g t s = outR come (g.take i) (t.take i) (s.take i) ++ (if 0 < t[i] then [⟨g[i].p, (come.getD (t[i] - 1).toNat zFl).p, s[i]⟩] else []) ++ outR come (g.drop (i + 1)) (t.drop (i + 1)) (s.drop (i + 1)) := by
  rw [← outR_take hi ht hs, ← outR_app _ _ _ _ _ _ _ (by simp; omega) (by simp; omega)]
  simp
theorem outR_set {come g : List Fl} {t s : List Int} {i : Nat} {q : Nat} {v : Int} (hi : i < g.length) (ht : t.length = g.length) (hs : s.length = g.length) (h0 : t[i] = 0) (hq : q < come.length) : (outR come g (t.set i ((q : Int) + 1)) (s.set i v)).Perm (outR come g t s ++ [⟨g[i].p, come[q].p, v⟩]) := by
  rw [outR_split hi ht hs, outR_split (t := t.set i ((q : Int) + 1)) (s := s.set i v) hi (by simpa using ht) (by simpa using hs), h0]
  rw [List.take_set_of_le (Nat.le_refl _), List.take_set_of_le (Nat.le_refl _), List.drop_set_of_lt (by omega), List.drop_set_of_lt (by omega)]
  simp only [List.getElem_set_self]
  rw [if_pos (by omega), if_neg (by omega), List.append_nil, show ((q : Int) + 1 - 1).toNat = q by omega]
  have : come.getD q zFl = come[q] := by simp [List.getD, hq]
  rw [this, List.append_assoc, List.append_assoc]
  refine List.Perm.append_left _ ?_
  exact List.perm_append_comm
/-- behind the first i that are gone -/
structure RelB (gone come : List Fl) (i : Nat) (to : List Int) (u : List Bool) (sc : List Int) : Prop where
  lt : to.length = gone.length
  lu : u.length = come.length
  ls : sc.length = gone.length
  ex : exL (gone.take i) come = (outR come (gone.take i) (to.take i) (sc.take i), unus (gone.take i) ((nz to).take i), unus come u)
  z : ∀ j (h : j < to.length), i ≤ j → to[j] = 0
  r : ∀ j (h : j < to.length), 0 ≤ to[j] ∧ to[j] ≤ come.length
theorem RelB.init (gone come : List Fl) : RelB gone come 0 (List.replicate gone.length 0) (List.replicate come.length false) (List.replicate gone.length 0) :=
  ⟨by simp, by simp, by simp, by rw [unus_all]; simp [exL, outR, unus], fun j h _ => by simp, fun j h => by simp⟩
theorem nz_len (t : List Int) : (nz t).length = t.length := by simp [nz]
theorem RelB.no {gone come : List Fl} {i : Nat} {to : List Int} {u : List Bool} {sc : List Int} (h : RelB gone come i to u sc) (hi : i < gone.length) (hb : rst gone[i] come u come.length < 0) : RelB gone come (i + 1) to u sc := by
  have h0 := h.z i (by rw [h.lt]; exact hi) (Nat.le_refl _)
  refine ⟨h.lt, h.lu, h.ls, ?_, fun j hj hij => h.z j hj (by omega), h.r⟩
  have hp : pst gone[i] (unus come u) (unus come u).length < 0 := by
    rw [← upos_all come u h.lu]
    rcases pst_rst gone[i] come u h.lu come.length (Nat.le_refl _) with h9 | ⟨b, _, _, _, h9, _⟩ <;> omega
  rw [exL_step hi, h.ex, exStep_no hp, outR_take hi h.lt h.ls, unus_take hi (by rw [nz_len, h.lt])]
  simp [h0, nz]
theorem RelB.yes {gone come : List Fl} {i q : Nat} {to : List Int} {u : List Bool} {sc : List Int} (h : RelB gone come i to u sc) (hi : i < gone.length) (hb : rst gone[i] come u come.length = q) : q < come.length ∧ RelB gone come (i + 1) (to.set i ((q : Int) + 1)) (u.set q true) (sc.set i 100) := by
  have h0 := h.z i (by rw [h.lt]; exact hi) (Nat.le_refl _)
  have hil : i < to.length := by rw [h.lt]; exact hi
  rcases pst_rst gone[i] come u h.lu come.length (Nat.le_refl _) with h9 | ⟨b, hbl, _, hbu, h9, h8⟩
  · omega
  · have hqb : q = b := by omega
    subst hqb
    rw [upos_all come u h.lu] at h8
    obtain ⟨g1, g2⟩ := unus_get hbl h.lu hbu
    refine ⟨hbl, ⟨by simpa using h.lt, by simpa using h.lu, by simpa using h.ls, ?_, fun j hj hij => ?_, fun j hj => ?_⟩⟩
    · rw [exL_step hi, h.ex, exStep_yes h8 g1]
      have l1 : (to.set i ((q : Int) + 1)).length = gone.length := by simpa using h.lt
      have l2 : (sc.set i 100).length = gone.length := by simpa using h.ls
      rw [outR_take hi l1 l2, unus_take hi (by rw [nz_len]; exact l1), unus_set hbl h.lu hbu]
      have e1 : (nz (to.set i ((q : Int) + 1))).take i = (nz to).take i := by unfold nz; rw [← List.map_take, ← List.map_take, List.take_set_of_le (Nat.le_refl _)]
      rw [List.take_set_of_le (Nat.le_refl _), List.take_set_of_le (Nat.le_refl _), e1]
      have e2 : come.getD q zFl = come[q] := by simp [List.getD, hbl]
      have e3 : (nz (to.set i ((q : Int) + 1)))[i]'(by rw [nz_len, l1]; exact hi) = true := by simp [nz]; omega
      simp only [List.getElem_set_self, e3, if_true, List.append_nil]
      rw [if_pos (by omega), show ((q : Int) + 1 - 1).toNat = q by omega, e2, g2]
    · rw [List.getElem_set_ne (by omega)]
      exact h.z j (by simpa using hj) (by omega)
    · rw [List.getElem_set]
      split
      · omega
      · exact h.r j (by simpa using hj)

end Go.Proofs.Ytclhnkmkejijjaa.RenS
