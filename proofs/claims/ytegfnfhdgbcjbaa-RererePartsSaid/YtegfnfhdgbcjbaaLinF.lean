/-
  What a script keeps, and the rows that two rows have in common; the contract of LinesMany.
-/
import Derived.Test.YtegfnfhdgbcjbaaLinE
namespace Go.Proofs.Ytegfnfhdgbcjbaa.LinF
open Go.Proofs.Ytegfnfhdgbcjbaa.E Go.RowKit Go.Proofs.Ytegfnfhdgbcjbaa.LinM Go.Proofs.Ytegfnfhdgbcjbaa.LinA Go.Proofs.Ytegfnfhdgbcjbaa.LinB Go.Proofs.Ytegfnfhdgbcjbaa.LinC Go.Proofs.Ytegfnfhdgbcjbaa.LinD Go.Proofs.Ytegfnfhdgbcjbaa.LinE
set_option linter.unusedVariables false
set_option linter.unusedSimpArgs false
set_option linter.unusedSectionVars false

section
variable {α : Type} [DecidableEq α]
theorem lcs_ex : ∀ (n : Nat) (a b : List α), a.length + b.length ≤ n → ∃ s : List α, s.Sublist a ∧ s.Sublist b ∧ s.length = lcs a b := by
  intro n
  induction n with
  | zero =>
    intro a b h
    have h1 : a = [] := List.eq_nil_of_length_eq_zero (by omega)
    have h2 : b = [] := List.eq_nil_of_length_eq_zero (by omega)
    subst h1; subst h2
    exact ⟨[], List.Sublist.refl _, List.Sublist.refl _, by rw [lcs_nil]; rfl⟩
  | succ n ih =>
    intro a b h
    cases a with
    | nil => exact ⟨[], List.nil_sublist _, List.nil_sublist _, by rw [lcs_nil]; rfl⟩
    | cons x xs =>
      cases b with
      | nil => exact ⟨[], List.nil_sublist _, List.nil_sublist _, by rw [lcs_nil_right]; rfl⟩
      | cons y ys =>
        simp only [List.length_cons] at h
        rw [lcs_cons]
        split
        · rename_i e; subst e
          obtain ⟨s, h1, h2, h3⟩ := ih xs ys (by omega)
          exact ⟨x :: s, h1.cons_cons x, h2.cons_cons x, by simp [h3]⟩
        · by_cases hm : lcs (x :: xs) ys ≤ lcs xs (y :: ys)
          · obtain ⟨s, h1, h2, h3⟩ := ih xs (y :: ys) (by simp; omega)
            exact ⟨s, h1.cons x, h2, by omega⟩
          · obtain ⟨s, h1, h2, h3⟩ := ih (x :: xs) ys (by simp; omega)
            exact ⟨s, h1, h2.cons y, by omega⟩
theorem lcs_most : ∀ (n : Nat) (a b s : List α), a.length + b.length ≤ n → s.Sublist a → s.Sublist b → s.length ≤ lcs a b := by
  intro n
  induction n with
  | zero =>
    intro a b s h h1 h2
    have := h1.length_le
    omega
  | succ n ih =>
    intro a b s h h1 h2
    cases h1 with
    | slnil => simp
    | cons x h1 =>
      rename_i xs
      simp only [List.length_cons] at h
      exact Nat.le_trans (ih xs b s (by omega) h1 h2) (lcs_left x xs b).1
    | cons_cons x h1 =>
      rename_i s' xs
      simp only [List.length_cons] at h
      cases h2 with
      | cons y h2 =>
        rename_i ys
        simp only [List.length_cons] at h
        exact Nat.le_trans (ih (x :: xs) ys (x :: s') (by simp; omega) (h1.cons_cons x) h2) (lcs_right y (x :: xs) ys).1
      | cons_cons _ h2 =>
        rename_i ys
        simp only [List.length_cons] at h
        have := ih xs ys s' (by omega) h1 h2
        rw [lcs_same]; simp; omega
theorem lcs_sub {a b s : List α} (h1 : s.Sublist a) (h2 : s.Sublist b) : s.length ≤ lcs a b := lcs_most _ a b s (Nat.le_refl _) h1 h2
theorem lcs_has (a b : List α) : ∃ s : List α, s.Sublist a ∧ s.Sublist b ∧ s.length = lcs a b := lcs_ex _ a b (Nat.le_refl _)
/-- one line more at a place -/
theorem lcs_insert (a b : List α) (k : Nat) (y : α) : lcs a b ≤ lcs a (b.take k ++ y :: b.drop k) := by
  obtain ⟨s, h1, h2, h3⟩ := lcs_has a b
  rw [← h3]
  refine lcs_sub h1 (h2.trans ?_)
  have : b = b.take k ++ b.drop k := (List.take_append_drop k b).symm
  conv => lhs; rw [this]
  exact (List.Sublist.refl _).append (List.sublist_cons_self _ _)
/-- one line less at a place -/
theorem lcs_delete (a b : List α) (k : Nat) (hk : k < b.length) : lcs a b ≤ lcs a (b.take k ++ b.drop (k + 1)) + 1 := by
  obtain ⟨s, h1, h2, h3⟩ := lcs_has a b
  have hb : b = b.take k ++ b[k] :: b.drop (k + 1) := by rw [← List.drop_eq_getElem_cons hk, List.take_append_drop]
  rw [hb] at h2
  obtain ⟨u, v, rfl, hu, hv⟩ := List.sublist_append_iff.1 h2
  rcases List.sublist_cons_iff.1 hv with hv | ⟨v', rfl, hv⟩
  · have := lcs_sub h1 (hu.append hv)
    omega
  · have h4 : (u ++ v').Sublist a := ((List.Sublist.refl u).append (List.sublist_cons_self _ v')).trans h1
    have := lcs_sub h4 (hu.append (List.cons_sublist_cons.1 hv))
    simp only [List.length_append, List.length_cons] at this h3
    omega
theorem count_W : ∀ (n : Nat) (a b : List α), a.length + b.length ≤ n → (W a b).count 0 = lcs a b := by
  intro n
  induction n with
  | zero =>
    intro a b h
    have h1 : a = [] := List.eq_nil_of_length_eq_zero (by omega)
    have h2 : b = [] := List.eq_nil_of_length_eq_zero (by omega)
    subst h1; subst h2
    rw [W_nil, lcs_nil]; rfl
  | succ n ih =>
    intro a b h
    cases a with
    | nil =>
      cases b with
      | nil => rw [W_nil, lcs_nil]; rfl
      | cons y ys => rw [W, List.count_cons_of_ne (by decide), ih [] ys (by simp at h ⊢; omega), lcs_nil, lcs_nil]
    | cons x xs =>
      cases b with
      | nil => rw [W, List.count_cons_of_ne (by decide), ih xs [] (by simp at h ⊢; omega), lcs_nil_right, lcs_nil_right]
      | cons y ys =>
        simp only [List.length_cons] at h
        rw [W]
        split
        · rename_i e; subst e
          rw [List.count_cons_self, ih xs ys (by omega), lcs_same]
        · rename_i hne
          split
          · rename_i he
            rw [List.count_cons_of_ne (by decide), ih xs (y :: ys) (by simp; omega), he]
          · rename_i he
            rw [List.count_cons_of_ne (by decide), ih (x :: xs) ys (by simp; omega)]
            have h1 := lcs_cons x y xs ys
            rw [if_neg hne] at h1
            omega
/-- what the steps come to: kept and deleted are the one side, kept and inserted the other -/
theorem sides_W : ∀ (n : Nat) (a b : List α), a.length + b.length ≤ n → (W a b).count 0 + (W a b).count 1 = a.length ∧ (W a b).count 0 + (W a b).count 2 = b.length := by
  intro n
  induction n with
  | zero =>
    intro a b h
    have h1 : a = [] := List.eq_nil_of_length_eq_zero (by omega)
    have h2 : b = [] := List.eq_nil_of_length_eq_zero (by omega)
    subst h1; subst h2
    rw [W_nil]; simp
  | succ n ih =>
    intro a b h
    cases a with
    | nil =>
      cases b with
      | nil => rw [W_nil]; simp
      | cons y ys => have := ih [] ys (by simp at h ⊢; omega); rw [W]; simp only [List.count_cons, List.length_cons]; simp at this ⊢; omega
    | cons x xs =>
      cases b with
      | nil => have := ih xs [] (by simp at h ⊢; omega); rw [W]; simp only [List.count_cons, List.length_cons]; simp at this ⊢; omega
      | cons y ys =>
        simp only [List.length_cons] at h
        rw [W]
        split
        · have := ih xs ys (by omega); simp only [List.count_cons, List.length_cons]; simp; omega
        · split
          · have := ih xs (y :: ys) (by simp; omega); simp only [List.count_cons, List.length_cons] at this ⊢; simp; omega
          · have := ih (x :: xs) ys (by simp; omega); simp only [List.count_cons, List.length_cons] at this ⊢; simp; omega
end
theorem sum_set {g : Int × Int → Int} (es : List (Int × Int)) (i : Nat) (e f : Int × Int) (h : es[i]? = some f) : ((es.set i e).map g).sum = (es.map g).sum - g f + g e := by
  induction es generalizing i with
  | nil => simp at h
  | cons x es ih =>
    cases i with
    | zero => simp only [List.getElem?_cons_zero, Option.some.injEq] at h; subst h; simp; omega
    | succ i => simp only [List.getElem?_cons_succ] at h; have := ih i h; simp only [List.set_cons_succ, List.map_cons, List.sum_cons]; omega
theorem sum_addE {g : Int × Int → Int} (es : List (Int × Int)) (op : Int) (hg : ∀ n, g (op, n + 1) = g (op, n) + g (op, 1)) : ((addE es op).map g).sum = (es.map g).sum + g (op, 1) := by
  unfold addE
  split
  · rename_i h
    obtain ⟨h1, h2⟩ := h
    have hlt : es.length - 1 < es.length := by omega
    rw [sum_set es _ _ es[es.length - 1] (by simp [hlt])]
    simp only [hlt, List.getElem?_eq_getElem, Option.map_some, Option.getD_some, Option.some.injEq] at h2 ⊢
    have : es[es.length - 1] = (op, es[es.length - 1].2) := by rw [← h2]
    have h3 := hg es[es.length - 1].2
    rw [h3, ← this]; omega
  · simp
theorem sum_runs {g : Int × Int → Int} (ops : List Int) (hg : ∀ o ∈ ops, ∀ n, g (o, n + 1) = g (o, n) + g (o, 1)) : ((runs ops).map g).sum = (ops.map (fun o => g (o, 1))).sum := by
  have : ∀ (ops : List Int) (es : List (Int × Int)), (∀ o ∈ ops, ∀ n, g (o, n + 1) = g (o, n) + g (o, 1)) → ((ops.foldl addE es).map g).sum = (es.map g).sum + (ops.map (fun o => g (o, 1))).sum := by
    intro ops
    induction ops with
    | nil => intro es _; simp
    | cons o ops ih => intro es h; rw [List.foldl_cons, ih _ (fun o ho => h o (by simp [ho])), sum_addE es o (h o (by simp))]; simp; omega
  have := this ops [] hg
  simpa [runs] using this
theorem sum_ind (ops : List Int) (p : Int) : (ops.map (fun o => if o = p then (1 : Int) else 0)).sum = ops.count p := by
  induction ops with
  | nil => simp
  | cons o ops ih =>
    rw [List.map_cons, List.sum_cons, ih, List.count_cons]
    by_cases h : o = p
    · simp [h]; omega
    · simp [h]
/-- a script keeps as many lines as both have in common -/
theorem keptE_script {α : Type} [DecidableEq α] (a b : List α) : keptE (script a b) = lcs a b := by
  unfold keptE script
  rw [sum_runs (W a b) (fun o _ n => by dsimp only; split <;> omega), sum_ind, count_W _ a b (Nat.le_refl _)]
theorem W_len_eq {α : Type} [DecidableEq α] (a b : List α) : tot (script a b) = (W a b).length := runs_tot _
theorem lcs_set (n k : Nat) (x y : List UInt8) (hk : k < n) (h : x ≠ y) : lcs (List.replicate n x) ((List.replicate n x).set k y) = n - 1 := by
  apply Nat.le_antisymm
  · apply Decidable.byContradiction; intro hc
    obtain ⟨s, h1, h2, h3⟩ := lcs_has (List.replicate n x) ((List.replicate n x).set k y)
    have hl := h1.length_le
    simp only [List.length_replicate] at hl
    have e1 := h1.eq_of_length (by simp; omega)
    have e2 := h2.eq_of_length (by simp; omega)
    rw [e1] at e2
    have e3 : (List.replicate n x)[k]? = ((List.replicate n x).set k y)[k]? := by rw [← e2]
    simp [hk] at e3
    exact h e3
  · have h1 : (((List.replicate n x).set k y).eraseIdx k).Sublist ((List.replicate n x).set k y) := List.eraseIdx_sublist _ _
    have h2 : ((List.replicate n x).set k y).eraseIdx k = List.replicate (n - 1) x := by
      rw [List.eraseIdx_set_eq, List.eraseIdx_replicate, if_pos hk]
    rw [h2] at h1
    have h3 : (List.replicate (n - 1) x).Sublist (List.replicate n x) := List.replicate_sublist_replicate x |>.2 (by omega)
    have := lcs_sub h3 h1
    simpa using this
abbrev sX : List UInt8 := [120]
abbrev sY : List UInt8 := [121]
theorem rep_set (i m : Nat) (h : i < m) : (List.replicate i sX ++ List.replicate (m - i) ([] : List UInt8)).set i sX = List.replicate (i + 1) sX ++ List.replicate (m - (i + 1)) [] := by
  rw [List.set_append_right _ _ (by simp), List.length_replicate, Nat.sub_self, show m - i = (m - (i + 1)) + 1 by omega, List.replicate_succ, List.set_cons_zero, List.replicate_succ', List.append_assoc]; rfl

end Go.Proofs.Ytegfnfhdgbcjbaa.LinF
