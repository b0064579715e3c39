/-
  What a script keeps, and the rows that two rows have in common; the contract of LinesMany.
-/
import Derived.Test.YtkofoccjnoenlaaLinE
namespace Go.Proofs.Ytkofoccjnoenlaa.LinF
open Go.Proofs.Ytkofoccjnoenlaa.E Go.RowKit Go.Proofs.Ytkofoccjnoenlaa.LinM Go.Proofs.Ytkofoccjnoenlaa.LinA Go.Proofs.Ytkofoccjnoenlaa.LinB Go.Proofs.Ytkofoccjnoenlaa.LinC Go.Proofs.Ytkofoccjnoenlaa.LinD Go.Proofs.Ytkofoccjnoenlaa.LinE
set_option linter.unusedVariables false
set_option linter.unusedSimpArgs false
set_option linter.unusedSectionVars false
theorem inf22 : Inf Try.prog 22 9 1 16 := ⟨Try.underlying22, _, _, rfl, rfl, rfl, rfl, rfl⟩

section
variable {α : Type} [DecidableEq α]
theorem lcs_ex : ∀ (n : Nat) (a b : List α), a.length + b.length ≤ n → ∃ s : List α, s.Sublist a ∧ s.Sublist b ∧ s.length = lcs a b := by
  intro n
  induction n with
  | zero =>
    intro a b h
    have h1 : a = [] := List.eq_nil_of_length_eq_zero (by omega)
    have h2 : b = [] := List.eq_nil_of_length_eq_zero (by omega)
    subst h1; subst h2
    exact ⟨[], List.Sublist.refl _, List.Sublist.refl _, by rw [lcs_nil]; rfl⟩
  | succ n ih =>
    intro a b h
    cases a with
    | nil => exact ⟨[], List.nil_sublist _, List.nil_sublist _, by rw [lcs_nil]; rfl⟩
    | cons x xs =>
      cases b with
      | nil => exact ⟨[], List.nil_sublist _, List.nil_sublist _, by rw [lcs_nil_right]; rfl⟩
      | cons y ys =>
        simp only [List.length_cons] at h
        rw [lcs_cons]
        split
        · rename_i e; subst e
          obtain ⟨s, h1, h2, h3⟩ := ih xs ys (by omega)
          exact ⟨x :: s, h1.cons_cons x, h2.cons_cons x, by simp [h3]⟩
        · by_cases hm : lcs (x :: xs) ys ≤ lcs xs (y :: ys)
          · obtain ⟨s, h1, h2, h3⟩ := ih xs (y :: ys) (by simp; omega)
            exact ⟨s, h1.cons x, h2, by omega⟩
          · obtain ⟨s, h1, h2, h3⟩ := ih (x :: xs) ys (by simp; omega)
            exact ⟨s, h1, h2.cons y, by omega⟩
theorem lcs_most : ∀ (n : Nat) (a b s : List α), a.length + b.length ≤ n → s.Sublist a → s.Sublist b → s.length ≤ lcs a b := by
  intro n
  induction n with
  | zero =>
    intro a b s h h1 h2
    have := h1.length_le
    omega
  | succ n ih =>
    intro a b s h h1 h2
    cases h1 with
    | slnil => simp
    | cons x h1 =>
      rename_i xs
      simp only [List.length_cons] at h
      exact Nat.le_trans (ih xs b s (by omega) h1 h2) (lcs_left x xs b).1
    | cons_cons x h1 =>
      rename_i s' xs
      simp only [List.length_cons] at h
      cases h2 with
      | cons y h2 =>
        rename_i ys
        simp only [List.length_cons] at h
        exact Nat.le_trans (ih (x :: xs) ys (x :: s') (by simp; omega) (h1.cons_cons x) h2) (lcs_right y (x :: xs) ys).1
      | cons_cons _ h2 =>
        rename_i ys
        simp only [List.length_cons] at h
        have := ih xs ys s' (by omega) h1 h2
        rw [lcs_same]; simp; omega
theorem lcs_sub {a b s : List α} (h1 : s.Sublist a) (h2 : s.Sublist b) : s.length ≤ lcs a b := lcs_most _ a b s (Nat.le_refl _) h1 h2
theorem lcs_has (a b : List α) : ∃ s : List α, s.Sublist a ∧ s.Sublist b ∧ s.length = lcs a b := lcs_ex _ a b (Nat.le_refl _)
/-- one line more at a place -/
theorem lcs_insert (a b : List α) (k : Nat) (y : α) : lcs a b ≤ lcs a (b.take k ++ y :: b.drop k) := by
  obtain ⟨s, h1, h2, h3⟩ := lcs_has a b
  rw [← h3]
  refine lcs_sub h1 (h2.trans ?_)
  have : b = b.take k ++ b.drop k := (List.take_append_drop k b).symm
  conv => lhs; rw [this]
  exact (List.Sublist.refl _).append (List.sublist_cons_self _ _)
/-- one line less at a place -/
theorem lcs_delete (a b : List α) (k : Nat) (hk : k < b.length) : lcs a b ≤ lcs a (b.take k ++ b.drop (k + 1)) + 1 := by
  obtain ⟨s, h1, h2, h3⟩ := lcs_has a b
  have hb : b = b.take k ++ b[k] :: b.drop (k + 1) := by rw [← List.drop_eq_getElem_cons hk, List.take_append_drop]
  rw [hb] at h2
  obtain ⟨u, v, rfl, hu, hv⟩ := List.sublist_append_iff.1 h2
  rcases List.sublist_cons_iff.1 hv with hv | ⟨v', rfl, hv⟩
  · have := lcs_sub h1 (hu.append hv)
    omega
  · have h4 : (u ++ v').Sublist a := ((List.Sublist.refl u).append (List.sublist_cons_self _ v')).trans h1
    have := lcs_sub h4 (hu.append (List.cons_sublist_cons.1 hv))
    simp only [List.length_append, List.length_cons] at this h3
    omega
theorem count_W : ∀ (n : Nat) (a b : List α), a.length + b.length ≤ n → (W a b).count 0 = lcs a b := by
  intro n
  induction n with
  | zero =>
    intro a b h
    have h1 : a = [] := List.eq_nil_of_length_eq_zero (by omega)
    have h2 : b = [] := List.eq_nil_of_length_eq_zero (by omega)
    subst h1; subst h2
    rw [W_nil, lcs_nil]; rfl
  | succ n ih =>
    intro a b h
    cases a with
    | nil =>
      cases b with
      | nil => rw [W_nil, lcs_nil]; rfl
      | cons y ys => rw [W, List.count_cons_of_ne (by decide), ih [] ys (by simp at h ⊢; omega), lcs_nil, lcs_nil]
    | cons x xs =>
      cases b with
      | nil => rw [W, List.count_cons_of_ne (by decide), ih xs [] (by simp at h ⊢; omega), lcs_nil_right, lcs_nil_right]
      | cons y ys =>
        simp only [List.length_cons] at h
        rw [W]
        split
        · rename_i e; subst e
          rw [List.count_cons_self, ih xs ys (by omega), lcs_same]
        · rename_i hne
          split
          · rename_i he
            rw [List.count_cons_of_ne (by decide), ih xs (y :: ys) (by simp; omega), he]
          · rename_i he
            rw [List.count_cons_of_ne (by decide), ih (x :: xs) ys (by simp; omega)]
            have h1 := lcs_cons x y xs ys
            rw [if_neg hne] at h1
            omega
/-- what the steps come to: kept and deleted are the one side, kept and inserted the other -/
theorem sides_W : ∀ (n : Nat) (a b : List α), a.length + b.length ≤ n → (W a b).count 0 + (W a b).count 1 = a.length ∧ (W a b).count 0 + (W a b).count 2 = b.length := by
  intro n
  induction n with
  | zero =>
    intro a b h
    have h1 : a = [] := List.eq_nil_of_length_eq_zero (by omega)
    have h2 : b = [] := List.eq_nil_of_length_eq_zero (by omega)
    subst h1; subst h2
    rw [W_nil]; simp
  | succ n ih =>
    intro a b h
    cases a with
    | nil =>
      cases b with
      | nil => rw [W_nil]; simp
      | cons y ys => have := ih [] ys (by simp at h ⊢; omega); rw [W]; simp only [List.count_cons, List.length_cons]; simp at this ⊢; omega
    | cons x xs =>
      cases b with
      | nil => have := ih xs [] (by simp at h ⊢; omega); rw [W]; simp only [List.count_cons, List.length_cons]; simp at this ⊢; omega
      | cons y ys =>
        simp only [List.length_cons] at h
        rw [W]
        split
        · have := ih xs ys (by omega); simp only [List.count_cons, List.length_cons]; simp; omega
        · split
          · have := ih xs (y :: ys) (by simp; omega); simp only [List.count_cons, List.length_cons] at this ⊢; simp; omega
          · have := ih (x :: xs) ys (by simp; omega); simp only [List.count_cons, List.length_cons] at this ⊢; simp; omega
end
theorem sum_set {g : Int × Int → Int} (es : List (Int × Int)) (i : Nat) (e f : Int × Int) (h : es[i]? = some f) : ((es.set i e).map g).sum = (es.map g).sum - g f + g e := by
  induction es generalizing i with
  | nil => simp at h
  | cons x es ih =>
    cases i with
    | zero => simp only [List.getElem?_cons_zero, Option.some.injEq] at h; subst h; simp; omega
    | succ i => simp only [List.getElem?_cons_succ] at h; have := ih i h; simp only [List.set_cons_succ, List.map_cons, List.sum_cons]; omega
theorem sum_addE {g : Int × Int → Int} (es : List (Int × Int)) (op : Int) (hg : ∀ n, g (op, n + 1) = g (op, n) + g (op, 1)) : ((addE es op).map g).sum = (es.map g).sum + g (op, 1) := by
  unfold addE
  split
  · rename_i h
    obtain ⟨h1, h2⟩ := h
    have hlt : es.length - 1 < es.length := by omega
    rw [sum_set es _ _ es[es.length - 1] (by simp [hlt])]
    simp only [hlt, List.getElem?_eq_getElem, Option.map_some, Option.getD_some, Option.some.injEq] at h2 ⊢
    have : es[es.length - 1] = (op, es[es.length - 1].2) := by rw [← h2]
    have h3 := hg es[es.length - 1].2
    rw [h3, ← this]; omega
  · simp
theorem sum_runs {g : Int × Int → Int} (ops : List Int) (hg : ∀ o ∈ ops, ∀ n, g (o, n + 1) = g (o, n) + g (o, 1)) : ((runs ops).map g).sum = (ops.map (fun o => g (o, 1))).sum := by
  have : ∀ (ops : List Int) (es : List (Int × Int)), (∀ o ∈ ops, ∀ n, g (o, n + 1) = g (o, n) + g (o, 1)) → ((ops.foldl addE es).map g).sum = (es.map g).sum + (ops.map (fun o => g (o, 1))).sum := by
    intro ops
    induction ops with
    | nil => intro es _; simp
    | cons o ops ih => intro es h; rw [List.foldl_cons, ih _ (fun o ho => h o (by simp [ho])), sum_addE es o (h o (by simp))]; simp; omega
  have := this ops [] hg
  simpa [runs] using this
theorem sum_ind (ops : List Int) (p : Int) : (ops.map (fun o => if o = p then (1 : Int) else 0)).sum = ops.count p := by
  induction ops with
  | nil => simp
  | cons o ops ih =>
    rw [List.map_cons, List.sum_cons, ih, List.count_cons]
    by_cases h : o = p
    · simp [h]; omega
    · simp [h]
/-- a script keeps as many lines as both have in common -/
theorem keptE_script {α : Type} [DecidableEq α] (a b : List α) : keptE (script a b) = lcs a b := by
  unfold keptE script
  rw [sum_runs (W a b) (fun o _ n => by dsimp only; split <;> omega), sum_ind, count_W _ a b (Nat.le_refl _)]
theorem W_len_eq {α : Type} [DecidableEq α] (a b : List α) : tot (script a b) = (W a b).length := runs_tot _
theorem lcs_set (n k : Nat) (x y : List UInt8) (hk : k < n) (h : x ≠ y) : lcs (List.replicate n x) ((List.replicate n x).set k y) = n - 1 := by
  apply Nat.le_antisymm
  · apply Decidable.byContradiction; intro hc
    obtain ⟨s, h1, h2, h3⟩ := lcs_has (List.replicate n x) ((List.replicate n x).set k y)
    have hl := h1.length_le
    simp only [List.length_replicate] at hl
    have e1 := h1.eq_of_length (by simp; omega)
    have e2 := h2.eq_of_length (by simp; omega)
    rw [e1] at e2
    have e3 : (List.replicate n x)[k]? = ((List.replicate n x).set k y)[k]? := by rw [← e2]
    simp [hk] at e3
    exact h e3
  · have h1 : (((List.replicate n x).set k y).eraseIdx k).Sublist ((List.replicate n x).set k y) := List.eraseIdx_sublist _ _
    have h2 : ((List.replicate n x).set k y).eraseIdx k = List.replicate (n - 1) x := by
      rw [List.eraseIdx_set_eq, List.eraseIdx_replicate, if_pos hk]
    rw [h2] at h1
    have h3 : (List.replicate (n - 1) x).Sublist (List.replicate n x) := List.replicate_sublist_replicate x |>.2 (by omega)
    have := lcs_sub h3 h1
    simpa using this
abbrev sX : List UInt8 := [120]
abbrev sY : List UInt8 := [121]
theorem rep_set (i m : Nat) (h : i < m) : (List.replicate i sX ++ List.replicate (m - i) ([] : List UInt8)).set i sX = List.replicate (i + 1) sX ++ List.replicate (m - (i + 1)) [] := by
  rw [List.set_append_right _ _ (by simp), List.length_replicate, Nat.sub_self, show m - i = (m - (i + 1)) + 1 by omega, List.replicate_succ, List.set_cons_zero, List.replicate_succ', List.append_assoc]; rfl

theorem linesMany_ct (n at0 : Int) (w0 : World) (H0 : Heap)
     :
    Ct Try.prog w0 5 #[.int .i64 n, .int .i64 at0] H0 (fun r H2 => r = .bool true ∧ Nw H0 H2) := by
  refine Ct.enter (args := [.int .i64 n, .int .i64 at0]) Try.func5 rfl rfl rfl ?_
  intro Q0 hret
  refine CW.seq (fun K1 hK1 hE1 => ?_)
  refine CW.region ?_
  refine LR.v (Y.assign rfl rfl) (Wd.u rfl) rfl rfl ?_
  refine LR.nil ?_
  refine hK1 _ _ ?_
  refine CW.seq (fun K2 hK2 hE2 => ?_)
  refine CW.seq (fun K3 hK3 hE3 => ?_)
  refine CW.region ?_
  -- call selvage/selvagelaw12.known
  refine LR.call rfl Try.call10 rfl (Wd.u rfl) rfl rfl (known_ct w0 H0) (fun v11 H11 r11 => ?_)
  obtain ⟨rfl, hs⟩ := r11
  refine LR.v (Y.not rfl rfl) (Wd.u rfl) rfl rfl ?_
  refine LR.nil ?_
  refine hK3 _ _ ?_
  refine CW.cond_f rfl ?_
  refine CW.skip ?_
  refine hK2 _ _ ?_
  refine CW.seq (fun K4 hK4 hE4 => ?_)
  refine CW.region ?_
  refine LR.v (Y.move rfl rfl) (Wd.u rfl) rfl rfl ?_
  -- call selvage/selvagelaw12.within
  refine LR.call rfl Try.call16 rfl (Wd.u rfl) rfl rfl (within_ct _ _ w0 H11 (by omega) (by omega)) (fun v14 H14 r14 => ?_)
  obtain ⟨rfl, rfl⟩ := r14
  have hn1 := Int.emod_nonneg n (show (20 : Int) ≠ 0 by omega)
  have hn2 := Int.emod_lt_of_pos n (show (0 : Int) < 20 by omega)
  obtain ⟨m, hm⟩ : ∃ m : Nat, 3990 + n % 20 = m := ⟨(3990 + n % 20).toNat, by omega⟩
  have hz14 := hs.size
  refine LR.v (Y.addi rfl rfl rfl (by omega)) (Wd.u rfl) rfl rfl ?_
  rw [hm]
  refine LR.v (Y.assign rfl rfl) (Wd.u rfl) rfl rfl ?_
  refine LR.nil ?_
  refine hK4 _ _ ?_
  refine CW.seq (fun K5 hK5 hE5 => ?_)
  refine CW.region ?_
  refine LR.v (Y.move rfl rfl) (Wd.u rfl) rfl rfl ?_
  refine LR.z (Z.makeSlice (m) (([] : List UInt8)) rfl inf22 Try.zeroValue9 rfl fS_len fS_one rfl rfl (rfl) (by omega) (by omega)) (Wd.u rfl) rfl rfl (fun v17 H17 r17 => ?_)
  obtain ⟨ho, hs17, ob17, hH17⟩ := r17
  have hz17 : H17.size = H14.size + 1 := by rw [hH17]; simp
  replace hs := hs.tr hs17
  refine LR.v (Y.assign rfl rfl) (Wd.u rfl) rfl rfl ?_
  refine LR.nil ?_
  refine hK5 _ _ ?_
  refine CW.seq (fun K6 hK6 hE6 => ?_)
  refine CW.region ?_
  refine LR.v (Y.move rfl rfl) (Wd.u rfl) rfl rfl ?_
  refine LR.z (Z.makeSlice (m) (([] : List UInt8)) rfl inf22 Try.zeroValue9 rfl fS_len fS_one rfl rfl (rfl) (by omega) (by omega)) (Wd.u rfl) rfl rfl (fun v19 H19 r19 => ?_)
  obtain ⟨ho2, hs19, ob19, hH19⟩ := r19
  have hz19 : H19.size = H17.size + 1 := by rw [hH19]; simp
  replace hs := hs.tr hs19
  replace ho := ho.nw hs19
  refine LR.v (Y.assign rfl rfl) (Wd.u rfl) rfl rfl ?_
  refine LR.nil ?_
  refine hK6 _ _ ?_
  refine CW.seq (fun K7 hK7 hE7 => ?_)
  refine CW.seq (fun K8 hK8 hE8 => ?_)
  refine CW.region ?_
  refine LR.v (Y.assign rfl rfl) (Wd.u rfl) rfl rfl ?_
  refine LR.nil ?_
  refine hK8 _ _ ?_
  refine CW.block (fun K9 hK9 hX9 hE9 => ?_)
  refine CW.loop (fun (i : (Nat)) => [(0, .int .i64 m), (1, .int .i64 at0), (5, v17), (6, v19), (7, .int .i64 i)])
    (fun (i : (Nat)) (H : Heap) => i ≤ m ∧ Nw H0 H ∧ Own (fun b => b = H14.size) 9 H fS 1 v17 (List.replicate i sX ++ List.replicate (m - i) []) ∧ Own (fun b => b = H17.size) 9 H fS 1 v19 (List.replicate i sX ++ List.replicate (m - i) []))
    (fun (i : (Nat)) => m - i) 0 ⟨rfl, rfl, rfl, rfl, rfl, trivial⟩ ?_ ?_
  ·
    exact ⟨by omega, hs, by simpa using ho, by simpa using ho2⟩
  intro i H1 hI1 K10 hN10 hE10
  obtain ⟨hi, hs, ho, ho2⟩ := hI1
  have hl1 : (List.replicate i sX ++ List.replicate (m - i) ([] : List UInt8)).length = m := by simp; omega
  refine CW.seq (fun K11 hK11 hE11 => ?_)
  refine CW.seq (fun K12 hK12 hE12 => ?_)
  refine CW.region ?_
  refine LR.v (Y.move rfl rfl) (Wd.u rfl) rfl rfl ?_
  refine LR.v (Y.move rfl rfl) (Wd.u rfl) rfl rfl ?_
  refine LR.v (Y.lss rfl rfl rfl) (Wd.u rfl) rfl rfl ?_
  refine LR.nil ?_
  refine hK12 _ _ ?_
  refine CW.condp rfl (fun c22 => ?_) (fun c22 => ?_)
  ·
    refine CW.skip ?_
    refine hK11 _ _ ?_
    refine CW.seq (fun K13 hK13 hE13 => ?_)
    refine CW.block (fun K14 hK14 hX14 hE14 => ?_)
    refine CW.seq (fun K15 hK15 hE15 => ?_)
    refine CW.region ?_
    refine LR.v (Y.move rfl rfl) (Wd.u rfl) rfl rfl ?_
    refine LR.v (Y.move rfl rfl) (Wd.u rfl) rfl rfl ?_
    refine LR.v (Y.ownAddr ho (i) rfl Try.runUnderlying22 Try.sizeOf9 rfl rfl (by first | rfl | omega) (by omega)) (Wd.u rfl) rfl rfl ?_
    refine LR.s (S.own ho (i) 0 (sX) rfl rfl rfl rfl Try.sizeOf9 (by omega) (by decide) (rfl)) (Wd.u rfl) rfl (fun H9_3 r9_3 => ?_)
    obtain ⟨ho, hs3⟩ := r9_3
    replace ho2 := ho2.up hs3 (fun b _ h1 h2 => by rw [h1] at h2; obtain ⟨g1, _⟩ := ho.at (j := i) (by simp; omega); omega)
    replace hs := hs.trans hs3 (fun _ _ e => e) (fun b hb e => by obtain ⟨g1, _⟩ := ho.at (j := i) (by simp; omega); omega)
    refine LR.nil ?_
    refine hK15 _ _ ?_
    refine CW.region ?_
    refine LR.v (Y.move rfl rfl) (Wd.u rfl) rfl rfl ?_
    refine LR.v (Y.move rfl rfl) (Wd.u rfl) rfl rfl ?_
    refine LR.v (Y.ownAddr ho2 (i) rfl Try.runUnderlying22 Try.sizeOf9 rfl rfl (by first | rfl | omega) (by omega)) (Wd.u rfl) rfl rfl ?_
    refine LR.s (S.own ho2 (i) 0 (sX) rfl rfl rfl rfl Try.sizeOf9 (by omega) (by decide) (rfl)) (Wd.u rfl) rfl (fun H10_3 r10_3 => ?_)
    obtain ⟨ho2, hs4⟩ := r10_3
    replace ho := ho.up hs4 (fun b _ h1 h2 => by rw [h1] at h2; obtain ⟨g1, _⟩ := ho2.at (j := i) (by simp; omega); omega)
    replace hs := hs.trans hs4 (fun _ _ e => e) (fun b hb e => by obtain ⟨g1, _⟩ := ho2.at (j := i) (by simp; omega); omega)
    refine LR.nil ?_
    refine hK14 _ _ ?_
    refine hK13 _ _ ?_
    refine CW.region ?_
    refine LR.v (Y.move rfl rfl) (Wd.u rfl) rfl rfl ?_
    refine LR.v (Y.addi rfl rfl rfl (by omega)) (Wd.u rfl) rfl rfl ?_
    refine LR.v (Y.assign rfl rfl) (Wd.u rfl) rfl rfl ?_
    refine LR.nil ?_
    refine QN.sub (hN10 (i + 1) _ ?_ ?_) ⟨(iv (by omega)), (iv (by omega)), rfl, rfl, (iv (by omega)), trivial⟩
    · exact ⟨by omega, hs, by rw [← rep_set i m (by omega)]; exact ho, by rw [← rep_set i m (by omega)]; exact ho2⟩
    · omega
  ·
    have him : i = m := by omega
    subst him
    simp only [Nat.sub_self, List.replicate_zero, List.append_nil] at ho ho2 hl1
    have hk1 := Int.emod_nonneg at0 (show (i : Int) ≠ 0 by omega)
    have hk2 := Int.emod_lt_of_pos at0 (show (0 : Int) < i by omega)
    refine CW.exit (hE11 (.exit 0) nofun _ _ (hE10 (.exit 0) nofun _ _ (hX9 _ _ ?_)))
    refine hK7 _ _ ?_
    refine CW.seq (fun K16 hK16 hE16 => ?_)
    refine CW.region ?_
    refine LR.v (Y.move rfl rfl) (Wd.u rfl) rfl rfl ?_
    refine LR.v (Y.move rfl rfl) (Wd.u rfl) rfl rfl ?_
    -- call selvage/selvagelaw12.within
    refine LR.call rfl Try.call16 rfl (Wd.u rfl) rfl rfl (within_ct _ _ w0 _ (by omega) (by omega)) (fun v33 H33 r33 => ?_)
    obtain ⟨rfl, rfl⟩ := r33
    obtain ⟨k, hk⟩ : ∃ k : Nat, at0 % (i : Int) = k := ⟨(at0 % (i : Int)).toNat, by omega⟩
    rw [hk]
    refine LR.v (Y.assign rfl rfl) (Wd.u rfl) rfl rfl ?_
    refine LR.nil ?_
    refine hK16 _ _ ?_
    refine CW.seq (fun K17 hK17 hE17 => ?_)
    refine CW.region ?_
    refine LR.v (Y.move rfl rfl) (Wd.u rfl) rfl rfl ?_
    refine LR.v (Y.move rfl rfl) (Wd.u rfl) rfl rfl ?_
    refine LR.v (Y.ownAddr ho2 (k) rfl Try.runUnderlying22 Try.sizeOf9 rfl rfl (by first | rfl | omega) (by omega)) (Wd.u rfl) rfl rfl ?_
    refine LR.s (S.own ho2 (k) 0 (sY) rfl rfl rfl rfl Try.sizeOf9 (by omega) (by decide) (rfl)) (Wd.u rfl) rfl (fun H12_3 r12_3 => ?_)
    obtain ⟨ho2, hs5⟩ := r12_3
    have hb2 := (ho2.at (j := k) (by simp; omega)).1
    replace ho := ho.up hs5 (fun b _ h1 h2 => by omega)
    replace hs := hs.trans hs5 (fun _ _ e => e) (fun b hb e => by omega)
    refine LR.nil ?_
    refine hK17 _ _ ?_
    refine CW.seq (fun K18 hK18 hE18 => ?_)
    refine CW.region ?_
    refine LR.v (Y.move rfl rfl) (Wd.u rfl) rfl rfl ?_
    refine LR.v (Y.move rfl rfl) (Wd.u rfl) rfl rfl ?_
    -- call selvage/lines.Diff
    refine LR.call rfl Try.call12 rfl (Wd.u rfl) rfl rfl (diff_ct _ _ _ _ w0 H12_3 ho.rd.any ho2.rd.any) (fun v40 H40 r40 => ?_)
    obtain ⟨v, rfl, hoe, hs40⟩ := r40
    simp only [List.length_set, List.length_replicate] at hoe ⊢
    replace hs := hs.tr hs40
    refine LR.v (Y.move rfl rfl) (Wd.u rfl) rfl rfl ?_
    refine LR.v (Y.extract rfl rfl rfl) (Wd.u rfl) rfl rfl ?_
    refine LR.v (Y.extract rfl rfl rfl) (Wd.u rfl) rfl rfl ?_
    refine LR.v (Y.assign rfl rfl) (Wd.u rfl) rfl rfl ?_
    refine LR.v (Y.assign rfl rfl) (Wd.u rfl) rfl rfl ?_
    refine LR.nil ?_
    refine hK18 _ _ ?_
    refine CW.seq (fun K19 hK19 hE19 => ?_)
    refine CW.seq (fun K20 hK20 hE20 => ?_)
    refine CW.region ?_
    refine LR.v (Y.move rfl rfl) (Wd.u rfl) rfl rfl ?_
    refine LR.v (Y.gtr rfl rfl rfl) (Wd.u rfl) rfl rfl ?_
    refine LR.nil ?_
    refine hK20 _ _ ?_
    refine CW.condp rfl (fun c44 => ?_) (fun c44 => ?_)
    ·
      refine CW.seq (fun K21 hK21 hE21 => ?_)
      refine CW.region ?_
      refine LR.v (Y.move rfl rfl) (Wd.u rfl) rfl rfl ?_
      refine LR.v ((Y.eql rfl rfl rfl).isT (by rw [if_pos (by omega)])) (Wd.u rfl) rfl rfl ?_
      refine LR.v (Y.move rfl rfl) (Wd.u rfl) rfl rfl ?_
      refine LR.v (Y.move rfl rfl) (Wd.g rfl rfl rfl) rfl rfl ?_
      refine LR.v (Y.len hoe.rd rfl Try.runUnderlying25 rfl) (Wd.g rfl rfl rfl) rfl rfl ?_
      refine LR.v ((Y.eql rfl rfl rfl).isT (by rw [if_pos (by omega)]; rfl)) (Wd.g rfl rfl rfl) rfl rfl ?_
      refine LR.v (Y.pick_t rfl rfl rfl) (Wd.u rfl) rfl rfl ?_
      refine LR.v (Y.assign rfl rfl) (Wd.u rfl) rfl rfl ?_
      refine LR.nil ?_
      refine hK21 _ _ ?_
      refine CW.ret (hE19 .ret nofun _ _ (hret .ret (.inr rfl) _ _ _ (res1 rfl rfl) ?_))
      exact ⟨rfl, hs⟩
    ·
      refine CW.skip ?_
      refine hK19 _ _ ?_
      refine CW.seq (fun K22 hK22 hE22 => ?_)
      refine CW.region ?_
      refine LR.v (Y.move rfl rfl) (Wd.u rfl) rfl rfl ?_
      rw [if_neg (by omega)] at hoe
      refine LR.v ((Y.eql rfl rfl rfl).isT (by rw [if_neg (by omega)])) (Wd.u rfl) rfl rfl ?_
      refine LR.v (Y.move rfl rfl) (Wd.u rfl) rfl rfl ?_
      refine LR.v (Y.move rfl rfl) (Wd.g rfl rfl rfl) rfl rfl ?_
      -- call selvage/selvagelaw12.kept
      refine LR.call rfl Try.call17 rfl (Wd.g rfl rfl rfl) rfl rfl (kept_ct _ _ w0 H40 hoe.rd.any (runs_pos _) (by rw [W_len_eq]; have := W_len (List.replicate i sX) ((List.replicate i sX).set k sY); simp at this; omega)) (fun v56 H56 r56 => ?_)
      obtain ⟨rfl, rfl⟩ := r56
      rw [keptE_script, lcs_set i k sX sY (by omega) (by decide)]
      refine LR.v (Y.move rfl rfl) (Wd.g rfl rfl rfl) rfl rfl ?_
      refine LR.v (Y.subi rfl rfl rfl (by omega)) (Wd.g rfl rfl rfl) rfl rfl ?_
      refine LR.v ((Y.eql rfl rfl rfl).isT (by omega)) (Wd.g rfl rfl rfl) rfl rfl ?_
      refine LR.v (Y.pick_t rfl rfl rfl) (Wd.u rfl) rfl rfl ?_
      refine LR.v (Y.assign rfl rfl) (Wd.u rfl) rfl rfl ?_
      refine LR.nil ?_
      refine hK22 _ _ ?_
      refine CW.ret (hret .ret (.inr rfl) _ _ _ (res1 rfl rfl) ?_)
      exact ⟨rfl, hs⟩

end Go.Proofs.Ytkofoccjnoenlaa.LinF
