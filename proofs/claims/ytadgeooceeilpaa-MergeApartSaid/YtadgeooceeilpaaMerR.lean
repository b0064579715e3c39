/-
  Changes of both sides that stand apart are all taken.
-/
import Derived.Test.YtadgeooceeilpaaMerP
import Derived.Test.YtadgeooceeilpaaMerJ
namespace Go.Proofs.Ytadgeooceeilpaa.MerR
open Go.Proofs.Ytadgeooceeilpaa.E Go.RowKit Go.Proofs.Ytadgeooceeilpaa.LinM Go.Proofs.Ytadgeooceeilpaa.LinA Go.Proofs.Ytadgeooceeilpaa.LinC Go.Proofs.Ytadgeooceeilpaa.LinF Go.Proofs.Ytadgeooceeilpaa.LinL Go.Proofs.Ytadgeooceeilpaa.LinN Go.Proofs.Ytadgeooceeilpaa.MerA Go.Proofs.Ytadgeooceeilpaa.MerB Go.Proofs.Ytadgeooceeilpaa.MerC Go.Proofs.Ytadgeooceeilpaa.MerD Go.Proofs.Ytadgeooceeilpaa.MerE Go.Proofs.Ytadgeooceeilpaa.MerF Go.Proofs.Ytadgeooceeilpaa.MerG Go.Proofs.Ytadgeooceeilpaa.MerH Go.Proofs.Ytadgeooceeilpaa.MerI Go.Proofs.Ytadgeooceeilpaa.MerJ Go.Proofs.Ytadgeooceeilpaa.MerL Go.Proofs.Ytadgeooceeilpaa.MerM Go.Proofs.Ytadgeooceeilpaa.MerP
set_option maxRecDepth 20000
set_option linter.unusedVariables false
set_option linter.unusedSimpArgs false
set_option linter.unusedSectionVars false
set_option maxRecDepth 100000 in
theorem inf32 : Inf Try.prog 32 5 1 1 := ⟨Try.underlying32, _, _, rfl, rfl, rfl, rfl, rfl⟩
set_option maxRecDepth 100000 in
theorem inf46 : Inf Try.prog 46 4 1 1 := ⟨Try.underlying46, _, _, rfl, rfl, rfl, rfl, rfl⟩

theorem countP_eq {p q : Nat → Bool} : ∀ (l : List Nat), (∀ x ∈ l, p x = true → q x = true) → l.countP q ≤ l.countP p → ∀ x ∈ l, q x = true → p x = true
  | [], _, _, x, hx, _ => by cases hx
  | y :: l, h, hc, x, hx, hq => by
    have hm : l.countP p ≤ l.countP q := List.countP_mono_left (fun z hz => h z (List.mem_cons_of_mem _ hz))
    rw [List.countP_cons, List.countP_cons] at hc
    have hy := h y (List.mem_cons_self)
    rcases List.mem_cons.1 hx with rfl | hx
    · by_cases hp : p x = true
      · exact hp
      · rw [if_pos hq, if_neg hp] at hc; omega
    · refine countP_eq l (fun z hz => h z (List.mem_cons_of_mem _ hz)) ?_ x hx hq
      by_cases hp : p y = true
      · rw [if_pos hp, if_pos (hy hp)] at hc; omega
      · rw [if_neg hp] at hc
        split at hc <;> omega
/-- how many lines are kept -/
theorem prt_count : ∀ (ops : List Int) (i : Nat), (∀ o ∈ ops, o = 0 ∨ o = 1 ∨ o = 2) → (prt ops i).countP (fun x => decide (0 ≤ x)) = ops.count 0
  | [], _, _ => rfl
  | o :: ops, i, h => by
    have ih := fun j => prt_count ops j (fun x hx => h x (List.mem_cons_of_mem _ hx))
    rw [prt]
    rcases h o (List.mem_cons_self) with rfl | rfl | rfl
    · rw [if_pos rfl, List.countP_cons, if_pos (by simp), ih, List.count_cons_self]
    · rw [if_neg (by decide), if_neg (by decide), List.countP_cons, if_neg (by decide), ih, List.count_cons_of_ne (by decide), Nat.add_zero]
    · rw [if_neg (by decide), if_pos rfl, ih, List.count_cons_of_ne (by decide)]
theorem parts_count (a b : LL) : (parts a b).countP (fun x => decide (0 ≤ x)) = lcs a b := by
  rw [parts, pfold, prt_fold, List.nil_append, prt_count _ _ (W_mem _ a b (Nat.le_refl _)).2, count_W _ a b (Nat.le_refl _)]
theorem countP_range (l : List Int) (p : Int → Bool) : l.countP p = (List.range l.length).countP (fun k => p (l.getD k (-1))) := by
  have e : l = (List.range l.length).map (fun k => l.getD k (-1)) := by
    apply List.ext_getElem
    · simp
    · intro i h1 h2; simp [List.getD, h1]
  conv => lhs; rw [e, List.countP_map]
  rfl
/-- two texts line by line: what is not changed is kept -/
theorem parts_line {n : Nat} {f g : Nat → List UInt8} (hf : ∀ i j, i < n → j < n → f i = g j → i = j) (k : Nat) (hk : k < n) :
    (f k = g k → (parts ((List.range n).map f) ((List.range n).map g)).getD k 0 = (k : Int)) ∧ (f k ≠ g k → (parts ((List.range n).map f) ((List.range n).map g)).getD k 0 < 0) := by
  have hal := parts_al ((List.range n).map f) ((List.range n).map g)
  have hcount := parts_count ((List.range n).map f) ((List.range n).map g)
  generalize parts ((List.range n).map f) ((List.range n).map g) = P at *
  have hl : P.length = n := by rw [hal.len]; simp
  have val : ∀ k, k < n → P.getD k 0 = -1 ∨ (P.getD k 0 = (k : Int) ∧ f k = g k) := by
    intro k hk
    have e1 : P[k]? = some (P.getD k 0) := by simp [List.getD, hl, hk]
    rcases hal.val k _ e1 with h | ⟨j, h1, h2, h3⟩
    · exact .inl h
    · have hj : j < n := by simpa using h2
      have h4 : f k = g j := by simpa [hk, hj] using h3
      have := hf k j hk hj h4
      subst this
      exact .inr ⟨h1, h4⟩
  have same : ∀ k, k < n → f k = g k → P.getD k 0 = (k : Int) := by
    have hle : (List.range n).countP (fun k => decide (f k = g k)) ≤ (List.range n).countP (fun k => decide (0 ≤ P.getD k (-1))) := by
      rw [← hl, ← countP_range P (fun x => decide (0 ≤ x)), hcount, hl]
      have hs : (((List.range n).filter (fun k => decide (f k = g k))).map f).length ≤ lcs ((List.range n).map f) ((List.range n).map g) := by
        refine lcs_sub (List.Sublist.map f List.filter_sublist) ?_
        have e : ((List.range n).filter (fun k => decide (f k = g k))).map f = ((List.range n).filter (fun k => decide (f k = g k))).map g := List.map_congr_left (fun k hk => by simpa using (List.mem_filter.1 hk).2)
        rw [e]
        exact List.Sublist.map g List.filter_sublist
      rw [List.length_map, ← List.countP_eq_length_filter] at hs
      exact hs
    have hd : ∀ k, k < n → P.getD k (-1) = P.getD k 0 := fun k hk => by simp [List.getD, hl, hk]
    intro k hk he
    have h := countP_eq (p := fun k => decide (0 ≤ P.getD k (-1))) (q := fun k => decide (f k = g k)) (List.range n) (fun x hx hp => by
      have hx := List.mem_range.1 hx
      have hp : 0 ≤ P.getD x (-1) := of_decide_eq_true hp
      rw [hd x hx] at hp
      rcases val x hx with h | h
      · omega
      · exact decide_eq_true h.2) hle k (List.mem_range.2 hk) (decide_eq_true he)
    have h : 0 ≤ P.getD k (-1) := of_decide_eq_true h
    rw [hd k hk] at h
    rcases val k hk with h2 | h2
    · omega
    · exact h2.1
  refine ⟨same k hk, fun hne => ?_⟩
  rcases val k hk with h | h
  · omega
  · exact absurd h.2 hne
/-- a gap's lines, merged -/
theorem addG_rend {cs : List Cn} {b o t d : LL} (hg : ∀ c ∈ cs, GoodC c) (hc : cleanL cs = true) (hk : kindL b o t ≠ 4) (hd : rend1 (kindL b o t, b, o, t) = d.flatten) : cleanL (addG cs b o t) = true ∧ rendL (addG cs b o t) = rendL cs ++ d.flatten := by
  unfold addG addC
  split
  · rename_i h0
    obtain ⟨rfl, rfl, rfl⟩ := z1 h0
    refine ⟨hc, ?_⟩
    rw [show kindL ([] : LL) [] [] = 0 from kind0.2 ⟨rfl, rfl⟩, r1_0 rfl] at hd
    rw [← hd]; simp
  · split
    · refine ⟨?_, by rw [rendL_app]; simp [rendL, hd]⟩
      unfold cleanL at *
      rw [List.all_append, hc]
      simpa using hk
    · rename_i hh
      have hs := snocC (cs := cs) (by omega)
      have k1 : kindL b o t = 0 := by omega
      have k2 : (lastC cs).1 = 0 := by omega
      rw [k1, r1_0 rfl] at hd
      simp only at hd
      have hm : ∀ c ∈ cs.dropLast, c.1 ≠ 4 := fun c h => clean_ne hc c (List.dropLast_subset _ h)
      refine ⟨?_, ?_⟩
      · unfold cleanL
        rw [List.all_append, List.all_eq_true.2 (fun c h => by simpa using hm c h)]
        simp [k2]
      · have one : ∀ c : Cn, rendL [c] = rend1 c := fun c => by simp [rendL]
        have e : rendL cs = rendL cs.dropLast ++ rend1 (lastC cs) := by
          have h9 := rendL_app cs.dropLast [lastC cs]
          rw [hs, one] at h9; exact h9
        rw [rendL_app, e, one, r1_0 k2, r1_0 (c := ((lastC cs).1, (lastC cs).2.1 ++ b, (lastC cs).2.2.1 ++ o, (lastC cs).2.2.2 ++ t)) k2, ← hd]
        simp
theorem gap_ours {b o : LL} : kindL b o b ≠ 4 ∧ rend1 (kindL b o b, b, o, b) = o.flatten := by
  rcases kindL_t (b := b) (o := o) with ⟨h, rfl⟩ | h
  · rw [h]; exact ⟨by decide, r1_0 rfl⟩
  · rw [h]; exact ⟨by decide, r1_1 (.inl rfl)⟩
theorem gap_theirs {b t : LL} : kindL b b t ≠ 4 ∧ rend1 (kindL b b t, b, b, t) = t.flatten := by
  have h1 := gap_ours (b := b) (o := t)
  have e := kind_sw b t b
  by_cases h : b = t
  · subst h; rw [kind0.2 ⟨rfl, rfl⟩]; exact ⟨by decide, r1_0 rfl⟩
  · rw [kd2 h (fun e => h e.symm) rfl]; exact ⟨by decide, r1_2 rfl⟩
theorem sl_range {f : Nat → List UInt8} {n i j : Nat} (hj : j ≤ n) : slL ((List.range n).map f) i j = (List.range' i (j - i)).map f := by
  unfold slL
  rw [← List.map_take, ← List.map_drop]
  congr 1
  apply List.ext_getElem
  · simp; omega
  · intro q h1 h2; simp
theorem sl_congr {f g : Nat → List UInt8} {n i j : Nat} (hj : j ≤ n) (h : ∀ p, i ≤ p → p < j → f p = g p) : slL ((List.range n).map f) i j = slL ((List.range n).map g) i j := by
  rw [sl_range hj, sl_range hj]
  exact List.map_congr_left (fun p hp => by have := List.mem_range'.1 hp; obtain ⟨q, h1, h2⟩ := this; exact h p (by omega) (by omega))
/-- in a run of changed lines only one side's are -/
theorem run_one {o t : Nat → Bool} {n f : Nat} (hT : ∀ k, k < n → t k = true → o k = false ∧ (k = 0 ∨ o (k - 1) = false) ∧ (k + 1 = n ∨ o (k + 1) = false)) : ∀ k, f ≤ k → k ≤ n → (∀ p, f ≤ p → p < k → o p = true ∨ t p = true) → (∀ p, f ≤ p → p < k → t p = false) ∨ (∀ p, f ≤ p → p < k → o p = false) := by
  intro k hk
  induction k with
  | zero => intro _ _; exact .inl (fun p _ h => by omega)
  | succ k ih =>
    intro hn h
    by_cases hf : f = k + 1
    · exact .inl (fun p _ h => by omega)
    · have ih := ih (by omega) (by omega) (fun p h1 h2 => h p h1 (by omega))
      by_cases hfk : f = k
      · subst hfk
        by_cases ht : t f = true
        · right; intro p h1 h2; have : p = f := by omega
          subst this; exact (hT p (by omega) ht).1
        · left; intro p h1 h2; have : p = f := by omega
          subst this; simpa using ht
      · rcases ih with h1 | h1
        · left
          intro p h2 h3
          by_cases hp : p = k
          · subst hp
            by_cases ht : t p = true
            · obtain ⟨_, h4, _⟩ := hT p (by omega) ht
              have h5 := h1 (p - 1) (by omega) (by omega)
              rcases h (p - 1) (by omega) (by omega) with h6 | h6
              · rcases h4 with h4 | h4
                · omega
                · rw [h6] at h4; cases h4
              · rw [h5] at h6; cases h6
            · simpa using ht
          · exact h1 p h2 (by omega)
        · right
          intro p h2 h3
          by_cases hp : p = k
          · subst hp
            by_cases ho : o p = true
            · have h5 := h1 (p - 1) (by omega) (by omega)
              rcases h (p - 1) (by omega) (by omega) with h6 | h6
              · rw [h5] at h6; cases h6
              · obtain ⟨_, _, h7⟩ := hT (p - 1) (by omega) h6
                rw [show p - 1 + 1 = p by omega] at h7
                rcases h7 with h7 | h7
                · omega
                · rw [ho] at h7; cases h7
            · simpa using ho
          · exact h1 p h2 (by omega)
/-- the merge of changes apart -/
theorem apart {n : Nat} {f g h d : Nat → List UInt8} {o t : Nat → Bool} (hT : ∀ k, k < n → t k = true → o k = false ∧ (k = 0 ∨ o (k - 1) = false) ∧ (k + 1 = n ∨ o (k + 1) = false))
    (hg : ∀ i j, i < n → j < n → f i = g j → i = j) (hh : ∀ i j, i < n → j < n → f i = h j → i = j) (go : ∀ k, k < n → (f k = g k ↔ o k = false)) (ht : ∀ k, k < n → (f k = h k ↔ t k = false)) (hd : ∀ k, k < n → d k = if o k = true then g k else h k) :
    cleanL (chunksL ((List.range n).map f) ((List.range n).map g) ((List.range n).map h)) = true ∧ rendL (chunksL ((List.range n).map f) ((List.range n).map g) ((List.range n).map h)) = ((List.range n).map d).flatten := by
  have hP := fun k hk => parts_line hg k hk
  have hQ := fun k hk => parts_line hh k hk
  have gap : ∀ i k, i ≤ k → k ≤ n → (∀ p, i ≤ p → p < k → o p = true ∨ t p = true) → ∀ cs : List Cn, (∀ c ∈ cs, GoodC c) → cleanL cs = true → rendL cs = (((List.range n).map d).take i).flatten →
      cleanL (addG cs (slL ((List.range n).map f) i k) (slL ((List.range n).map g) i k) (slL ((List.range n).map h) i k)) = true ∧ rendL (addG cs (slL ((List.range n).map f) i k) (slL ((List.range n).map g) i k) (slL ((List.range n).map h) i k)) = (((List.range n).map d).take k).flatten := by
    intro i k hik hk hall cs hgc hcl hrd
    have happ := sl_app ((List.range n).map d) hik
    rcases run_one hT k hik hk hall with hno | hno
    · have e1 : slL ((List.range n).map h) i k = slL ((List.range n).map f) i k := sl_congr hk (fun p h1 h2 => ((ht p (by omega)).2 (hno p h1 h2)).symm)
      have e2 : slL ((List.range n).map g) i k = slL ((List.range n).map d) i k := sl_congr hk (fun p h1 h2 => by
        rw [hd p (by omega)]
        rcases hall p h1 h2 with h3 | h3
        · rw [if_pos h3]
        · rw [hno p h1 h2] at h3; cases h3)
      rw [e1]
      obtain ⟨g1, g2⟩ := gap_ours (b := slL ((List.range n).map f) i k) (o := slL ((List.range n).map g) i k)
      obtain ⟨r1, r2⟩ := addG_rend hgc hcl g1 g2
      exact ⟨r1, by rw [r2, e2, hrd, ← List.flatten_append, happ]⟩
    · have e1 : slL ((List.range n).map g) i k = slL ((List.range n).map f) i k := sl_congr hk (fun p h1 h2 => ((go p (by omega)).2 (hno p h1 h2)).symm)
      have e2 : slL ((List.range n).map h) i k = slL ((List.range n).map d) i k := sl_congr hk (fun p h1 h2 => by
        rw [hd p (by omega), if_neg (by rw [hno p h1 h2]; simp)])
      rw [e1]
      obtain ⟨g1, g2⟩ := gap_theirs (b := slL ((List.range n).map f) i k) (t := slL ((List.range n).map h) i k)
      obtain ⟨r1, r2⟩ := addG_rend hgc hcl g1 g2
      exact ⟨r1, by rw [r2, e2, hrd, ← List.flatten_append, happ]⟩
  have good : ∀ (cs : List Cn) (b o t : LL), (∀ c ∈ cs, GoodC c) → ∀ c ∈ addG cs b o t, GoodC c := fun cs b o t hc c hm => (addG_all (R := fun _ _ _ => True) (fun _ => trivial) (fun c h => ⟨hc c h, trivial⟩) trivial c hm).1
  generalize hA : (List.range n).map f = A at *
  generalize hB : (List.range n).map g = B at *
  generalize hC : (List.range n).map h = C at *
  generalize hD : (List.range n).map d = D at *
  have lA : A.length = n := by rw [← hA]; simp
  have lB : B.length = n := by rw [← hB]; simp
  have lC : C.length = n := by rw [← hC]; simp
  have lD : D.length = n := by rw [← hD]; simp
  have key : ∀ k, k ≤ n → let s := chS A B C (parts A B) (parts A C) k; (∀ c ∈ s.1, GoodC c) ∧ cleanL s.1 = true ∧ rendL s.1 = (D.take s.2.1).flatten ∧ s.2.1 ≤ k ∧ s.2.2.1 = s.2.1 ∧ s.2.2.2 = s.2.1 ∧ ∀ p, s.2.1 ≤ p → p < k → o p = true ∨ t p = true := by
    intro k
    induction k with
    | zero => intro _; exact ⟨(fun c hc => by cases hc), rfl, rfl, Nat.le_refl _, rfl, rfl, fun p _ h => by omega⟩
    | succ k ih =>
      intro hk
      obtain ⟨h1, h2, h3, h4, h5, h6, h7⟩ := ih (by omega)
      have pk := hP k (by omega)
      have qk := hQ k (by omega)
      by_cases hng : (parts A B).getD k 0 < 0 ∨ (parts A C).getD k 0 < 0
      · simp only [chS_skip hng]
        refine ⟨h1, h2, h3, by omega, h5, h6, fun p hp1 hp2 => ?_⟩
        by_cases hpk : p = k
        · subst hpk
          rcases hng with hng | hng
          · left
            have : ¬ f p = g p := fun e => by rw [pk.1 e] at hng; omega
            cases ho : o p with
            | true => rfl
            | false => exact absurd ((go p (by omega)).2 ho) this
          · right
            have : ¬ f p = h p := fun e => by rw [qk.1 e] at hng; omega
            cases ho : t p with
            | true => rfl
            | false => exact absurd ((ht p (by omega)).2 ho) this
        · exact h7 p hp1 (by omega)
      · have efg : f k = g k := Decidable.byContradiction (fun hne => hng (.inl (pk.2 hne)))
        have efh : f k = h k := Decidable.byContradiction (fun hne => hng (.inr (qk.2 hne)))
        have ok : o k = false := (go k (by omega)).1 efg
        have tk : t k = false := (ht k (by omega)).1 efh
        simp only [chS_go (pk.1 efg) (qk.1 efh)]
        rw [h5, h6]
        obtain ⟨r1, r2⟩ := gap _ k h4 (by omega) h7 _ h1 h2 h3
        have e1 : slL B k (k + 1) = slL A k (k + 1) := by
          rw [← hA, ← hB]; exact sl_congr (by omega) (fun p h8 h9 => by
            obtain rfl : p = k := by omega
            exact efg.symm)
        have e2 : slL C k (k + 1) = slL A k (k + 1) := by
          rw [← hA, ← hC]; exact sl_congr (by omega) (fun p h8 h9 => by
            obtain rfl : p = k := by omega
            exact efh.symm)
        have e3 : slL A k (k + 1) = slL D k (k + 1) := by
          rw [← hA, ← hD]; exact sl_congr (by omega) (fun p h8 h9 => by
            have : p = k := by omega
            subst this; rw [hd p (by omega), ok]; simpa using efh)
        obtain ⟨g1, g2⟩ := gap_ours (b := slL A k (k + 1)) (o := slL A k (k + 1))
        obtain ⟨q1, q2⟩ := addG_rend (good _ _ _ _ h1) r1 g1 g2
        rw [e1, e2]
        refine ⟨good _ _ _ _ (good _ _ _ _ h1), q1, ?_, Nat.le_refl _, by first | rfl | trivial, by first | rfl | trivial, fun p h8 h9 => by omega⟩
        rw [q2, r2, e3, ← List.flatten_append, sl_app _ (by omega)]
  obtain ⟨h1, h2, h3, h4, h5, h6, h7⟩ := key n (Nat.le_refl _)
  rw [chunksL, chF, lA, h5, h6]
  have e : ∀ (l : LL) (i : Nat), l.length = n → l.drop i = slL l i n := fun l i hl => by unfold slL; rw [List.take_of_length_le (by omega)]
  rw [e A _ lA, e B _ lB, e C _ lC]
  obtain ⟨r1, r2⟩ := gap _ n h4 (Nat.le_refl _) h7 _ h1 h2 h3
  exact ⟨r1, by rw [r2, List.take_of_length_le (by omega)]⟩


abbrev fL (b : Bool) : List Value := [.bool b]
theorem fL_len (b : Bool) : (fL b).length = 1 := rfl
theorem fL_one (b : Bool) : ∀ u ∈ fL b, u.oneCell' = true := by intro u hu; simp only [List.mem_singleton] at hu; subst hu; rfl
def lnB (i : Nat) : List UInt8 := [UInt8.ofNat (65 + i), 10]
abbrev wO : List UInt8 := [111, 117, 114, 115, 32]
abbrev wT : List UInt8 := [116, 104, 101, 105, 114, 115, 32]
def lnO (ol : List Bool) (i : Nat) : List UInt8 := if ol.getD i false = true then wO ++ lnB i else lnB i
def lnT (tl : List Bool) (i : Nat) : List UInt8 := if tl.getD i false = true then wT ++ lnB i else lnB i
def lnD (ol tl : List Bool) (i : Nat) : List UInt8 := if ol.getD i false = true then lnO ol i else lnT tl i
theorem rng_snoc (f : Nat → List UInt8) (i : Nat) : ((List.range (i + 1)).map f).flatten = ((List.range i).map f).flatten ++ f i := by rw [List.range_succ, List.map_append, List.flatten_append]; simp
theorem rng_len (f : Nat → List UInt8) (h : ∀ i, (f i).length ≤ 9) : ∀ n, ((List.range n).map f).flatten.length ≤ 9 * n
  | 0 => by simp
  | n + 1 => by rw [rng_snoc, List.length_append]; have := rng_len f h n; have := h n; omega
theorem u8_lt {i : Nat} (h : i < 30) : (UInt8.ofNat (65 + i)).toNat = 65 + i := by rw [UInt8.toNat_ofNat']; omega
theorem lnB_inj {i j : Nat} (hi : i < 30) (hj : j < 30) (h : lnB i = lnB j) : i = j := by
  simp only [lnB, List.cons.injEq, and_true] at h
  have := congrArg UInt8.toNat h
  rw [u8_lt hi, u8_lt hj] at this; omega
theorem lnB_eol {i : Nat} (hi : i < 30) (w : List UInt8) (hw : (10 : UInt8) ∉ w) : Eol (w ++ lnB i) := by
  refine ⟨w ++ [UInt8.ofNat (65 + i)], by simp [lnB], fun h => ?_⟩
  rcases List.mem_append.1 h with h | h
  · exact hw h
  · rw [List.mem_singleton] at h
    have := congrArg UInt8.toNat h
    rw [u8_lt hi] at this
    have h10 : (10 : UInt8).toNat = 10 := rfl
    omega
theorem lnO_eol {ol : List Bool} {i : Nat} (hi : i < 30) : Eol (lnO ol i) := by
  unfold lnO
  split
  · exact lnB_eol hi _ (by decide)
  · exact lnB_eol hi [] (by decide)
theorem lnT_eol {ol : List Bool} {i : Nat} (hi : i < 30) : Eol (lnT ol i) := by
  unfold lnT
  split
  · exact lnB_eol hi _ (by decide)
  · exact lnB_eol hi [] (by decide)
theorem lnO_inj {ol : List Bool} {i j : Nat} (hi : i < 30) (hj : j < 30) (h : lnB i = lnO ol j) : i = j := by
  unfold lnO at h
  split at h
  · have := congrArg List.length h; simp [lnB] at this
  · exact lnB_inj hi hj h
theorem lnT_inj {ol : List Bool} {i j : Nat} (hi : i < 30) (hj : j < 30) (h : lnB i = lnT ol j) : i = j := by
  unfold lnT at h
  split at h
  · have := congrArg List.length h; simp [lnB] at this
  · exact lnB_inj hi hj h
theorem lnO_iff {ol : List Bool} {k : Nat} : lnB k = lnO ol k ↔ ol.getD k false = false := by
  unfold lnO
  split
  · rename_i h; rw [h]; simp [lnB]
  · rename_i h; simpa using h
theorem lnT_iff {ol : List Bool} {k : Nat} : lnB k = lnT ol k ↔ ol.getD k false = false := by
  unfold lnT
  split
  · rename_i h; rw [h]; simp [lnB]
  · rename_i h; simpa using h
theorem rng_eol {f : Nat → List UInt8} {n : Nat} (h : ∀ i, i < n → Eol (f i)) : ∀ s ∈ (List.range n).map f, Eol s := fun s hs => by
  obtain ⟨i, hi, rfl⟩ := List.mem_map.1 hs
  exact h i (List.mem_range.1 hi)
/-- what of theirs stands apart -/
def TA (n : Nat) (ol tl : List Bool) : Prop := ∀ k, k < n → tl.getD k false = true → ol.getD k false = false ∧ (k = 0 ∨ ol.getD (k - 1) false = false) ∧ (k + 1 = n ∨ ol.getD (k + 1) false = false)
theorem ta_set {n q : Nat} {ol tl : List Bool} (h : TA n ol tl) (h1 : ol.getD q false = false) (h2 : q = 0 ∨ ol.getD (q - 1) false = false) (h3 : q + 1 = n ∨ ol.getD (q + 1) false = false) : TA n ol (tl.set q true) := by
  intro k hk ht
  by_cases e : k = q
  · subst e; exact ⟨h1, h2, h3⟩
  · refine h k hk ?_
    simp only [List.getD] at ht ⊢
    rwa [List.getElem?_set_ne (by omega)] at ht
theorem apart_merge {n : Nat} {ol tl : List Bool} (hn : n ≤ 30) (hT : TA n ol tl) : cleanL (mchL ((List.range n).map lnB).flatten ((List.range n).map (lnO ol)).flatten ((List.range n).map (lnT tl)).flatten) = true ∧ rendL (mchL ((List.range n).map lnB).flatten ((List.range n).map (lnO ol)).flatten ((List.range n).map (lnT tl)).flatten) = ((List.range n).map (lnD ol tl)).flatten := by
  have e1 := rng_eol (f := lnB) (n := n) (fun i hi => lnB_eol (by omega) [] (by decide))
  have e2 := rng_eol (f := lnO ol) (n := n) (fun i hi => lnO_eol (by omega))
  have e3 := rng_eol (f := lnT tl) (n := n) (fun i hi => lnT_eol (by omega))
  rw [mch_eol e1 e2 e3]
  exact apart (o := fun k => ol.getD k false) (t := fun k => tl.getD k false) hT (fun i j hi hj => lnO_inj (by omega) (by omega)) (fun i j hi hj => lnT_inj (by omega) (by omega)) (fun k _ => lnO_iff) (fun k _ => lnT_iff) (fun k _ => rfl)
theorem split_rng {f : Nat → List UInt8} {n : Nat} (hn : n ≤ 30) (h : ∀ i, i < n → Eol (f i)) : (splitL [] ((List.range n).map f).flatten).length ≤ 4000 := by rw [split_eol _ (rng_eol h)]; simp; omega
theorem lnO_len (ol : List Bool) (i : Nat) : (lnO ol i).length ≤ 9 := by unfold lnO; split <;> simp [lnB]
theorem lnT_len (ol : List Bool) (i : Nat) : (lnT ol i).length ≤ 9 := by unfold lnT; split <;> simp [lnB]
theorem lnD_len (ol tl : List Bool) (i : Nat) : (lnD ol tl i).length ≤ 9 := by unfold lnD; split; exact lnO_len _ _; exact lnT_len _ _
theorem gdB {l : List Bool} {i : Nat} (h : i < l.length) : l.getD i false = l[i] := by simp [List.getD, h]

theorem within_ct (at0 n : Int) (w0 : World) (H0 : Heap)
    (hn : 0 < n) (hn2 : n ≤ 1099511627776) :
    Ct Try.prog w0 22 #[.int .i64 at0, .int .i64 n] H0 (fun r H2 => r = .int .i64 (at0 % n) ∧ Nw H0 H2) := by
  refine Ct.enter (args := [.int .i64 at0, .int .i64 n]) Try.func22 rfl rfl rfl ?_
  intro Q0 hret
  have hm0 : Nw H0 H0 := Mo.refl _ _
  have h1 := Int.emod_nonneg at0 (show n ≠ 0 by omega)
  have h2 := Int.emod_lt_of_pos at0 hn
  have h3 : at0.tmod n = at0 % n ∨ at0.tmod n + n = at0 % n ∧ at0.tmod n < 0 := by
    rw [Int.tmod_eq_emod]
    split
    · left; omega
    · rename_i hh; right; have := Int.natAbs_of_nonneg (show 0 ≤ n by omega); omega
  refine CW.seq (fun K1 hK1 hE1 => ?_)
  refine CW.region ?_
  refine LR.v (Y.assign rfl rfl) (Wd.u rfl) rfl rfl ?_
  refine LR.nil ?_
  refine hK1 _ _ ?_
  refine CW.seq (fun K2 hK2 hE2 => ?_)
  refine CW.region ?_
  refine LR.v (Y.move rfl rfl) (Wd.u rfl) rfl rfl ?_
  refine LR.v (Y.move rfl rfl) (Wd.u rfl) rfl rfl ?_
  refine LR.v (Y.rem rfl rfl rfl (by omega)) (Wd.u rfl) rfl rfl ?_
  refine LR.v (Y.assign rfl rfl) (Wd.u rfl) rfl rfl ?_
  refine LR.nil ?_
  refine hK2 _ _ ?_
  refine CW.seq (fun K3 hK3 hE3 => ?_)
  refine CW.seq (fun K4 hK4 hE4 => ?_)
  refine CW.region ?_
  refine LR.v (Y.move rfl rfl) (Wd.u rfl) rfl rfl ?_
  refine LR.v (Y.lss rfl rfl rfl) (Wd.u rfl) rfl rfl ?_
  refine LR.nil ?_
  refine hK4 _ _ ?_
  refine CW.condp rfl (fun c10 => ?_) (fun c10 => ?_)
  ·
    refine CW.region ?_
    refine LR.v (Y.move rfl rfl) (Wd.u rfl) rfl rfl ?_
    refine LR.v (Y.move rfl rfl) (Wd.u rfl) rfl rfl ?_
    refine LR.v (Y.addi rfl rfl rfl (by omega)) (Wd.u rfl) rfl rfl ?_
    refine LR.v (Y.assign rfl rfl) (Wd.u rfl) rfl rfl ?_
    refine LR.nil ?_
    refine hK3 _ _ ?_
    refine CW.seq (fun K5 hK5 hE5 => ?_)
    refine CW.region ?_
    refine LR.v (Y.move rfl rfl) (Wd.u rfl) rfl rfl ?_
    refine LR.v (Y.assign rfl rfl) (Wd.u rfl) rfl rfl ?_
    refine LR.nil ?_
    refine hK5 _ _ ?_
    refine CW.ret (hret .ret (.inr rfl) _ _ _ (res1 rfl rfl) ?_)
    exact ⟨by exact ivv (by omega), hm0⟩
  ·
    refine CW.skip ?_
    refine hK3 _ _ ?_
    refine CW.seq (fun K6 hK6 hE6 => ?_)
    refine CW.region ?_
    refine LR.v (Y.move rfl rfl) (Wd.u rfl) rfl rfl ?_
    refine LR.v (Y.assign rfl rfl) (Wd.u rfl) rfl rfl ?_
    refine LR.nil ?_
    refine hK6 _ _ ?_
    refine CW.ret (hret .ret (.inr rfl) _ _ _ (res1 rfl rfl) ?_)
    exact ⟨by exact ivv (by omega), hm0⟩

set_option maxHeartbeats 8000000 in
theorem mergeApart_ct (v2 v3 : Value) (n0 : Int) (xs ys : List Int) (w0 : World) (H0 : Heap)
    (hx : RdT H0 fI 1 v2 xs) (hy : RdT H0 fI 1 v3 ys) :
    Ct Try.prog w0 7 #[.int .i64 n0, v2, v3] H0 (fun r H2 => r = .bool true ∧ Nw H0 H2) := by
  refine Ct.enter (args := [.int .i64 n0, v2, v3]) Try.func7 rfl rfl rfl ?_
  intro Q0 hret
  have hm0 : Nw H0 H0 := Mo.refl _ _
  replace hx := hx.bnd
  have bf_hx := Rd.bf hx
  replace hy := hy.bnd
  have bf_hy := Rd.bf hy
  have hxl := hx.len
  have hyl := hy.len
  refine CW.seq (fun K1 hK1 hE1 => ?_)
  refine CW.region ?_
  refine LR.v (Y.assign rfl rfl) (Wd.u rfl) rfl rfl ?_
  refine LR.nil ?_
  refine hK1 _ _ ?_
  refine CW.seq (fun K2 hK2 hE2 => ?_)
  refine CW.seq (fun K3 hK3 hE3 => ?_)
  refine CW.region ?_
  -- call selvage/selvagelaw14.known
  refine LR.call rfl Try.call10 rfl (Wd.u rfl) rfl rfl (known_ct w0 _) (fun v24 H24 r24 => ?_)
  obtain ⟨rfl, hs24⟩ := r24
  replace hx := hx.nw hs24
  replace hy := hy.nw hs24
  replace hm0 := hm0.tr hs24
  have hz1 := hs24.size
  refine LR.v (Y.not rfl rfl) (Wd.u rfl) rfl rfl ?_
  refine LR.nil ?_
  refine hK3 _ _ ?_
  refine CW.cond_f rfl ?_
  refine CW.skip ?_
  refine hK2 _ _ ?_
  refine CW.seq (fun K4 hK4 hE4 => ?_)
  refine CW.region ?_
  refine LR.v (Y.move rfl rfl) (Wd.u rfl) rfl rfl ?_
  -- call selvage/selvagelaw14.within
  refine LR.call rfl Try.call22 rfl (Wd.u rfl) rfl rfl (within_ct n0 30 w0 _ (by decide) (by decide)) (fun v27 H27 r27 => ?_)
  obtain ⟨rfl, hs27⟩ := r27
  replace hx := hx.nw hs27
  replace hy := hy.nw hs27
  replace hm0 := hm0.tr hs27
  have hz2 := hs27.size
  obtain ⟨m, hm, hm1, hm2⟩ : ∃ m : Nat, 1 + n0 % 30 = m ∧ 1 ≤ m ∧ m ≤ 30 := ⟨(1 + n0 % 30).toNat, by omega, by omega, by omega⟩
  refine LR.v (Y.cast (v2 := .int .i64 m) (Y.addi rfl rfl rfl (by omega)) (ivv hm)) (Wd.u rfl) rfl rfl ?_
  refine LR.v (Y.assign rfl rfl) (Wd.u rfl) rfl rfl ?_
  refine LR.nil ?_
  refine hK4 _ _ ?_
  refine CW.seq (fun K5 hK5 hE5 => ?_)
  refine CW.region ?_
  refine LR.v (Y.move rfl rfl) (Wd.u rfl) rfl rfl ?_
  refine LR.z (Z.makew (m) (false) rfl inf46 Try.zeroValue4 rfl fL_len fL_one rfl rfl (by first | rfl | omega) (by omega) (by omega)) (Wd.u rfl) rfl rfl (fun v30 H30 r30 => ?_)
  obtain ⟨oo, hs30, ob30, hH30⟩ := r30
  have hzs30 : H30.size = H27.size + 1 := by rw [hH30]; simp
  have df1 := (DF.new (bf_hx.mono hm0.size) : DF _ (H27.size + 1))
  have df2 := (DF.new (bf_hy.mono hm0.size) : DF _ (H27.size + 1))
  have nx3 : Nx 0 H0.size (H27.size + 1) := Nx.new hm0.size
  replace hx := hx.nw hs30
  replace hy := hy.nw hs30
  replace hm0 := hm0.tr hs30
  have hz3 := hs30.size
  refine LR.v (Y.assign rfl rfl) (Wd.u rfl) rfl rfl ?_
  refine LR.nil ?_
  refine hK5 _ _ ?_
  refine CW.seq (fun K6 hK6 hE6 => ?_)
  refine CW.region ?_
  refine LR.v (Y.move rfl rfl) (Wd.u rfl) rfl rfl ?_
  refine LR.z (Z.makew (m) (false) rfl inf46 Try.zeroValue4 rfl fL_len fL_one rfl rfl (by first | rfl | omega) (by omega) (by omega)) (Wd.u rfl) rfl rfl (fun v32 H32 r32 => ?_)
  obtain ⟨ot, hs32, ob32, hH32⟩ := r32
  have hzs32 : H32.size = H30.size + 1 := by rw [hH32]; simp
  have df4 := (DF.new (bf_hx.mono hm0.size) : DF _ (H30.size + 1))
  have df5 := (DF.new (bf_hy.mono hm0.size) : DF _ (H30.size + 1))
  have dj6 : Dj (H27.size + 1) (H30.size + 1) := Dj.new oo.le
  have nx7 : Nx 0 H0.size (H30.size + 1) := Nx.new hm0.size
  replace hx := hx.nw hs32
  replace hy := hy.nw hs32
  replace oo := oo.nw hs32
  replace hm0 := hm0.tr hs32
  have hz4 := hs32.size
  skip
  refine LR.v (Y.assign rfl rfl) (Wd.u rfl) rfl rfl ?_
  refine LR.nil ?_
  refine hK6 _ _ ?_
  refine CW.cut (fun (ol : (List Bool)) => [(0, .int .i64 m), (2, v3), (7, v30), (8, v32)])
    (fun (ol : (List Bool)) (H : Heap) => (Ow (H27.size + 1) 4 H fL 1 v30 ol) ∧ (ol.length = m) ∧ (Nx (H27.size + 1) H32.size ((H27.size + 1))) ∧ Mo (Ms [(H27.size + 1)]) H32 H) (fun K7 hK7 hE7 => ?_) ?_
  ·
    have hcm7 : Mo (Ms [(H27.size + 1)]) H32 H32 := Mo.refl _ _
    have nx_hcm7_oo := Nx.refl (H27.size + 1) H32.size
    refine CW.seq (fun K8 hK8 hE8 => ?_)
    refine CW.region ?_
    refine LR.v (Y.assign rfl rfl) (Wd.u rfl) rfl rfl ?_
    refine LR.nil ?_
    refine hK8 _ _ ?_
    refine CW.block (fun K9 hK9 hX9 hE9 => ?_)
    refine CW.loop (fun (s_ : (Nat) × (List Bool)) => match s_ with | (i, ol) => [(0, .int .i64 m), (1, v2), (2, v3), (7, v30), (8, v32), (9, .int .i64 i)])
      (fun (s_ : (Nat) × (List Bool)) (H : Heap) => match s_ with | (i, ol) => (i ≤ xs.length) ∧ (Ow (H27.size + 1) 4 H fL 1 v30 ol) ∧ (ol.length = m) ∧ (Nx (H27.size + 1) H32.size ((H27.size + 1))) ∧ Mo (Ms [(H27.size + 1)]) H32 H)
      (fun (s_ : (Nat) × (List Bool)) => match s_ with | (i, ol) => xs.length - i) (0, List.replicate m false) ⟨rfl, rfl, rfl, rfl, rfl, rfl, trivial⟩ ?_ ?_
    ·
      exact ⟨(by omega), oo, (by simp), Nx.refl _ _, Mo.refl _ _⟩
    rintro ⟨i, ol⟩ HL1 hI1 K10 hN10 hE10
    obtain ⟨hi, oo, hol, nxl_oo, hlm1⟩ := hI1
    have df8 := DF.app (df1) (bf_hx.mono hm0.size) nxl_oo
    have df9 := DF.app (df2) (bf_hy.mono hm0.size) nxl_oo
    have dj10 : Dj (H30.size + 1) ((H27.size + 1)) := Dj.app (dj6.symm) ot.le nxl_oo
    have nx11 : Nx 0 H0.size ((H27.size + 1)) := Nx.tr (nx3) nxl_oo hm0.size
    have nx12 : Nx (H27.size + 1) H32.size ((H27.size + 1)) := Nx.tr (nx_hcm7_oo) nxl_oo hcm7.size
    replace hx := hx.upL hlm1 (DFL.cons df1 DFL.nil)
    replace hy := hy.upL hlm1 (DFL.cons df2 DFL.nil)
    replace ot := ot.upL hlm1 (DL.cons dj6.symm DL.nil)
    replace hm0 := (Mo.trL (ks := []) (hm0.mdn []) hlm1 (MIL.cons (MI.app MI.z (nx3) (Nat.le_refl _)) MIL.nil)).nil
    replace hcm7 := hcm7.trL hlm1 (MIL.cons (MI.app (MI.root (by simp)) (nx_hcm7_oo) (Nat.le_refl _)) MIL.nil)
    have hz5 := hlm1.size
    have hle_oo := oo.le
    have nx13 := nxl_oo
    refine CW.seq (fun K11 hK11 hE11 => ?_)
    refine CW.seq (fun K12 hK12 hE12 => ?_)
    refine CW.region ?_
    refine LR.v (Y.move rfl rfl) (Wd.u rfl) rfl rfl ?_
    refine LR.v (Y.move rfl rfl) (Wd.u rfl) rfl rfl ?_
    refine LR.v (Y.len hx rfl Try.runUnderlying44 rfl) (Wd.u rfl) rfl rfl ?_
    refine LR.v (Y.lss rfl rfl rfl) (Wd.u rfl) rfl rfl ?_
    refine LR.v (Y.move rfl rfl) (Wd.u rfl) rfl rfl ?_
    refine LR.splitp (d := 37) rfl (fun g37 => ?_) (fun g37 => ?_)
    ·
      refine LR.v (Y.move rfl rfl) (Wd.g rfl rfl rfl) rfl rfl ?_
      refine LR.v (Y.lss rfl rfl rfl) (Wd.g rfl rfl rfl) rfl rfl ?_
      refine LR.v (Y.pick_t rfl rfl rfl) (Wd.u rfl) rfl rfl ?_
      refine LR.nil ?_
      refine hK12 _ _ ?_
      refine CW.condp rfl (fun c40 => ?_) (fun c40 => ?_)
      ·
        refine CW.skip ?_
        refine hK11 _ _ ?_
        refine CW.seq (fun K13 hK13 hE13 => ?_)
        refine CW.block (fun K14 hK14 hX14 hE14 => ?_)
        refine CW.region ?_
        refine LR.v (Y.move rfl rfl) (Wd.u rfl) rfl rfl ?_
        refine LR.v (Y.move rfl rfl) (Wd.u rfl) rfl rfl ?_
        refine LR.v (Y.move rfl rfl) (Wd.u rfl) rfl rfl ?_
        refine LR.e (g := fun ad => .pointer (some ad)) (Y.indexAddrF hx (i) rfl Try.runUnderlying44 Try.sizeOf3 rfl rfl (by first | rfl | omega) (by first | omega | (simp; omega) | (simp; done))) (Wd.u rfl) rfl rfl (fun ad46 pt46 => ?_)
        have bf_pt46 := bf_hx
        refine LR.v (Y.load1 pt46.pt rfl Try.isAgg3 rfl) (Wd.u rfl) rfl rfl ?_
        refine LR.v (Y.move rfl rfl) (Wd.u rfl) rfl rfl ?_
        -- call selvage/selvagelaw14.within
        refine LR.call rfl Try.call22 rfl (Wd.u rfl) rfl rfl (within_ct xs[i] m w0 _ (by omega) (by omega)) (fun v49 H49 r49 => ?_)
        obtain ⟨rfl, hs49⟩ := r49
        replace hx := hx.nw hs49
        replace hy := hy.nw hs49
        replace oo := oo.nw hs49
        replace ot := ot.nw hs49
        replace pt46 := pt46.nw hs49
        replace hm0 := hm0.tr hs49
        replace hcm7 := hcm7.trN hs49
        replace hlm1 := hlm1.trN hs49
        have hz6 := hs49.size
        obtain ⟨q, hq, hqm⟩ : ∃ q : Nat, xs[i] % (m : Int) = q ∧ q < m := ⟨(xs[i] % (m : Int)).toNat, by have := Int.emod_nonneg xs[i] (show (m : Int) ≠ 0 by omega); omega, by have := Int.emod_nonneg xs[i] (show (m : Int) ≠ 0 by omega); have := Int.emod_lt_of_pos xs[i] (show (0 : Int) < m by omega); omega⟩
        refine LR.v (Y.owAddr oo (q) rfl Try.runUnderlying46 Try.sizeOf4 rfl rfl hq (by first | omega | (simp; omega) | (simp; done))) (Wd.u rfl) rfl rfl ?_
        refine LR.s (S.oww oo (q) 0 (true) rfl rfl rfl rfl Try.sizeOf4 (by first | omega | (simp; omega) | (simp; done)) (by decide) (rfl)) (Wd.u rfl) rfl (fun H9_8 r9_8 => ?_)
        obtain ⟨oo, hs9_8⟩ := r9_8
        replace hs9_8 := hs9_8.md
        replace hx := hx.upL hs9_8 (DFL.cons df8 DFL.nil)
        replace hy := hy.upL hs9_8 (DFL.cons df9 DFL.nil)
        replace ot := ot.upL hs9_8 (DL.cons dj10 DL.nil)
        replace pt46 := pt46.upL hs9_8 (DFL.cons df8 DFL.nil)
        replace hm0 := (Mo.trL (ks := []) (hm0.mdn []) hs9_8 (MIL.cons (MI.app MI.z (nx11) (Nat.le_refl _)) MIL.nil)).nil
        replace hcm7 := hcm7.trL hs9_8 (MIL.cons (MI.app (MI.root (by simp)) (nx12) (Nat.le_refl _)) MIL.nil)
        replace hlm1 := hlm1.trL hs9_8 (MIL.cons (MI.app (MI.root (by simp)) (nx13) (Nat.le_refl _)) MIL.nil)
        have hz7 := hs9_8.size
        refine LR.nil ?_
        refine hK14 _ _ ?_
        refine hK13 _ _ ?_
        refine CW.region ?_
        refine LR.v (Y.move rfl rfl) (Wd.u rfl) rfl rfl ?_
        refine LR.v (Y.addi rfl rfl rfl (by omega)) (Wd.u rfl) rfl rfl ?_
        refine LR.v (Y.assign rfl rfl) (Wd.u rfl) rfl rfl ?_
        refine LR.nil ?_
        refine QN.sub (hN10 (i + 1, ol.set q true) _ ?_ ?_) ⟨(iv (by omega)), rfl, rfl, rfl, rfl, (iv (by omega)), trivial⟩
        · exact ⟨(by omega), oo, (by simp [hol]), nx13, hlm1⟩
        · first | omega | (simp only; omega) | (simp; omega)
      ·
        refine CW.exit (hE11 (.exit 0) nofun _ _ (hE10 (.exit 0) nofun _ _ (hX9 _ _ ?_)))
        refine QN.sub (hK7 ol _ ?_) ⟨(iv (by omega)), rfl, rfl, rfl, trivial⟩
        exact ⟨oo, hol, nx12, hcm7⟩
    ·
      refine LR.gs rfl rfl rfl rfl rfl rfl ?_
      refine LR.gs rfl rfl rfl rfl rfl rfl ?_
      refine LR.v (Y.pick_f rfl rfl rfl) (Wd.u rfl) rfl rfl ?_
      refine LR.nil ?_
      refine hK12 _ _ ?_
      refine CW.cond_f rfl ?_
      refine CW.exit (hE11 (.exit 0) nofun _ _ (hE10 (.exit 0) nofun _ _ (hX9 _ _ ?_)))
      refine QN.sub (hK7 ol _ ?_) ⟨(iv (by omega)), rfl, rfl, rfl, trivial⟩
      exact ⟨oo, hol, nx12, hcm7⟩
  ·
    intro ol Hcut0 hIcut0
    obtain ⟨oo, hol, nxl_oo, hlmcut0⟩ := hIcut0
    have df14 := DF.app (df1) (bf_hx.mono hm0.size) nxl_oo
    have df15 := DF.app (df2) (bf_hy.mono hm0.size) nxl_oo
    have dj16 : Dj (H30.size + 1) ((H27.size + 1)) := Dj.app (dj6.symm) ot.le nxl_oo
    have nx17 : Nx 0 H0.size ((H27.size + 1)) := Nx.tr (nx3) nxl_oo hm0.size
    replace hx := hx.upL hlmcut0 (DFL.cons df1 DFL.nil)
    replace hy := hy.upL hlmcut0 (DFL.cons df2 DFL.nil)
    replace ot := ot.upL hlmcut0 (DL.cons dj6.symm DL.nil)
    replace hm0 := (Mo.trL (ks := []) (hm0.mdn []) hlmcut0 (MIL.cons (MI.app MI.z (nx3) (Nat.le_refl _)) MIL.nil)).nil
    have hz8 := hlmcut0.size
    have hle_oo := oo.le
    have nx18 := nxl_oo
    refine CW.cut (fun (tl : (List Bool)) => [(0, .int .i64 m), (7, v30), (8, v32)])
      (fun (tl : (List Bool)) (H : Heap) => (Ow (H30.size + 1) 4 H fL 1 v32 tl) ∧ (tl.length = m) ∧ (TA m ol tl) ∧ (Nx (H30.size + 1) Hcut0.size ((H30.size + 1))) ∧ Mo (Ms [(H30.size + 1)]) Hcut0 H) (fun K15 hK15 hE15 => ?_) ?_
    ·
      have hcm15 : Mo (Ms [(H30.size + 1)]) Hcut0 Hcut0 := Mo.refl _ _
      have nx_hcm15_ot := Nx.refl (H30.size + 1) Hcut0.size
      refine CW.seq (fun K16 hK16 hE16 => ?_)
      refine CW.region ?_
      refine LR.v (Y.assign rfl rfl) (Wd.u rfl) rfl rfl ?_
      refine LR.nil ?_
      refine hK16 _ _ ?_
      refine CW.block (fun K17 hK17 hX17 hE17 => ?_)
      refine CW.loop (fun (s_ : (Nat) × (List Bool)) => match s_ with | (i, tl) => [(0, .int .i64 m), (2, v3), (7, v30), (8, v32), (10, .int .i64 i)])
        (fun (s_ : (Nat) × (List Bool)) (H : Heap) => match s_ with | (i, tl) => (i ≤ ys.length) ∧ (Ow (H30.size + 1) 4 H fL 1 v32 tl) ∧ (tl.length = m) ∧ (TA m ol tl) ∧ (Nx (H30.size + 1) Hcut0.size ((H30.size + 1))) ∧ Mo (Ms [(H30.size + 1)]) Hcut0 H)
        (fun (s_ : (Nat) × (List Bool)) => match s_ with | (i, tl) => ys.length - i) (0, List.replicate m false) ⟨rfl, rfl, rfl, rfl, rfl, trivial⟩ ?_ ?_
      ·
        exact ⟨(by omega), ot, (by simp), (fun k hk h => by simp [List.getD, hk] at h), Nx.refl _ _, Mo.refl _ _⟩
      rintro ⟨i, tl⟩ HL2 hI2 K18 hN18 hE18
      obtain ⟨hi, ot, htl, hT, nxl_ot, hlm2⟩ := hI2
      have df19 := DF.app (df4) (bf_hx.mono hm0.size) nxl_ot
      have df20 := DF.app (df5) (bf_hy.mono hm0.size) nxl_ot
      have dj21 : Dj ((H27.size + 1)) ((H30.size + 1)) := Dj.app (dj16.symm) oo.le nxl_ot
      have nx22 : Nx 0 H0.size ((H30.size + 1)) := Nx.tr (nx7) nxl_ot hm0.size
      have nx23 : Nx (H30.size + 1) Hcut0.size ((H30.size + 1)) := Nx.tr (nx_hcm15_ot) nxl_ot hcm15.size
      replace hx := hx.upL hlm2 (DFL.cons df4 DFL.nil)
      replace hy := hy.upL hlm2 (DFL.cons df5 DFL.nil)
      replace oo := oo.upL hlm2 (DL.cons dj16.symm DL.nil)
      replace hm0 := (Mo.trL (ks := []) (hm0.mdn []) hlm2 (MIL.cons (MI.app MI.z (nx7) (Nat.le_refl _)) MIL.nil)).nil
      replace hcm15 := hcm15.trL hlm2 (MIL.cons (MI.app (MI.root (by simp)) (nx_hcm15_ot) (Nat.le_refl _)) MIL.nil)
      have hz9 := hlm2.size
      have hle_ot := ot.le
      have nx24 := nxl_ot
      refine CW.seq (fun K19 hK19 hE19 => ?_)
      refine CW.seq (fun K20 hK20 hE20 => ?_)
      refine CW.region ?_
      refine LR.v (Y.move rfl rfl) (Wd.u rfl) rfl rfl ?_
      refine LR.v (Y.move rfl rfl) (Wd.u rfl) rfl rfl ?_
      refine LR.v (Y.len hy rfl Try.runUnderlying44 rfl) (Wd.u rfl) rfl rfl ?_
      refine LR.v (Y.lss rfl rfl rfl) (Wd.u rfl) rfl rfl ?_
      refine LR.v (Y.move rfl rfl) (Wd.u rfl) rfl rfl ?_
      refine LR.splitp (d := 55) rfl (fun g55 => ?_) (fun g55 => ?_)
      ·
        refine LR.v (Y.move rfl rfl) (Wd.g rfl rfl rfl) rfl rfl ?_
        refine LR.v (Y.lss rfl rfl rfl) (Wd.g rfl rfl rfl) rfl rfl ?_
        refine LR.v (Y.pick_t rfl rfl rfl) (Wd.u rfl) rfl rfl ?_
        refine LR.nil ?_
        refine hK20 _ _ ?_
        refine CW.condp rfl (fun c58 => ?_) (fun c58 => ?_)
        ·
          refine CW.skip ?_
          refine hK19 _ _ ?_
          refine CW.seq (fun K21 hK21 hE21 => ?_)
          refine CW.block (fun K22 hK22 hX22 hE22 => ?_)
          refine CW.seq (fun K23 hK23 hE23 => ?_)
          refine CW.region ?_
          refine LR.v (Y.move rfl rfl) (Wd.u rfl) rfl rfl ?_
          refine LR.v (Y.move rfl rfl) (Wd.u rfl) rfl rfl ?_
          refine LR.e (g := fun ad => .pointer (some ad)) (Y.indexAddrF hy (i) rfl Try.runUnderlying44 Try.sizeOf3 rfl rfl (by first | rfl | omega) (by first | omega | (simp; omega) | (simp; done))) (Wd.u rfl) rfl rfl (fun ad63 pt63 => ?_)
          have bf_pt63 := bf_hy
          refine LR.v (Y.load1 pt63.pt rfl Try.isAgg3 rfl) (Wd.u rfl) rfl rfl ?_
          refine LR.v (Y.move rfl rfl) (Wd.u rfl) rfl rfl ?_
          -- call selvage/selvagelaw14.within
          refine LR.call rfl Try.call22 rfl (Wd.u rfl) rfl rfl (within_ct ys[i] m w0 _ (by omega) (by omega)) (fun v66 H66 r66 => ?_)
          obtain ⟨rfl, hs66⟩ := r66
          replace hx := hx.nw hs66
          replace hy := hy.nw hs66
          replace oo := oo.nw hs66
          replace ot := ot.nw hs66
          replace pt63 := pt63.nw hs66
          replace hm0 := hm0.tr hs66
          replace hcm15 := hcm15.trN hs66
          replace hlm2 := hlm2.trN hs66
          have hz10 := hs66.size
          obtain ⟨q, hq, hqm⟩ : ∃ q : Nat, ys[i] % (m : Int) = q ∧ q < m := ⟨(ys[i] % (m : Int)).toNat, by have := Int.emod_nonneg ys[i] (show (m : Int) ≠ 0 by omega); omega, by have := Int.emod_nonneg ys[i] (show (m : Int) ≠ 0 by omega); have := Int.emod_lt_of_pos ys[i] (show (0 : Int) < m by omega); omega⟩
          refine LR.v (Y.cast (v2 := .int .i64 q) (Y.assign rfl rfl) (ivv hq)) (Wd.u rfl) rfl rfl ?_
          refine LR.nil ?_
          refine hK23 _ _ ?_
          refine CW.seq (fun K24 hK24 hE24 => ?_)
          refine CW.region ?_
          refine LR.v (Y.move rfl rfl) (Wd.u rfl) rfl rfl ?_
          refine LR.v (Y.move rfl rfl) (Wd.u rfl) rfl rfl ?_
          refine LR.v (Y.owAddr oo (q) rfl Try.runUnderlying46 Try.sizeOf4 rfl rfl (by first | rfl | omega) (by first | omega | (simp; omega) | (simp; done))) (Wd.u rfl) rfl rfl ?_
          refine LR.v (Y.load1 (oo.pt (j := q) (by first | omega | (simp; omega) | (simp; done))) rfl Try.isAgg4 rfl) (Wd.u rfl) rfl rfl ?_
          refine LR.v (Y.not rfl rfl) (Wd.u rfl) rfl rfl ?_
          refine LR.v (Y.move rfl rfl) (Wd.u rfl) rfl rfl ?_
          refine LR.split (d := 72) rfl (fun g72 => ?_) (fun g72 => ?_)
          ·
            refine LR.v (Y.move rfl rfl) (Wd.g rfl rfl rfl) rfl rfl ?_
            refine LR.v (Y.eql rfl rfl rfl) (Wd.g rfl rfl rfl) rfl rfl ?_
            refine LR.v (Y.move rfl rfl) (Wd.g rfl rfl rfl) rfl rfl ?_
            refine LR.splitp (d := 75) rfl (fun g75 => ?_) (fun g75 => ?_)
            ·
              refine LR.gs rfl rfl rfl rfl rfl rfl ?_
              refine LR.gs rfl rfl rfl rfl rfl rfl ?_
              refine LR.gs rfl rfl rfl rfl rfl rfl ?_
              refine LR.gs rfl rfl rfl rfl rfl rfl ?_
              refine LR.gs rfl rfl rfl rfl rfl rfl ?_
              refine LR.gs rfl rfl rfl rfl rfl rfl ?_
              refine LR.v (Y.pick_t rfl rfl rfl) (Wd.g rfl rfl rfl) rfl rfl ?_
              refine LR.v (Y.pick_t rfl rfl rfl) (Wd.u rfl) rfl rfl ?_
              refine LR.v (Y.move rfl rfl) (Wd.u rfl) rfl rfl ?_
              refine LR.v (Y.move rfl rfl) (Wd.g rfl rfl rfl) rfl rfl ?_
              refine LR.v (Y.addi rfl rfl rfl (by omega)) (Wd.g rfl rfl rfl) rfl rfl ?_
              refine LR.v (Y.move rfl rfl) (Wd.g rfl rfl rfl) rfl rfl ?_
              refine LR.v (Y.eql rfl rfl rfl) (Wd.g rfl rfl rfl) rfl rfl ?_
              refine LR.v (Y.move rfl rfl) (Wd.g rfl rfl rfl) rfl rfl ?_
              refine LR.splitp (d := 89) rfl (fun g89 => ?_) (fun g89 => ?_)
              ·
                refine LR.gs rfl rfl rfl rfl rfl rfl ?_
                refine LR.gs rfl rfl rfl rfl rfl rfl ?_
                refine LR.gs rfl rfl rfl rfl rfl rfl ?_
                refine LR.gs rfl rfl rfl rfl rfl rfl ?_
                refine LR.gs rfl rfl rfl rfl rfl rfl ?_
                refine LR.gs rfl rfl rfl rfl rfl rfl ?_
                refine LR.v (Y.pick_t rfl rfl rfl) (Wd.g rfl rfl rfl) rfl rfl ?_
                refine LR.v (Y.pick_t rfl rfl rfl) (Wd.u rfl) rfl rfl ?_
                refine LR.nil ?_
                refine hK24 _ _ ?_
                refine CW.cond_t rfl ?_
                refine CW.region ?_
                refine LR.v (Y.move rfl rfl) (Wd.u rfl) rfl rfl ?_
                refine LR.v (Y.move rfl rfl) (Wd.u rfl) rfl rfl ?_
                refine LR.v (Y.owAddr ot (q) rfl Try.runUnderlying46 Try.sizeOf4 rfl rfl (by first | rfl | omega) (by first | omega | (simp; omega) | (simp; done))) (Wd.u rfl) rfl rfl ?_
                refine LR.s (S.oww ot (q) 0 (true) rfl rfl rfl rfl Try.sizeOf4 (by first | omega | (simp; omega) | (simp; done)) (by decide) (rfl)) (Wd.u rfl) rfl (fun H15_3 r15_3 => ?_)
                obtain ⟨ot, hs15_3⟩ := r15_3
                replace hs15_3 := hs15_3.md
                replace hx := hx.upL hs15_3 (DFL.cons df19 DFL.nil)
                replace hy := hy.upL hs15_3 (DFL.cons df20 DFL.nil)
                replace oo := oo.upL hs15_3 (DL.cons dj21 DL.nil)
                replace hm0 := (Mo.trL (ks := []) (hm0.mdn []) hs15_3 (MIL.cons (MI.app MI.z (nx22) (Nat.le_refl _)) MIL.nil)).nil
                replace hcm15 := hcm15.trL hs15_3 (MIL.cons (MI.app (MI.root (by simp)) (nx23) (Nat.le_refl _)) MIL.nil)
                replace hlm2 := hlm2.trL hs15_3 (MIL.cons (MI.app (MI.root (by simp)) (nx24) (Nat.le_refl _)) MIL.nil)
                have hz11 := hs15_3.size
                refine LR.nil ?_
                refine hK22 _ _ ?_
                refine hK21 _ _ ?_
                refine CW.region ?_
                refine LR.v (Y.move rfl rfl) (Wd.u rfl) rfl rfl ?_
                refine LR.v (Y.addi rfl rfl rfl (by omega)) (Wd.u rfl) rfl rfl ?_
                refine LR.v (Y.assign rfl rfl) (Wd.u rfl) rfl rfl ?_
                refine LR.nil ?_
                refine QN.sub (hN18 (i + 1, tl.set q true) _ ?_ ?_) ⟨(iv (by omega)), rfl, rfl, rfl, (iv (by omega)), trivial⟩
                · exact ⟨(by omega), ot, (by simp [htl]), ta_set hT (by rw [gdB (by omega)]; simpa using g72) (by first | (left; omega) | (right; rw [gdB (by omega)]; simpa using g84)) (by first | (left; omega) | (right; rw [gdB (by omega)]; simpa using c97)), nx24, hlm2⟩
                · first | omega | (simp only; omega) | (simp; omega)
              ·
                refine LR.v (Y.move rfl rfl) (Wd.g rfl rfl rfl) rfl rfl ?_
                refine LR.v (Y.move rfl rfl) (Wd.g rfl rfl rfl) rfl rfl ?_
                refine LR.v (Y.addi rfl rfl rfl (by omega)) (Wd.g rfl rfl rfl) rfl rfl ?_
                refine LR.v (Y.owAddr oo (q + 1) rfl Try.runUnderlying46 Try.sizeOf4 rfl rfl (by omega) (by first | omega | (simp; omega) | (simp; done))) (Wd.g rfl rfl rfl) rfl rfl ?_
                refine LR.v (Y.load1 (oo.pt (j := q + 1) (by first | omega | (simp; omega) | (simp; done))) rfl Try.isAgg4 rfl) (Wd.g rfl rfl rfl) rfl rfl ?_
                refine LR.v (Y.not rfl rfl) (Wd.g rfl rfl rfl) rfl rfl ?_
                refine LR.v (Y.pick_f rfl rfl rfl) (Wd.g rfl rfl rfl) rfl rfl ?_
                refine LR.v (Y.pick_t rfl rfl rfl) (Wd.u rfl) rfl rfl ?_
                refine LR.nil ?_
                refine hK24 _ _ ?_
                refine CW.cond rfl (fun c97 => ?_) (fun c97 => ?_)
                ·
                  refine CW.region ?_
                  refine LR.v (Y.move rfl rfl) (Wd.u rfl) rfl rfl ?_
                  refine LR.v (Y.move rfl rfl) (Wd.u rfl) rfl rfl ?_
                  refine LR.v (Y.owAddr ot (q) rfl Try.runUnderlying46 Try.sizeOf4 rfl rfl (by first | rfl | omega) (by first | omega | (simp; omega) | (simp; done))) (Wd.u rfl) rfl rfl ?_
                  refine LR.s (S.oww ot (q) 0 (true) rfl rfl rfl rfl Try.sizeOf4 (by first | omega | (simp; omega) | (simp; done)) (by decide) (rfl)) (Wd.u rfl) rfl (fun H15_3 r15_3 => ?_)
                  obtain ⟨ot, hs15_3⟩ := r15_3
                  replace hs15_3 := hs15_3.md
                  replace hx := hx.upL hs15_3 (DFL.cons df19 DFL.nil)
                  replace hy := hy.upL hs15_3 (DFL.cons df20 DFL.nil)
                  replace oo := oo.upL hs15_3 (DL.cons dj21 DL.nil)
                  replace hm0 := (Mo.trL (ks := []) (hm0.mdn []) hs15_3 (MIL.cons (MI.app MI.z (nx22) (Nat.le_refl _)) MIL.nil)).nil
                  replace hcm15 := hcm15.trL hs15_3 (MIL.cons (MI.app (MI.root (by simp)) (nx23) (Nat.le_refl _)) MIL.nil)
                  replace hlm2 := hlm2.trL hs15_3 (MIL.cons (MI.app (MI.root (by simp)) (nx24) (Nat.le_refl _)) MIL.nil)
                  have hz12 := hs15_3.size
                  refine LR.nil ?_
                  refine hK22 _ _ ?_
                  refine hK21 _ _ ?_
                  refine CW.region ?_
                  refine LR.v (Y.move rfl rfl) (Wd.u rfl) rfl rfl ?_
                  refine LR.v (Y.addi rfl rfl rfl (by omega)) (Wd.u rfl) rfl rfl ?_
                  refine LR.v (Y.assign rfl rfl) (Wd.u rfl) rfl rfl ?_
                  refine LR.nil ?_
                  refine QN.sub (hN18 (i + 1, tl.set q true) _ ?_ ?_) ⟨(iv (by omega)), rfl, rfl, rfl, (iv (by omega)), trivial⟩
                  · exact ⟨(by omega), ot, (by simp [htl]), ta_set hT (by rw [gdB (by omega)]; simpa using g72) (by first | (left; omega) | (right; rw [gdB (by omega)]; simpa using g84)) (by first | (left; omega) | (right; rw [gdB (by omega)]; simpa using c97)), nx24, hlm2⟩
                  · first | omega | (simp only; omega) | (simp; omega)
                ·
                  refine CW.skip ?_
                  refine hK22 _ _ ?_
                  refine hK21 _ _ ?_
                  refine CW.region ?_
                  refine LR.v (Y.move rfl rfl) (Wd.u rfl) rfl rfl ?_
                  refine LR.v (Y.addi rfl rfl rfl (by omega)) (Wd.u rfl) rfl rfl ?_
                  refine LR.v (Y.assign rfl rfl) (Wd.u rfl) rfl rfl ?_
                  refine LR.nil ?_
                  refine QN.sub (hN18 (i + 1, tl) _ ?_ ?_) ⟨(iv (by omega)), rfl, rfl, rfl, (iv (by omega)), trivial⟩
                  · exact ⟨(by omega), ot, (by omega), (by omega), nx24, hlm2⟩
                  · first | omega | (simp only; omega) | (simp; omega)
            ·
              refine LR.v (Y.move rfl rfl) (Wd.g rfl rfl rfl) rfl rfl ?_
              refine LR.v (Y.move rfl rfl) (Wd.g rfl rfl rfl) rfl rfl ?_
              refine LR.v (Y.subi rfl rfl rfl (by omega)) (Wd.g rfl rfl rfl) rfl rfl ?_
              refine LR.v (Y.owAddr oo (q - 1) rfl Try.runUnderlying46 Try.sizeOf4 rfl rfl (by omega) (by first | omega | (simp; omega) | (simp; done))) (Wd.g rfl rfl rfl) rfl rfl ?_
              refine LR.v (Y.load1 (oo.pt (j := q - 1) (by first | omega | (simp; omega) | (simp; done))) rfl Try.isAgg4 rfl) (Wd.g rfl rfl rfl) rfl rfl ?_
              refine LR.v (Y.not rfl rfl) (Wd.g rfl rfl rfl) rfl rfl ?_
              refine LR.v (Y.pick_f rfl rfl rfl) (Wd.g rfl rfl rfl) rfl rfl ?_
              refine LR.v (Y.pick_t rfl rfl rfl) (Wd.u rfl) rfl rfl ?_
              refine LR.v (Y.move rfl rfl) (Wd.u rfl) rfl rfl ?_
              refine LR.split (d := 84) rfl (fun g84 => ?_) (fun g84 => ?_)
              ·
                refine LR.v (Y.move rfl rfl) (Wd.g rfl rfl rfl) rfl rfl ?_
                refine LR.v (Y.addi rfl rfl rfl (by omega)) (Wd.g rfl rfl rfl) rfl rfl ?_
                refine LR.v (Y.move rfl rfl) (Wd.g rfl rfl rfl) rfl rfl ?_
                refine LR.v (Y.eql rfl rfl rfl) (Wd.g rfl rfl rfl) rfl rfl ?_
                refine LR.v (Y.move rfl rfl) (Wd.g rfl rfl rfl) rfl rfl ?_
                refine LR.splitp (d := 89) rfl (fun g89 => ?_) (fun g89 => ?_)
                ·
                  refine LR.gs rfl rfl rfl rfl rfl rfl ?_
                  refine LR.gs rfl rfl rfl rfl rfl rfl ?_
                  refine LR.gs rfl rfl rfl rfl rfl rfl ?_
                  refine LR.gs rfl rfl rfl rfl rfl rfl ?_
                  refine LR.gs rfl rfl rfl rfl rfl rfl ?_
                  refine LR.gs rfl rfl rfl rfl rfl rfl ?_
                  refine LR.v (Y.pick_t rfl rfl rfl) (Wd.g rfl rfl rfl) rfl rfl ?_
                  refine LR.v (Y.pick_t rfl rfl rfl) (Wd.u rfl) rfl rfl ?_
                  refine LR.nil ?_
                  refine hK24 _ _ ?_
                  refine CW.cond_t rfl ?_
                  refine CW.region ?_
                  refine LR.v (Y.move rfl rfl) (Wd.u rfl) rfl rfl ?_
                  refine LR.v (Y.move rfl rfl) (Wd.u rfl) rfl rfl ?_
                  refine LR.v (Y.owAddr ot (q) rfl Try.runUnderlying46 Try.sizeOf4 rfl rfl (by first | rfl | omega) (by first | omega | (simp; omega) | (simp; done))) (Wd.u rfl) rfl rfl ?_
                  refine LR.s (S.oww ot (q) 0 (true) rfl rfl rfl rfl Try.sizeOf4 (by first | omega | (simp; omega) | (simp; done)) (by decide) (rfl)) (Wd.u rfl) rfl (fun H15_3 r15_3 => ?_)
                  obtain ⟨ot, hs15_3⟩ := r15_3
                  replace hs15_3 := hs15_3.md
                  replace hx := hx.upL hs15_3 (DFL.cons df19 DFL.nil)
                  replace hy := hy.upL hs15_3 (DFL.cons df20 DFL.nil)
                  replace oo := oo.upL hs15_3 (DL.cons dj21 DL.nil)
                  replace hm0 := (Mo.trL (ks := []) (hm0.mdn []) hs15_3 (MIL.cons (MI.app MI.z (nx22) (Nat.le_refl _)) MIL.nil)).nil
                  replace hcm15 := hcm15.trL hs15_3 (MIL.cons (MI.app (MI.root (by simp)) (nx23) (Nat.le_refl _)) MIL.nil)
                  replace hlm2 := hlm2.trL hs15_3 (MIL.cons (MI.app (MI.root (by simp)) (nx24) (Nat.le_refl _)) MIL.nil)
                  have hz13 := hs15_3.size
                  refine LR.nil ?_
                  refine hK22 _ _ ?_
                  refine hK21 _ _ ?_
                  refine CW.region ?_
                  refine LR.v (Y.move rfl rfl) (Wd.u rfl) rfl rfl ?_
                  refine LR.v (Y.addi rfl rfl rfl (by omega)) (Wd.u rfl) rfl rfl ?_
                  refine LR.v (Y.assign rfl rfl) (Wd.u rfl) rfl rfl ?_
                  refine LR.nil ?_
                  refine QN.sub (hN18 (i + 1, tl.set q true) _ ?_ ?_) ⟨(iv (by omega)), rfl, rfl, rfl, (iv (by omega)), trivial⟩
                  · exact ⟨(by omega), ot, (by simp [htl]), ta_set hT (by rw [gdB (by omega)]; simpa using g72) (by first | (left; omega) | (right; rw [gdB (by omega)]; simpa using g84)) (by first | (left; omega) | (right; rw [gdB (by omega)]; simpa using c97)), nx24, hlm2⟩
                  · first | omega | (simp only; omega) | (simp; omega)
                ·
                  refine LR.v (Y.move rfl rfl) (Wd.g rfl rfl rfl) rfl rfl ?_
                  refine LR.v (Y.move rfl rfl) (Wd.g rfl rfl rfl) rfl rfl ?_
                  refine LR.v (Y.addi rfl rfl rfl (by omega)) (Wd.g rfl rfl rfl) rfl rfl ?_
                  refine LR.v (Y.owAddr oo (q + 1) rfl Try.runUnderlying46 Try.sizeOf4 rfl rfl (by omega) (by first | omega | (simp; omega) | (simp; done))) (Wd.g rfl rfl rfl) rfl rfl ?_
                  refine LR.v (Y.load1 (oo.pt (j := q + 1) (by first | omega | (simp; omega) | (simp; done))) rfl Try.isAgg4 rfl) (Wd.g rfl rfl rfl) rfl rfl ?_
                  refine LR.v (Y.not rfl rfl) (Wd.g rfl rfl rfl) rfl rfl ?_
                  refine LR.v (Y.pick_f rfl rfl rfl) (Wd.g rfl rfl rfl) rfl rfl ?_
                  refine LR.v (Y.pick_t rfl rfl rfl) (Wd.u rfl) rfl rfl ?_
                  refine LR.nil ?_
                  refine hK24 _ _ ?_
                  refine CW.cond rfl (fun c97 => ?_) (fun c97 => ?_)
                  ·
                    refine CW.region ?_
                    refine LR.v (Y.move rfl rfl) (Wd.u rfl) rfl rfl ?_
                    refine LR.v (Y.move rfl rfl) (Wd.u rfl) rfl rfl ?_
                    refine LR.v (Y.owAddr ot (q) rfl Try.runUnderlying46 Try.sizeOf4 rfl rfl (by first | rfl | omega) (by first | omega | (simp; omega) | (simp; done))) (Wd.u rfl) rfl rfl ?_
                    refine LR.s (S.oww ot (q) 0 (true) rfl rfl rfl rfl Try.sizeOf4 (by first | omega | (simp; omega) | (simp; done)) (by decide) (rfl)) (Wd.u rfl) rfl (fun H15_3 r15_3 => ?_)
                    obtain ⟨ot, hs15_3⟩ := r15_3
                    replace hs15_3 := hs15_3.md
                    replace hx := hx.upL hs15_3 (DFL.cons df19 DFL.nil)
                    replace hy := hy.upL hs15_3 (DFL.cons df20 DFL.nil)
                    replace oo := oo.upL hs15_3 (DL.cons dj21 DL.nil)
                    replace hm0 := (Mo.trL (ks := []) (hm0.mdn []) hs15_3 (MIL.cons (MI.app MI.z (nx22) (Nat.le_refl _)) MIL.nil)).nil
                    replace hcm15 := hcm15.trL hs15_3 (MIL.cons (MI.app (MI.root (by simp)) (nx23) (Nat.le_refl _)) MIL.nil)
                    replace hlm2 := hlm2.trL hs15_3 (MIL.cons (MI.app (MI.root (by simp)) (nx24) (Nat.le_refl _)) MIL.nil)
                    have hz14 := hs15_3.size
                    refine LR.nil ?_
                    refine hK22 _ _ ?_
                    refine hK21 _ _ ?_
                    refine CW.region ?_
                    refine LR.v (Y.move rfl rfl) (Wd.u rfl) rfl rfl ?_
                    refine LR.v (Y.addi rfl rfl rfl (by omega)) (Wd.u rfl) rfl rfl ?_
                    refine LR.v (Y.assign rfl rfl) (Wd.u rfl) rfl rfl ?_
                    refine LR.nil ?_
                    refine QN.sub (hN18 (i + 1, tl.set q true) _ ?_ ?_) ⟨(iv (by omega)), rfl, rfl, rfl, (iv (by omega)), trivial⟩
                    · exact ⟨(by omega), ot, (by simp [htl]), ta_set hT (by rw [gdB (by omega)]; simpa using g72) (by first | (left; omega) | (right; rw [gdB (by omega)]; simpa using g84)) (by first | (left; omega) | (right; rw [gdB (by omega)]; simpa using c97)), nx24, hlm2⟩
                    · first | omega | (simp only; omega) | (simp; omega)
                  ·
                    refine CW.skip ?_
                    refine hK22 _ _ ?_
                    refine hK21 _ _ ?_
                    refine CW.region ?_
                    refine LR.v (Y.move rfl rfl) (Wd.u rfl) rfl rfl ?_
                    refine LR.v (Y.addi rfl rfl rfl (by omega)) (Wd.u rfl) rfl rfl ?_
                    refine LR.v (Y.assign rfl rfl) (Wd.u rfl) rfl rfl ?_
                    refine LR.nil ?_
                    refine QN.sub (hN18 (i + 1, tl) _ ?_ ?_) ⟨(iv (by omega)), rfl, rfl, rfl, (iv (by omega)), trivial⟩
                    · exact ⟨(by omega), ot, (by omega), (by omega), nx24, hlm2⟩
                    · first | omega | (simp only; omega) | (simp; omega)
              ·
                refine LR.gs rfl rfl rfl rfl rfl rfl ?_
                refine LR.gs rfl rfl rfl rfl rfl rfl ?_
                refine LR.gs rfl rfl rfl rfl rfl rfl ?_
                refine LR.gs rfl rfl rfl rfl rfl rfl ?_
                refine LR.gs rfl rfl rfl rfl rfl rfl ?_
                refine LR.gsu rfl rfl rfl rfl rfl ?_
                refine LR.gsu rfl rfl rfl rfl rfl ?_
                refine LR.gsu rfl rfl rfl rfl rfl ?_
                refine LR.gsu rfl rfl rfl rfl rfl ?_
                refine LR.gsu rfl rfl rfl rfl rfl ?_
                refine LR.gsu rfl rfl rfl rfl rfl ?_
                refine LR.gs rfl rfl rfl rfl rfl rfl ?_
                refine LR.v (Y.pick_f rfl rfl rfl) (Wd.u rfl) rfl rfl ?_
                refine LR.nil ?_
                refine hK24 _ _ ?_
                refine CW.cond_f rfl ?_
                refine CW.skip ?_
                refine hK22 _ _ ?_
                refine hK21 _ _ ?_
                refine CW.region ?_
                refine LR.v (Y.move rfl rfl) (Wd.u rfl) rfl rfl ?_
                refine LR.v (Y.addi rfl rfl rfl (by omega)) (Wd.u rfl) rfl rfl ?_
                refine LR.v (Y.assign rfl rfl) (Wd.u rfl) rfl rfl ?_
                refine LR.nil ?_
                refine QN.sub (hN18 (i + 1, tl) _ ?_ ?_) ⟨(iv (by omega)), rfl, rfl, rfl, (iv (by omega)), trivial⟩
                · exact ⟨(by omega), ot, (by omega), (by omega), nx24, hlm2⟩
                · first | omega | (simp only; omega) | (simp; omega)
          ·
            refine LR.gs rfl rfl rfl rfl rfl rfl ?_
            refine LR.gs rfl rfl rfl rfl rfl rfl ?_
            refine LR.gs rfl rfl rfl rfl rfl rfl ?_
            refine LR.gsu rfl rfl rfl rfl rfl ?_
            refine LR.gsu rfl rfl rfl rfl rfl ?_
            refine LR.gsu rfl rfl rfl rfl rfl ?_
            refine LR.gsu rfl rfl rfl rfl rfl ?_
            refine LR.gsu rfl rfl rfl rfl rfl ?_
            refine LR.gsu rfl rfl rfl rfl rfl ?_
            refine LR.gs rfl rfl rfl rfl rfl rfl ?_
            refine LR.v (Y.pick_f rfl rfl rfl) (Wd.u rfl) rfl rfl ?_
            refine LR.v (Y.move rfl rfl) (Wd.u rfl) rfl rfl ?_
            refine LR.gs rfl rfl rfl rfl rfl rfl ?_
            refine LR.gs rfl rfl rfl rfl rfl rfl ?_
            refine LR.gs rfl rfl rfl rfl rfl rfl ?_
            refine LR.gs rfl rfl rfl rfl rfl rfl ?_
            refine LR.gs rfl rfl rfl rfl rfl rfl ?_
            refine LR.gsu rfl rfl rfl rfl rfl ?_
            refine LR.gsu rfl rfl rfl rfl rfl ?_
            refine LR.gsu rfl rfl rfl rfl rfl ?_
            refine LR.gsu rfl rfl rfl rfl rfl ?_
            refine LR.gsu rfl rfl rfl rfl rfl ?_
            refine LR.gsu rfl rfl rfl rfl rfl ?_
            refine LR.gs rfl rfl rfl rfl rfl rfl ?_
            refine LR.v (Y.pick_f rfl rfl rfl) (Wd.u rfl) rfl rfl ?_
            refine LR.nil ?_
            refine hK24 _ _ ?_
            refine CW.cond_f rfl ?_
            refine CW.skip ?_
            refine hK22 _ _ ?_
            refine hK21 _ _ ?_
            refine CW.region ?_
            refine LR.v (Y.move rfl rfl) (Wd.u rfl) rfl rfl ?_
            refine LR.v (Y.addi rfl rfl rfl (by omega)) (Wd.u rfl) rfl rfl ?_
            refine LR.v (Y.assign rfl rfl) (Wd.u rfl) rfl rfl ?_
            refine LR.nil ?_
            refine QN.sub (hN18 (i + 1, tl) _ ?_ ?_) ⟨(iv (by omega)), rfl, rfl, rfl, (iv (by omega)), trivial⟩
            · exact ⟨(by omega), ot, (by omega), (by omega), nx24, hlm2⟩
            · first | omega | (simp only; omega) | (simp; omega)
        ·
          refine CW.exit (hE19 (.exit 2) nofun _ _ (hE18 (.exit 2) nofun _ _ (hX17 _ _ ?_)))
          refine QN.sub (hK15 tl _ ?_) ⟨(iv (by omega)), rfl, rfl, trivial⟩
          exact ⟨ot, htl, hT, nx23, hcm15⟩
      ·
        refine LR.gs rfl rfl rfl rfl rfl rfl ?_
        refine LR.gs rfl rfl rfl rfl rfl rfl ?_
        refine LR.v (Y.pick_f rfl rfl rfl) (Wd.u rfl) rfl rfl ?_
        refine LR.nil ?_
        refine hK20 _ _ ?_
        refine CW.cond_f rfl ?_
        refine CW.exit (hE19 (.exit 2) nofun _ _ (hE18 (.exit 2) nofun _ _ (hX17 _ _ ?_)))
        refine QN.sub (hK15 tl _ ?_) ⟨(iv (by omega)), rfl, rfl, trivial⟩
        exact ⟨ot, htl, hT, nx23, hcm15⟩
    ·
      intro tl Hcut2 hIcut2
      obtain ⟨ot, htl, hT, nxl_ot, hlmcut2⟩ := hIcut2
      have df25 := DF.app (df4) (bf_hx.mono hm0.size) nxl_ot
      have df26 := DF.app (df5) (bf_hy.mono hm0.size) nxl_ot
      have dj27 : Dj ((H27.size + 1)) ((H30.size + 1)) := Dj.app (dj16.symm) oo.le nxl_ot
      have nx28 : Nx 0 H0.size ((H30.size + 1)) := Nx.tr (nx7) nxl_ot hm0.size
      replace hx := hx.upL hlmcut2 (DFL.cons df4 DFL.nil)
      replace hy := hy.upL hlmcut2 (DFL.cons df5 DFL.nil)
      replace oo := oo.upL hlmcut2 (DL.cons dj16.symm DL.nil)
      replace hm0 := (Mo.trL (ks := []) (hm0.mdn []) hlmcut2 (MIL.cons (MI.app MI.z (nx7) (Nat.le_refl _)) MIL.nil)).nil
      have hz15 := hlmcut2.size
      have hle_ot := ot.le
      have nx29 := nxl_ot
      refine CW.seq (fun K25 hK25 hE25 => ?_)
      refine CW.region ?_
      refine LR.v (Y.assign rfl rfl) (Wd.u rfl) rfl rfl ?_
      refine LR.v (Y.assign rfl rfl) (Wd.u rfl) rfl rfl ?_
      refine LR.v (Y.assign rfl rfl) (Wd.u rfl) rfl rfl ?_
      refine LR.v (Y.assign rfl rfl) (Wd.u rfl) rfl rfl ?_
      refine LR.nil ?_
      refine hK25 _ _ ?_
      refine CW.seq (fun K26 hK26 hE26 => ?_)
      refine CW.seq (fun K27 hK27 hE27 => ?_)
      refine CW.region ?_
      refine LR.v (Y.assign rfl rfl) (Wd.u rfl) rfl rfl ?_
      refine LR.nil ?_
      refine hK27 _ _ ?_
      refine CW.block (fun K28 hK28 hX28 hE28 => ?_)
      refine CW.loop (fun (s_ : (Nat) × (Value) × (Nat) × (Value) × (Nat) × (Value) × (Nat) × (Value) × (Nat)) => match s_ with | (i, va, ka, vb, kb, vc, kc, vd, kd) => [(0, .int .i64 m), (7, v30), (8, v32), (12, va), (13, vb), (14, vc), (15, vd), (16, .int .i64 i)])
        (fun (s_ : (Nat) × (Value) × (Nat) × (Value) × (Nat) × (Value) × (Nat) × (Value) × (Nat)) (H : Heap) => match s_ with | (i, va, ka, vb, kb, vc, kc, vd, kd) => (i ≤ m) ∧ (Ow ka 5 H fB 1 va (((List.range i).map lnB).flatten)) ∧ (Ow kb 5 H fB 1 vb (((List.range i).map (lnO ol)).flatten)) ∧ (Ow kc 5 H fB 1 vc (((List.range i).map (lnT tl)).flatten)) ∧ (Ow kd 5 H fB 1 vd (((List.range i).map (lnD ol tl)).flatten)) ∧ (Nx 0 Hcut2.size ka) ∧ (Nx 0 Hcut2.size kb) ∧ (Nx 0 Hcut2.size kc) ∧ (Nx 0 Hcut2.size kd) ∧ (Dj ka kb) ∧ (Dj ka kc) ∧ (Dj kb kc) ∧ (Dj ka kd) ∧ (Dj kb kd) ∧ (Dj kc kd) ∧ Nw Hcut2 H)
        (fun (s_ : (Nat) × (Value) × (Nat) × (Value) × (Nat) × (Value) × (Nat) × (Value) × (Nat)) => match s_ with | (i, va, ka, vb, kb, vc, kc, vd, kd) => m - i) (0, .slice none 0 0, 0, .slice none 0 0, 0, .slice none 0 0, 0, .slice none 0 0, 0) ⟨rfl, rfl, rfl, rfl, rfl, rfl, rfl, rfl, trivial⟩ ?_ ?_
      ·
        exact ⟨(by omega), Ow.nil fB_len fB_one, Ow.nil fB_len fB_one, Ow.nil fB_len fB_one, Ow.nil fB_len fB_one, Nx.refl _ _, Nx.refl _ _, Nx.refl _ _, Nx.refl _ _, Dj.z, Dj.z, Dj.z, Dj.z, Dj.z, Dj.z, Mo.refl _ _⟩
      rintro ⟨i, va, ka, vb, kb, vc, kc, vd, kd⟩ HL3 hI3 K29 hN29 hE29
      obtain ⟨hi, oa, ob, oc, od, nxl_oa, nxl_ob, nxl_oc, nxl_od, dj_oa_ob, dj_oa_oc, dj_ob_oc, dj_oa_od, dj_ob_od, dj_oc_od, hlm3⟩ := hI3
      have df30 := DF.app (DF.z) (bf_hx.mono hm0.size) nxl_oa
      have df31 := DF.app (DF.z) (bf_hy.mono hm0.size) nxl_oa
      have dj32 : Dj ((H27.size + 1)) ka := Dj.app (Dj.z) oo.le nxl_oa
      have dj33 : Dj ((H30.size + 1)) ka := Dj.app (Dj.z) ot.le nxl_oa
      have nx34 : Nx 0 H0.size ka := Nx.tr (Nx.refl 0 _) nxl_oa hm0.size
      have df35 := DF.app (DF.z) (bf_hx.mono hm0.size) nxl_ob
      have df36 := DF.app (DF.z) (bf_hy.mono hm0.size) nxl_ob
      have dj37 : Dj ((H27.size + 1)) kb := Dj.app (Dj.z) oo.le nxl_ob
      have dj38 : Dj ((H30.size + 1)) kb := Dj.app (Dj.z) ot.le nxl_ob
      have nx39 : Nx 0 H0.size kb := Nx.tr (Nx.refl 0 _) nxl_ob hm0.size
      have df40 := DF.app (DF.z) (bf_hx.mono hm0.size) nxl_oc
      have df41 := DF.app (DF.z) (bf_hy.mono hm0.size) nxl_oc
      have dj42 : Dj ((H27.size + 1)) kc := Dj.app (Dj.z) oo.le nxl_oc
      have dj43 : Dj ((H30.size + 1)) kc := Dj.app (Dj.z) ot.le nxl_oc
      have nx44 : Nx 0 H0.size kc := Nx.tr (Nx.refl 0 _) nxl_oc hm0.size
      have df45 := DF.app (DF.z) (bf_hx.mono hm0.size) nxl_od
      have df46 := DF.app (DF.z) (bf_hy.mono hm0.size) nxl_od
      have dj47 : Dj ((H27.size + 1)) kd := Dj.app (Dj.z) oo.le nxl_od
      have dj48 : Dj ((H30.size + 1)) kd := Dj.app (Dj.z) ot.le nxl_od
      have nx49 : Nx 0 H0.size kd := Nx.tr (Nx.refl 0 _) nxl_od hm0.size
      replace hx := hx.nw hlm3
      replace hy := hy.nw hlm3
      replace oo := oo.nw hlm3
      replace ot := ot.nw hlm3
      replace hm0 := hm0.tr hlm3
      have hz16 := hlm3.size
      have hle_oa := oa.le
      have hle_ob := ob.le
      have hle_oc := oc.le
      have hle_od := od.le
      have dj50 := dj_oa_ob
      have dj51 := dj_oa_oc
      have dj52 := dj_ob_oc
      have dj53 := dj_oa_od
      have dj54 := dj_ob_od
      have dj55 := dj_oc_od
      have nx56 := nxl_oa
      have nx57 := nxl_ob
      have nx58 := nxl_oc
      have nx59 := nxl_od
      refine CW.seq (fun K30 hK30 hE30 => ?_)
      refine CW.seq (fun K31 hK31 hE31 => ?_)
      refine CW.region ?_
      refine LR.v (Y.move rfl rfl) (Wd.u rfl) rfl rfl ?_
      refine LR.v (Y.move rfl rfl) (Wd.u rfl) rfl rfl ?_
      refine LR.v (Y.lss rfl rfl rfl) (Wd.u rfl) rfl rfl ?_
      refine LR.nil ?_
      refine hK31 _ _ ?_
      refine CW.condp rfl (fun c103 => ?_) (fun c103 => ?_)
      ·
        refine CW.skip ?_
        refine hK30 _ _ ?_
        refine CW.seq (fun K32 hK32 hE32 => ?_)
        refine CW.block (fun K33 hK33 hX33 hE33 => ?_)
        refine CW.seq (fun K34 hK34 hE34 => ?_)
        refine CW.region ?_
        refine LR.v (Y.move rfl rfl) (Wd.u rfl) rfl rfl ?_
        refine LR.v (Y.addi rfl rfl rfl (by omega)) (Wd.u rfl) rfl rfl ?_
        refine LR.v (Y.cast (v2 := .int .u8 (UInt8.ofNat (65 + i)).toNat) (Y.conv_u8 rfl Try.runUnderlying3 Try.runUnderlying5 rfl) (by first | rfl | (congr 1))) (Wd.u rfl) rfl rfl ?_
        refine LR.z (Z.litw _ ([UInt8.ofNat (65 + i)]) rfl inf32 rfl rfl rfl (by decide) (by decide) fB_len fB_one (rfl)) (Wd.u rfl) rfl rfl (fun v109 H109 r109 => ?_)
        obtain ⟨ow109, hs109, ob109, hH109⟩ := r109
        have hzs109 : H109.size = HL3.size + 1 := by rw [hH109]; simp
        have df60 := (DF.new (bf_hx.mono hm0.size) : DF _ (HL3.size + 1))
        have df61 := (DF.new (bf_hy.mono hm0.size) : DF _ (HL3.size + 1))
        have dj62 : Dj ((H27.size + 1)) (HL3.size + 1) := Dj.new oo.le
        have dj63 : Dj ((H30.size + 1)) (HL3.size + 1) := Dj.new ot.le
        have dj64 : Dj ka (HL3.size + 1) := Dj.new oa.le
        have dj65 : Dj kb (HL3.size + 1) := Dj.new ob.le
        have dj66 : Dj kc (HL3.size + 1) := Dj.new oc.le
        have dj67 : Dj kd (HL3.size + 1) := Dj.new od.le
        have nx68 : Nx 0 H0.size (HL3.size + 1) := Nx.new hm0.size
        have nx69 : Nx 0 Hcut2.size (HL3.size + 1) := Nx.new hlm3.size
        replace hx := hx.nw hs109
        replace hy := hy.nw hs109
        replace oo := oo.nw hs109
        replace ot := ot.nw hs109
        replace oa := oa.nw hs109
        replace ob := ob.nw hs109
        replace oc := oc.nw hs109
        replace od := od.nw hs109
        replace hm0 := hm0.tr hs109
        replace hlm3 := hlm3.tr hs109
        have hz17 := hs109.size
        refine LR.v (Y.bstr ow109.rd rfl Try.underlying32 Try.underlying9 Try.underlying5 rfl) (Wd.u rfl) rfl rfl ?_
        refine LR.v (Y.cast (v2 := Str (lnB i)) (Y.sadd rfl rfl rfl (by simp)) (rfl)) (Wd.u rfl) rfl rfl ?_
        refine LR.v (Y.assign rfl rfl) (Wd.u rfl) rfl rfl ?_
        refine LR.nil ?_
        refine hK34 _ _ ?_
        refine CW.seq (fun K35 hK35 hE35 => ?_)
        refine CW.region ?_
        refine LR.v (Y.move rfl rfl) (Wd.u rfl) rfl rfl ?_
        refine LR.v (Y.move rfl rfl) (Wd.u rfl) rfl rfl ?_
        refine LR.v (Y.move rfl rfl) (Wd.u rfl) rfl rfl ?_
        refine LR.v (Y.assign rfl rfl) (Wd.u rfl) rfl rfl ?_
        refine LR.v (Y.assign rfl rfl) (Wd.u rfl) rfl rfl ?_
        refine LR.v (Y.assign rfl rfl) (Wd.u rfl) rfl rfl ?_
        refine LR.nil ?_
        refine hK35 _ _ ?_
        refine CW.seq (fun K36 hK36 hE36 => ?_)
        refine CW.seq (fun K37 hK37 hE37 => ?_)
        refine CW.region ?_
        refine LR.v (Y.move rfl rfl) (Wd.u rfl) rfl rfl ?_
        refine LR.v (Y.move rfl rfl) (Wd.u rfl) rfl rfl ?_
        refine LR.v (Y.owAddr oo (i) rfl Try.runUnderlying46 Try.sizeOf4 rfl rfl (by first | rfl | omega) (by first | omega | (simp; omega) | (simp; done))) (Wd.u rfl) rfl rfl ?_
        refine LR.v (Y.load1 (oo.pt (j := i) (by first | omega | (simp; omega) | (simp; done))) rfl Try.isAgg4 rfl) (Wd.u rfl) rfl rfl ?_
        refine LR.nil ?_
        refine hK37 _ _ ?_
        refine CW.cond rfl (fun c118 => ?_) (fun c118 => ?_)
        ·
          have ho : ol.getD i false = true := by rw [gdB (by omega)]; exact c118
          refine CW.region ?_
          refine LR.v (Y.move rfl rfl) (Wd.u rfl) rfl rfl ?_
          refine LR.v (Y.sadd rfl rfl rfl (by first | omega | (simp only [List.length_append, List.length_cons, List.length_nil, lnB]; omega))) (Wd.u rfl) rfl rfl ?_
          refine LR.v (Y.move rfl rfl) (Wd.u rfl) rfl rfl ?_
          refine LR.v (Y.sadd rfl rfl rfl (by first | omega | (simp only [List.length_append, List.length_cons, List.length_nil, lnB]; omega))) (Wd.u rfl) rfl rfl ?_
          refine LR.v (Y.assign rfl rfl) (Wd.u rfl) rfl rfl ?_
          refine LR.v (Y.assign rfl rfl) (Wd.u rfl) rfl rfl ?_
          refine LR.nil ?_
          refine hK36 _ _ ?_
          refine CW.seq (fun K38 hK38 hE38 => ?_)
          refine CW.seq (fun K39 hK39 hE39 => ?_)
          refine CW.region ?_
          refine LR.v (Y.move rfl rfl) (Wd.u rfl) rfl rfl ?_
          refine LR.v (Y.move rfl rfl) (Wd.u rfl) rfl rfl ?_
          refine LR.v (Y.owAddr ot (i) rfl Try.runUnderlying46 Try.sizeOf4 rfl rfl (by first | rfl | omega) (by first | omega | (simp; omega) | (simp; done))) (Wd.u rfl) rfl rfl ?_
          refine LR.v (Y.load1 (ot.pt (j := i) (by first | omega | (simp; omega) | (simp; done))) rfl Try.isAgg4 rfl) (Wd.u rfl) rfl rfl ?_
          refine LR.nil ?_
          refine hK39 _ _ ?_
          refine CW.cond rfl (fun c126 => ?_) (fun c126 => ?_)
          ·
            first
            | exact absurd (hT i (by omega) (by rw [gdB (by omega)]; exact c126)).1 (by rw [gdB (by omega), c118]; decide)
            | skip
              have ht : tl.getD i false = true := by rw [gdB (by omega)]; exact c126
              refine CW.region ?_
              refine LR.v (Y.move rfl rfl) (Wd.u rfl) rfl rfl ?_
              refine LR.v (Y.sadd rfl rfl rfl (by first | omega | (simp only [List.length_append, List.length_cons, List.length_nil, lnB]; omega))) (Wd.u rfl) rfl rfl ?_
              refine LR.v (Y.move rfl rfl) (Wd.u rfl) rfl rfl ?_
              refine LR.v (Y.sadd rfl rfl rfl (by first | omega | (simp only [List.length_append, List.length_cons, List.length_nil, lnB]; omega))) (Wd.u rfl) rfl rfl ?_
              refine LR.v (Y.assign rfl rfl) (Wd.u rfl) rfl rfl ?_
              refine LR.v (Y.assign rfl rfl) (Wd.u rfl) rfl rfl ?_
              refine LR.nil ?_
              refine hK38 _ _ ?_
              refine CW.region ?_
              refine LR.v (Y.move rfl rfl) (Wd.u rfl) rfl rfl ?_
              refine LR.v (Y.move rfl rfl) (Wd.u rfl) rfl rfl ?_
              refine LR.z (Z.apndStr oa rfl inf32 Try.underlying9 rfl rfl (by have h1 := rng_len lnB (fun _ => by simp [lnB]) i; have h2 := rng_len (lnO ol) (lnO_len ol) i; have h3 := rng_len (lnT tl) (lnT_len tl) i; have h4 := rng_len (lnD ol tl) (lnD_len ol tl) i; (try simp only [List.length_append, List.length_cons, List.length_nil, lnB]); omega)) (Wd.u rfl) rfl rfl (fun v133 H133 r133 => ?_)
              obtain ⟨k133, oa, hk133, hs133⟩ := r133
              replace hk133 : Nx ka H109.size k133 := hk133
              replace hs133 := hs133.md
              have df70 := DF.app (df30) (bf_hx.mono hm0.size) hk133
              have df71 := DF.app (df31) (bf_hy.mono hm0.size) hk133
              have dj72 : Dj ((H27.size + 1)) k133 := Dj.app (dj32) oo.le hk133
              have dj73 : Dj ((H30.size + 1)) k133 := Dj.app (dj33) ot.le hk133
              have dj74 : Dj kb k133 := Dj.app (dj50.symm) ob.le hk133
              have dj75 : Dj kc k133 := Dj.app (dj51.symm) oc.le hk133
              have dj76 : Dj kd k133 := Dj.app (dj53.symm) od.le hk133
              have nx77 : Nx 0 H0.size k133 := Nx.tr (nx34) hk133 hm0.size
              have nx78 : Nx 0 Hcut2.size k133 := Nx.tr (nx56) hk133 hlm3.size
              replace hx := hx.upL hs133 (DFL.cons df30 DFL.nil)
              replace hy := hy.upL hs133 (DFL.cons df31 DFL.nil)
              replace oo := oo.upL hs133 (DL.cons dj32 DL.nil)
              replace ot := ot.upL hs133 (DL.cons dj33 DL.nil)
              replace ob := ob.upL hs133 (DL.cons dj50.symm DL.nil)
              replace oc := oc.upL hs133 (DL.cons dj51.symm DL.nil)
              replace od := od.upL hs133 (DL.cons dj53.symm DL.nil)
              replace hm0 := (Mo.trL (ks := []) (hm0.mdn []) hs133 (MIL.cons (MI.app MI.z (nx34) (Nat.le_refl _)) MIL.nil)).nil
              replace hlm3 := (Mo.trL (ks := []) (hlm3.mdn []) hs133 (MIL.cons (MI.app MI.z (nx56) (Nat.le_refl _)) MIL.nil)).nil
              have hz18 := hs133.size
              have hle_oa := oa.le
              refine LR.v (Y.move rfl rfl) (Wd.u rfl) rfl rfl ?_
              refine LR.v (Y.move rfl rfl) (Wd.u rfl) rfl rfl ?_
              refine LR.z (Z.apndStr ob rfl inf32 Try.underlying9 rfl rfl (by have h1 := rng_len lnB (fun _ => by simp [lnB]) i; have h2 := rng_len (lnO ol) (lnO_len ol) i; have h3 := rng_len (lnT tl) (lnT_len tl) i; have h4 := rng_len (lnD ol tl) (lnD_len ol tl) i; (try simp only [List.length_append, List.length_cons, List.length_nil, lnB]); omega)) (Wd.u rfl) rfl rfl (fun v136 H136 r136 => ?_)
              obtain ⟨k136, ob, hk136, hs136⟩ := r136
              replace hk136 : Nx kb H133.size k136 := hk136
              replace hs136 := hs136.md
              have df79 := DF.app (df35) (bf_hx.mono hm0.size) hk136
              have df80 := DF.app (df36) (bf_hy.mono hm0.size) hk136
              have dj81 : Dj ((H27.size + 1)) k136 := Dj.app (dj37) oo.le hk136
              have dj82 : Dj ((H30.size + 1)) k136 := Dj.app (dj38) ot.le hk136
              have dj83 : Dj k133 k136 := Dj.app (dj74.symm) oa.le hk136
              have dj84 : Dj kc k136 := Dj.app (dj52.symm) oc.le hk136
              have dj85 : Dj kd k136 := Dj.app (dj54.symm) od.le hk136
              have nx86 : Nx 0 H0.size k136 := Nx.tr (nx39) hk136 hm0.size
              have nx87 : Nx 0 Hcut2.size k136 := Nx.tr (nx57) hk136 hlm3.size
              replace hx := hx.upL hs136 (DFL.cons df35 DFL.nil)
              replace hy := hy.upL hs136 (DFL.cons df36 DFL.nil)
              replace oo := oo.upL hs136 (DL.cons dj37 DL.nil)
              replace ot := ot.upL hs136 (DL.cons dj38 DL.nil)
              replace oa := oa.upL hs136 (DL.cons dj74.symm DL.nil)
              replace oc := oc.upL hs136 (DL.cons dj52.symm DL.nil)
              replace od := od.upL hs136 (DL.cons dj54.symm DL.nil)
              replace hm0 := (Mo.trL (ks := []) (hm0.mdn []) hs136 (MIL.cons (MI.app MI.z (nx39) (Nat.le_refl _)) MIL.nil)).nil
              replace hlm3 := (Mo.trL (ks := []) (hlm3.mdn []) hs136 (MIL.cons (MI.app MI.z (nx57) (Nat.le_refl _)) MIL.nil)).nil
              have hz19 := hs136.size
              have hle_ob := ob.le
              refine LR.v (Y.move rfl rfl) (Wd.u rfl) rfl rfl ?_
              refine LR.v (Y.move rfl rfl) (Wd.u rfl) rfl rfl ?_
              refine LR.z (Z.apndStr oc rfl inf32 Try.underlying9 rfl rfl (by have h1 := rng_len lnB (fun _ => by simp [lnB]) i; have h2 := rng_len (lnO ol) (lnO_len ol) i; have h3 := rng_len (lnT tl) (lnT_len tl) i; have h4 := rng_len (lnD ol tl) (lnD_len ol tl) i; (try simp only [List.length_append, List.length_cons, List.length_nil, lnB]); omega)) (Wd.u rfl) rfl rfl (fun v139 H139 r139 => ?_)
              obtain ⟨k139, oc, hk139, hs139⟩ := r139
              replace hk139 : Nx kc H136.size k139 := hk139
              replace hs139 := hs139.md
              have df88 := DF.app (df40) (bf_hx.mono hm0.size) hk139
              have df89 := DF.app (df41) (bf_hy.mono hm0.size) hk139
              have dj90 : Dj ((H27.size + 1)) k139 := Dj.app (dj42) oo.le hk139
              have dj91 : Dj ((H30.size + 1)) k139 := Dj.app (dj43) ot.le hk139
              have dj92 : Dj k133 k139 := Dj.app (dj75.symm) oa.le hk139
              have dj93 : Dj k136 k139 := Dj.app (dj84.symm) ob.le hk139
              have dj94 : Dj kd k139 := Dj.app (dj55.symm) od.le hk139
              have nx95 : Nx 0 H0.size k139 := Nx.tr (nx44) hk139 hm0.size
              have nx96 : Nx 0 Hcut2.size k139 := Nx.tr (nx58) hk139 hlm3.size
              replace hx := hx.upL hs139 (DFL.cons df40 DFL.nil)
              replace hy := hy.upL hs139 (DFL.cons df41 DFL.nil)
              replace oo := oo.upL hs139 (DL.cons dj42 DL.nil)
              replace ot := ot.upL hs139 (DL.cons dj43 DL.nil)
              replace oa := oa.upL hs139 (DL.cons dj75.symm DL.nil)
              replace ob := ob.upL hs139 (DL.cons dj84.symm DL.nil)
              replace od := od.upL hs139 (DL.cons dj55.symm DL.nil)
              replace hm0 := (Mo.trL (ks := []) (hm0.mdn []) hs139 (MIL.cons (MI.app MI.z (nx44) (Nat.le_refl _)) MIL.nil)).nil
              replace hlm3 := (Mo.trL (ks := []) (hlm3.mdn []) hs139 (MIL.cons (MI.app MI.z (nx58) (Nat.le_refl _)) MIL.nil)).nil
              have hz20 := hs139.size
              have hle_oc := oc.le
              refine LR.v (Y.move rfl rfl) (Wd.u rfl) rfl rfl ?_
              refine LR.v (Y.move rfl rfl) (Wd.u rfl) rfl rfl ?_
              refine LR.z (Z.apndStr od rfl inf32 Try.underlying9 rfl rfl (by have h1 := rng_len lnB (fun _ => by simp [lnB]) i; have h2 := rng_len (lnO ol) (lnO_len ol) i; have h3 := rng_len (lnT tl) (lnT_len tl) i; have h4 := rng_len (lnD ol tl) (lnD_len ol tl) i; (try simp only [List.length_append, List.length_cons, List.length_nil, lnB]); omega)) (Wd.u rfl) rfl rfl (fun v142 H142 r142 => ?_)
              obtain ⟨k142, od, hk142, hs142⟩ := r142
              replace hk142 : Nx kd H139.size k142 := hk142
              replace hs142 := hs142.md
              have df97 := DF.app (df45) (bf_hx.mono hm0.size) hk142
              have df98 := DF.app (df46) (bf_hy.mono hm0.size) hk142
              have dj99 : Dj ((H27.size + 1)) k142 := Dj.app (dj47) oo.le hk142
              have dj100 : Dj ((H30.size + 1)) k142 := Dj.app (dj48) ot.le hk142
              have dj101 : Dj k133 k142 := Dj.app (dj76.symm) oa.le hk142
              have dj102 : Dj k136 k142 := Dj.app (dj85.symm) ob.le hk142
              have dj103 : Dj k139 k142 := Dj.app (dj94.symm) oc.le hk142
              have nx104 : Nx 0 H0.size k142 := Nx.tr (nx49) hk142 hm0.size
              have nx105 : Nx 0 Hcut2.size k142 := Nx.tr (nx59) hk142 hlm3.size
              replace hx := hx.upL hs142 (DFL.cons df45 DFL.nil)
              replace hy := hy.upL hs142 (DFL.cons df46 DFL.nil)
              replace oo := oo.upL hs142 (DL.cons dj47 DL.nil)
              replace ot := ot.upL hs142 (DL.cons dj48 DL.nil)
              replace oa := oa.upL hs142 (DL.cons dj76.symm DL.nil)
              replace ob := ob.upL hs142 (DL.cons dj85.symm DL.nil)
              replace oc := oc.upL hs142 (DL.cons dj94.symm DL.nil)
              replace hm0 := (Mo.trL (ks := []) (hm0.mdn []) hs142 (MIL.cons (MI.app MI.z (nx49) (Nat.le_refl _)) MIL.nil)).nil
              replace hlm3 := (Mo.trL (ks := []) (hlm3.mdn []) hs142 (MIL.cons (MI.app MI.z (nx59) (Nat.le_refl _)) MIL.nil)).nil
              have hz21 := hs142.size
              have hle_od := od.le
              refine LR.v (Y.assign rfl rfl) (Wd.u rfl) rfl rfl ?_
              refine LR.v (Y.assign rfl rfl) (Wd.u rfl) rfl rfl ?_
              refine LR.v (Y.assign rfl rfl) (Wd.u rfl) rfl rfl ?_
              refine LR.v (Y.assign rfl rfl) (Wd.u rfl) rfl rfl ?_
              refine LR.nil ?_
              refine hK33 _ _ ?_
              refine hK32 _ _ ?_
              refine CW.region ?_
              refine LR.v (Y.move rfl rfl) (Wd.u rfl) rfl rfl ?_
              refine LR.v (Y.addi rfl rfl rfl (by omega)) (Wd.u rfl) rfl rfl ?_
              refine LR.v (Y.assign rfl rfl) (Wd.u rfl) rfl rfl ?_
              refine LR.nil ?_
              refine QN.sub (hN29 (i + 1, v133, k133, v136, k136, v139, k139, v142, k142) _ ?_ ?_) ⟨(iv (by omega)), rfl, rfl, rfl, rfl, rfl, rfl, (iv (by omega)), trivial⟩
              · exact ⟨(by omega), by rw [rng_snoc]; exact oa, by rw [rng_snoc, lnO]; first | (rw [if_pos ho]; exact ob) | (rw [if_neg ho]; exact ob), by rw [rng_snoc, lnT]; first | (rw [if_pos ht]; exact oc) | (rw [if_neg ht]; exact oc), by rw [rng_snoc, lnD, lnO, lnT]; first | (rw [if_pos ho, if_pos ho]; exact od) | (rw [if_neg ho, if_pos ht]; exact od) | (rw [if_neg ho, if_neg ht]; exact od), nx78, nx87, nx96, nx105, dj83, dj92, dj93, dj101, dj102, dj103, hlm3⟩
              · first | omega | (simp only; omega) | (simp; omega)
          ·
            first
            | exact absurd (hT i (by omega) (by rw [gdB (by omega)]; exact c126)).1 (by rw [gdB (by omega), c118]; decide)
            | skip
              have ht : ¬ tl.getD i false = true := by rw [gdB (by omega), c126]; decide
              refine CW.skip ?_
              refine hK38 _ _ ?_
              refine CW.region ?_
              refine LR.v (Y.move rfl rfl) (Wd.u rfl) rfl rfl ?_
              refine LR.v (Y.move rfl rfl) (Wd.u rfl) rfl rfl ?_
              refine LR.z (Z.apndStr oa rfl inf32 Try.underlying9 rfl rfl (by have h1 := rng_len lnB (fun _ => by simp [lnB]) i; have h2 := rng_len (lnO ol) (lnO_len ol) i; have h3 := rng_len (lnT tl) (lnT_len tl) i; have h4 := rng_len (lnD ol tl) (lnD_len ol tl) i; (try simp only [List.length_append, List.length_cons, List.length_nil, lnB]); omega)) (Wd.u rfl) rfl rfl (fun v133 H133 r133 => ?_)
              obtain ⟨k133, oa, hk133, hs133⟩ := r133
              replace hk133 : Nx ka H109.size k133 := hk133
              replace hs133 := hs133.md
              have df106 := DF.app (df30) (bf_hx.mono hm0.size) hk133
              have df107 := DF.app (df31) (bf_hy.mono hm0.size) hk133
              have dj108 : Dj ((H27.size + 1)) k133 := Dj.app (dj32) oo.le hk133
              have dj109 : Dj ((H30.size + 1)) k133 := Dj.app (dj33) ot.le hk133
              have dj110 : Dj kb k133 := Dj.app (dj50.symm) ob.le hk133
              have dj111 : Dj kc k133 := Dj.app (dj51.symm) oc.le hk133
              have dj112 : Dj kd k133 := Dj.app (dj53.symm) od.le hk133
              have nx113 : Nx 0 H0.size k133 := Nx.tr (nx34) hk133 hm0.size
              have nx114 : Nx 0 Hcut2.size k133 := Nx.tr (nx56) hk133 hlm3.size
              replace hx := hx.upL hs133 (DFL.cons df30 DFL.nil)
              replace hy := hy.upL hs133 (DFL.cons df31 DFL.nil)
              replace oo := oo.upL hs133 (DL.cons dj32 DL.nil)
              replace ot := ot.upL hs133 (DL.cons dj33 DL.nil)
              replace ob := ob.upL hs133 (DL.cons dj50.symm DL.nil)
              replace oc := oc.upL hs133 (DL.cons dj51.symm DL.nil)
              replace od := od.upL hs133 (DL.cons dj53.symm DL.nil)
              replace hm0 := (Mo.trL (ks := []) (hm0.mdn []) hs133 (MIL.cons (MI.app MI.z (nx34) (Nat.le_refl _)) MIL.nil)).nil
              replace hlm3 := (Mo.trL (ks := []) (hlm3.mdn []) hs133 (MIL.cons (MI.app MI.z (nx56) (Nat.le_refl _)) MIL.nil)).nil
              have hz22 := hs133.size
              have hle_oa := oa.le
              refine LR.v (Y.move rfl rfl) (Wd.u rfl) rfl rfl ?_
              refine LR.v (Y.move rfl rfl) (Wd.u rfl) rfl rfl ?_
              refine LR.z (Z.apndStr ob rfl inf32 Try.underlying9 rfl rfl (by have h1 := rng_len lnB (fun _ => by simp [lnB]) i; have h2 := rng_len (lnO ol) (lnO_len ol) i; have h3 := rng_len (lnT tl) (lnT_len tl) i; have h4 := rng_len (lnD ol tl) (lnD_len ol tl) i; (try simp only [List.length_append, List.length_cons, List.length_nil, lnB]); omega)) (Wd.u rfl) rfl rfl (fun v136 H136 r136 => ?_)
              obtain ⟨k136, ob, hk136, hs136⟩ := r136
              replace hk136 : Nx kb H133.size k136 := hk136
              replace hs136 := hs136.md
              have df115 := DF.app (df35) (bf_hx.mono hm0.size) hk136
              have df116 := DF.app (df36) (bf_hy.mono hm0.size) hk136
              have dj117 : Dj ((H27.size + 1)) k136 := Dj.app (dj37) oo.le hk136
              have dj118 : Dj ((H30.size + 1)) k136 := Dj.app (dj38) ot.le hk136
              have dj119 : Dj k133 k136 := Dj.app (dj110.symm) oa.le hk136
              have dj120 : Dj kc k136 := Dj.app (dj52.symm) oc.le hk136
              have dj121 : Dj kd k136 := Dj.app (dj54.symm) od.le hk136
              have nx122 : Nx 0 H0.size k136 := Nx.tr (nx39) hk136 hm0.size
              have nx123 : Nx 0 Hcut2.size k136 := Nx.tr (nx57) hk136 hlm3.size
              replace hx := hx.upL hs136 (DFL.cons df35 DFL.nil)
              replace hy := hy.upL hs136 (DFL.cons df36 DFL.nil)
              replace oo := oo.upL hs136 (DL.cons dj37 DL.nil)
              replace ot := ot.upL hs136 (DL.cons dj38 DL.nil)
              replace oa := oa.upL hs136 (DL.cons dj110.symm DL.nil)
              replace oc := oc.upL hs136 (DL.cons dj52.symm DL.nil)
              replace od := od.upL hs136 (DL.cons dj54.symm DL.nil)
              replace hm0 := (Mo.trL (ks := []) (hm0.mdn []) hs136 (MIL.cons (MI.app MI.z (nx39) (Nat.le_refl _)) MIL.nil)).nil
              replace hlm3 := (Mo.trL (ks := []) (hlm3.mdn []) hs136 (MIL.cons (MI.app MI.z (nx57) (Nat.le_refl _)) MIL.nil)).nil
              have hz23 := hs136.size
              have hle_ob := ob.le
              refine LR.v (Y.move rfl rfl) (Wd.u rfl) rfl rfl ?_
              refine LR.v (Y.move rfl rfl) (Wd.u rfl) rfl rfl ?_
              refine LR.z (Z.apndStr oc rfl inf32 Try.underlying9 rfl rfl (by have h1 := rng_len lnB (fun _ => by simp [lnB]) i; have h2 := rng_len (lnO ol) (lnO_len ol) i; have h3 := rng_len (lnT tl) (lnT_len tl) i; have h4 := rng_len (lnD ol tl) (lnD_len ol tl) i; (try simp only [List.length_append, List.length_cons, List.length_nil, lnB]); omega)) (Wd.u rfl) rfl rfl (fun v139 H139 r139 => ?_)
              obtain ⟨k139, oc, hk139, hs139⟩ := r139
              replace hk139 : Nx kc H136.size k139 := hk139
              replace hs139 := hs139.md
              have df124 := DF.app (df40) (bf_hx.mono hm0.size) hk139
              have df125 := DF.app (df41) (bf_hy.mono hm0.size) hk139
              have dj126 : Dj ((H27.size + 1)) k139 := Dj.app (dj42) oo.le hk139
              have dj127 : Dj ((H30.size + 1)) k139 := Dj.app (dj43) ot.le hk139
              have dj128 : Dj k133 k139 := Dj.app (dj111.symm) oa.le hk139
              have dj129 : Dj k136 k139 := Dj.app (dj120.symm) ob.le hk139
              have dj130 : Dj kd k139 := Dj.app (dj55.symm) od.le hk139
              have nx131 : Nx 0 H0.size k139 := Nx.tr (nx44) hk139 hm0.size
              have nx132 : Nx 0 Hcut2.size k139 := Nx.tr (nx58) hk139 hlm3.size
              replace hx := hx.upL hs139 (DFL.cons df40 DFL.nil)
              replace hy := hy.upL hs139 (DFL.cons df41 DFL.nil)
              replace oo := oo.upL hs139 (DL.cons dj42 DL.nil)
              replace ot := ot.upL hs139 (DL.cons dj43 DL.nil)
              replace oa := oa.upL hs139 (DL.cons dj111.symm DL.nil)
              replace ob := ob.upL hs139 (DL.cons dj120.symm DL.nil)
              replace od := od.upL hs139 (DL.cons dj55.symm DL.nil)
              replace hm0 := (Mo.trL (ks := []) (hm0.mdn []) hs139 (MIL.cons (MI.app MI.z (nx44) (Nat.le_refl _)) MIL.nil)).nil
              replace hlm3 := (Mo.trL (ks := []) (hlm3.mdn []) hs139 (MIL.cons (MI.app MI.z (nx58) (Nat.le_refl _)) MIL.nil)).nil
              have hz24 := hs139.size
              have hle_oc := oc.le
              refine LR.v (Y.move rfl rfl) (Wd.u rfl) rfl rfl ?_
              refine LR.v (Y.move rfl rfl) (Wd.u rfl) rfl rfl ?_
              refine LR.z (Z.apndStr od rfl inf32 Try.underlying9 rfl rfl (by have h1 := rng_len lnB (fun _ => by simp [lnB]) i; have h2 := rng_len (lnO ol) (lnO_len ol) i; have h3 := rng_len (lnT tl) (lnT_len tl) i; have h4 := rng_len (lnD ol tl) (lnD_len ol tl) i; (try simp only [List.length_append, List.length_cons, List.length_nil, lnB]); omega)) (Wd.u rfl) rfl rfl (fun v142 H142 r142 => ?_)
              obtain ⟨k142, od, hk142, hs142⟩ := r142
              replace hk142 : Nx kd H139.size k142 := hk142
              replace hs142 := hs142.md
              have df133 := DF.app (df45) (bf_hx.mono hm0.size) hk142
              have df134 := DF.app (df46) (bf_hy.mono hm0.size) hk142
              have dj135 : Dj ((H27.size + 1)) k142 := Dj.app (dj47) oo.le hk142
              have dj136 : Dj ((H30.size + 1)) k142 := Dj.app (dj48) ot.le hk142
              have dj137 : Dj k133 k142 := Dj.app (dj112.symm) oa.le hk142
              have dj138 : Dj k136 k142 := Dj.app (dj121.symm) ob.le hk142
              have dj139 : Dj k139 k142 := Dj.app (dj130.symm) oc.le hk142
              have nx140 : Nx 0 H0.size k142 := Nx.tr (nx49) hk142 hm0.size
              have nx141 : Nx 0 Hcut2.size k142 := Nx.tr (nx59) hk142 hlm3.size
              replace hx := hx.upL hs142 (DFL.cons df45 DFL.nil)
              replace hy := hy.upL hs142 (DFL.cons df46 DFL.nil)
              replace oo := oo.upL hs142 (DL.cons dj47 DL.nil)
              replace ot := ot.upL hs142 (DL.cons dj48 DL.nil)
              replace oa := oa.upL hs142 (DL.cons dj112.symm DL.nil)
              replace ob := ob.upL hs142 (DL.cons dj121.symm DL.nil)
              replace oc := oc.upL hs142 (DL.cons dj130.symm DL.nil)
              replace hm0 := (Mo.trL (ks := []) (hm0.mdn []) hs142 (MIL.cons (MI.app MI.z (nx49) (Nat.le_refl _)) MIL.nil)).nil
              replace hlm3 := (Mo.trL (ks := []) (hlm3.mdn []) hs142 (MIL.cons (MI.app MI.z (nx59) (Nat.le_refl _)) MIL.nil)).nil
              have hz25 := hs142.size
              have hle_od := od.le
              refine LR.v (Y.assign rfl rfl) (Wd.u rfl) rfl rfl ?_
              refine LR.v (Y.assign rfl rfl) (Wd.u rfl) rfl rfl ?_
              refine LR.v (Y.assign rfl rfl) (Wd.u rfl) rfl rfl ?_
              refine LR.v (Y.assign rfl rfl) (Wd.u rfl) rfl rfl ?_
              refine LR.nil ?_
              refine hK33 _ _ ?_
              refine hK32 _ _ ?_
              refine CW.region ?_
              refine LR.v (Y.move rfl rfl) (Wd.u rfl) rfl rfl ?_
              refine LR.v (Y.addi rfl rfl rfl (by omega)) (Wd.u rfl) rfl rfl ?_
              refine LR.v (Y.assign rfl rfl) (Wd.u rfl) rfl rfl ?_
              refine LR.nil ?_
              refine QN.sub (hN29 (i + 1, v133, k133, v136, k136, v139, k139, v142, k142) _ ?_ ?_) ⟨(iv (by omega)), rfl, rfl, rfl, rfl, rfl, rfl, (iv (by omega)), trivial⟩
              · exact ⟨(by omega), by rw [rng_snoc]; exact oa, by rw [rng_snoc, lnO]; first | (rw [if_pos ho]; exact ob) | (rw [if_neg ho]; exact ob), by rw [rng_snoc, lnT]; first | (rw [if_pos ht]; exact oc) | (rw [if_neg ht]; exact oc), by rw [rng_snoc, lnD, lnO, lnT]; first | (rw [if_pos ho, if_pos ho]; exact od) | (rw [if_neg ho, if_pos ht]; exact od) | (rw [if_neg ho, if_neg ht]; exact od), nx114, nx123, nx132, nx141, dj119, dj128, dj129, dj137, dj138, dj139, hlm3⟩
              · first | omega | (simp only; omega) | (simp; omega)
        ·
          have ho : ¬ ol.getD i false = true := by rw [gdB (by omega), c118]; decide
          refine CW.skip ?_
          refine hK36 _ _ ?_
          refine CW.seq (fun K40 hK40 hE40 => ?_)
          refine CW.seq (fun K41 hK41 hE41 => ?_)
          refine CW.region ?_
          refine LR.v (Y.move rfl rfl) (Wd.u rfl) rfl rfl ?_
          refine LR.v (Y.move rfl rfl) (Wd.u rfl) rfl rfl ?_
          refine LR.v (Y.owAddr ot (i) rfl Try.runUnderlying46 Try.sizeOf4 rfl rfl (by first | rfl | omega) (by first | omega | (simp; omega) | (simp; done))) (Wd.u rfl) rfl rfl ?_
          refine LR.v (Y.load1 (ot.pt (j := i) (by first | omega | (simp; omega) | (simp; done))) rfl Try.isAgg4 rfl) (Wd.u rfl) rfl rfl ?_
          refine LR.nil ?_
          refine hK41 _ _ ?_
          refine CW.cond rfl (fun c126 => ?_) (fun c126 => ?_)
          ·
            first
            | exact absurd (hT i (by omega) (by rw [gdB (by omega)]; exact c126)).1 (by rw [gdB (by omega), c118]; decide)
            | skip
              have ht : tl.getD i false = true := by rw [gdB (by omega)]; exact c126
              refine CW.region ?_
              refine LR.v (Y.move rfl rfl) (Wd.u rfl) rfl rfl ?_
              refine LR.v (Y.sadd rfl rfl rfl (by first | omega | (simp only [List.length_append, List.length_cons, List.length_nil, lnB]; omega))) (Wd.u rfl) rfl rfl ?_
              refine LR.v (Y.move rfl rfl) (Wd.u rfl) rfl rfl ?_
              refine LR.v (Y.sadd rfl rfl rfl (by first | omega | (simp only [List.length_append, List.length_cons, List.length_nil, lnB]; omega))) (Wd.u rfl) rfl rfl ?_
              refine LR.v (Y.assign rfl rfl) (Wd.u rfl) rfl rfl ?_
              refine LR.v (Y.assign rfl rfl) (Wd.u rfl) rfl rfl ?_
              refine LR.nil ?_
              refine hK40 _ _ ?_
              refine CW.region ?_
              refine LR.v (Y.move rfl rfl) (Wd.u rfl) rfl rfl ?_
              refine LR.v (Y.move rfl rfl) (Wd.u rfl) rfl rfl ?_
              refine LR.z (Z.apndStr oa rfl inf32 Try.underlying9 rfl rfl (by have h1 := rng_len lnB (fun _ => by simp [lnB]) i; have h2 := rng_len (lnO ol) (lnO_len ol) i; have h3 := rng_len (lnT tl) (lnT_len tl) i; have h4 := rng_len (lnD ol tl) (lnD_len ol tl) i; (try simp only [List.length_append, List.length_cons, List.length_nil, lnB]); omega)) (Wd.u rfl) rfl rfl (fun v133 H133 r133 => ?_)
              obtain ⟨k133, oa, hk133, hs133⟩ := r133
              replace hk133 : Nx ka H109.size k133 := hk133
              replace hs133 := hs133.md
              have df142 := DF.app (df30) (bf_hx.mono hm0.size) hk133
              have df143 := DF.app (df31) (bf_hy.mono hm0.size) hk133
              have dj144 : Dj ((H27.size + 1)) k133 := Dj.app (dj32) oo.le hk133
              have dj145 : Dj ((H30.size + 1)) k133 := Dj.app (dj33) ot.le hk133
              have dj146 : Dj kb k133 := Dj.app (dj50.symm) ob.le hk133
              have dj147 : Dj kc k133 := Dj.app (dj51.symm) oc.le hk133
              have dj148 : Dj kd k133 := Dj.app (dj53.symm) od.le hk133
              have nx149 : Nx 0 H0.size k133 := Nx.tr (nx34) hk133 hm0.size
              have nx150 : Nx 0 Hcut2.size k133 := Nx.tr (nx56) hk133 hlm3.size
              replace hx := hx.upL hs133 (DFL.cons df30 DFL.nil)
              replace hy := hy.upL hs133 (DFL.cons df31 DFL.nil)
              replace oo := oo.upL hs133 (DL.cons dj32 DL.nil)
              replace ot := ot.upL hs133 (DL.cons dj33 DL.nil)
              replace ob := ob.upL hs133 (DL.cons dj50.symm DL.nil)
              replace oc := oc.upL hs133 (DL.cons dj51.symm DL.nil)
              replace od := od.upL hs133 (DL.cons dj53.symm DL.nil)
              replace hm0 := (Mo.trL (ks := []) (hm0.mdn []) hs133 (MIL.cons (MI.app MI.z (nx34) (Nat.le_refl _)) MIL.nil)).nil
              replace hlm3 := (Mo.trL (ks := []) (hlm3.mdn []) hs133 (MIL.cons (MI.app MI.z (nx56) (Nat.le_refl _)) MIL.nil)).nil
              have hz26 := hs133.size
              have hle_oa := oa.le
              refine LR.v (Y.move rfl rfl) (Wd.u rfl) rfl rfl ?_
              refine LR.v (Y.move rfl rfl) (Wd.u rfl) rfl rfl ?_
              refine LR.z (Z.apndStr ob rfl inf32 Try.underlying9 rfl rfl (by have h1 := rng_len lnB (fun _ => by simp [lnB]) i; have h2 := rng_len (lnO ol) (lnO_len ol) i; have h3 := rng_len (lnT tl) (lnT_len tl) i; have h4 := rng_len (lnD ol tl) (lnD_len ol tl) i; (try simp only [List.length_append, List.length_cons, List.length_nil, lnB]); omega)) (Wd.u rfl) rfl rfl (fun v136 H136 r136 => ?_)
              obtain ⟨k136, ob, hk136, hs136⟩ := r136
              replace hk136 : Nx kb H133.size k136 := hk136
              replace hs136 := hs136.md
              have df151 := DF.app (df35) (bf_hx.mono hm0.size) hk136
              have df152 := DF.app (df36) (bf_hy.mono hm0.size) hk136
              have dj153 : Dj ((H27.size + 1)) k136 := Dj.app (dj37) oo.le hk136
              have dj154 : Dj ((H30.size + 1)) k136 := Dj.app (dj38) ot.le hk136
              have dj155 : Dj k133 k136 := Dj.app (dj146.symm) oa.le hk136
              have dj156 : Dj kc k136 := Dj.app (dj52.symm) oc.le hk136
              have dj157 : Dj kd k136 := Dj.app (dj54.symm) od.le hk136
              have nx158 : Nx 0 H0.size k136 := Nx.tr (nx39) hk136 hm0.size
              have nx159 : Nx 0 Hcut2.size k136 := Nx.tr (nx57) hk136 hlm3.size
              replace hx := hx.upL hs136 (DFL.cons df35 DFL.nil)
              replace hy := hy.upL hs136 (DFL.cons df36 DFL.nil)
              replace oo := oo.upL hs136 (DL.cons dj37 DL.nil)
              replace ot := ot.upL hs136 (DL.cons dj38 DL.nil)
              replace oa := oa.upL hs136 (DL.cons dj146.symm DL.nil)
              replace oc := oc.upL hs136 (DL.cons dj52.symm DL.nil)
              replace od := od.upL hs136 (DL.cons dj54.symm DL.nil)
              replace hm0 := (Mo.trL (ks := []) (hm0.mdn []) hs136 (MIL.cons (MI.app MI.z (nx39) (Nat.le_refl _)) MIL.nil)).nil
              replace hlm3 := (Mo.trL (ks := []) (hlm3.mdn []) hs136 (MIL.cons (MI.app MI.z (nx57) (Nat.le_refl _)) MIL.nil)).nil
              have hz27 := hs136.size
              have hle_ob := ob.le
              refine LR.v (Y.move rfl rfl) (Wd.u rfl) rfl rfl ?_
              refine LR.v (Y.move rfl rfl) (Wd.u rfl) rfl rfl ?_
              refine LR.z (Z.apndStr oc rfl inf32 Try.underlying9 rfl rfl (by have h1 := rng_len lnB (fun _ => by simp [lnB]) i; have h2 := rng_len (lnO ol) (lnO_len ol) i; have h3 := rng_len (lnT tl) (lnT_len tl) i; have h4 := rng_len (lnD ol tl) (lnD_len ol tl) i; (try simp only [List.length_append, List.length_cons, List.length_nil, lnB]); omega)) (Wd.u rfl) rfl rfl (fun v139 H139 r139 => ?_)
              obtain ⟨k139, oc, hk139, hs139⟩ := r139
              replace hk139 : Nx kc H136.size k139 := hk139
              replace hs139 := hs139.md
              have df160 := DF.app (df40) (bf_hx.mono hm0.size) hk139
              have df161 := DF.app (df41) (bf_hy.mono hm0.size) hk139
              have dj162 : Dj ((H27.size + 1)) k139 := Dj.app (dj42) oo.le hk139
              have dj163 : Dj ((H30.size + 1)) k139 := Dj.app (dj43) ot.le hk139
              have dj164 : Dj k133 k139 := Dj.app (dj147.symm) oa.le hk139
              have dj165 : Dj k136 k139 := Dj.app (dj156.symm) ob.le hk139
              have dj166 : Dj kd k139 := Dj.app (dj55.symm) od.le hk139
              have nx167 : Nx 0 H0.size k139 := Nx.tr (nx44) hk139 hm0.size
              have nx168 : Nx 0 Hcut2.size k139 := Nx.tr (nx58) hk139 hlm3.size
              replace hx := hx.upL hs139 (DFL.cons df40 DFL.nil)
              replace hy := hy.upL hs139 (DFL.cons df41 DFL.nil)
              replace oo := oo.upL hs139 (DL.cons dj42 DL.nil)
              replace ot := ot.upL hs139 (DL.cons dj43 DL.nil)
              replace oa := oa.upL hs139 (DL.cons dj147.symm DL.nil)
              replace ob := ob.upL hs139 (DL.cons dj156.symm DL.nil)
              replace od := od.upL hs139 (DL.cons dj55.symm DL.nil)
              replace hm0 := (Mo.trL (ks := []) (hm0.mdn []) hs139 (MIL.cons (MI.app MI.z (nx44) (Nat.le_refl _)) MIL.nil)).nil
              replace hlm3 := (Mo.trL (ks := []) (hlm3.mdn []) hs139 (MIL.cons (MI.app MI.z (nx58) (Nat.le_refl _)) MIL.nil)).nil
              have hz28 := hs139.size
              have hle_oc := oc.le
              refine LR.v (Y.move rfl rfl) (Wd.u rfl) rfl rfl ?_
              refine LR.v (Y.move rfl rfl) (Wd.u rfl) rfl rfl ?_
              refine LR.z (Z.apndStr od rfl inf32 Try.underlying9 rfl rfl (by have h1 := rng_len lnB (fun _ => by simp [lnB]) i; have h2 := rng_len (lnO ol) (lnO_len ol) i; have h3 := rng_len (lnT tl) (lnT_len tl) i; have h4 := rng_len (lnD ol tl) (lnD_len ol tl) i; (try simp only [List.length_append, List.length_cons, List.length_nil, lnB]); omega)) (Wd.u rfl) rfl rfl (fun v142 H142 r142 => ?_)
              obtain ⟨k142, od, hk142, hs142⟩ := r142
              replace hk142 : Nx kd H139.size k142 := hk142
              replace hs142 := hs142.md
              have df169 := DF.app (df45) (bf_hx.mono hm0.size) hk142
              have df170 := DF.app (df46) (bf_hy.mono hm0.size) hk142
              have dj171 : Dj ((H27.size + 1)) k142 := Dj.app (dj47) oo.le hk142
              have dj172 : Dj ((H30.size + 1)) k142 := Dj.app (dj48) ot.le hk142
              have dj173 : Dj k133 k142 := Dj.app (dj148.symm) oa.le hk142
              have dj174 : Dj k136 k142 := Dj.app (dj157.symm) ob.le hk142
              have dj175 : Dj k139 k142 := Dj.app (dj166.symm) oc.le hk142
              have nx176 : Nx 0 H0.size k142 := Nx.tr (nx49) hk142 hm0.size
              have nx177 : Nx 0 Hcut2.size k142 := Nx.tr (nx59) hk142 hlm3.size
              replace hx := hx.upL hs142 (DFL.cons df45 DFL.nil)
              replace hy := hy.upL hs142 (DFL.cons df46 DFL.nil)
              replace oo := oo.upL hs142 (DL.cons dj47 DL.nil)
              replace ot := ot.upL hs142 (DL.cons dj48 DL.nil)
              replace oa := oa.upL hs142 (DL.cons dj148.symm DL.nil)
              replace ob := ob.upL hs142 (DL.cons dj157.symm DL.nil)
              replace oc := oc.upL hs142 (DL.cons dj166.symm DL.nil)
              replace hm0 := (Mo.trL (ks := []) (hm0.mdn []) hs142 (MIL.cons (MI.app MI.z (nx49) (Nat.le_refl _)) MIL.nil)).nil
              replace hlm3 := (Mo.trL (ks := []) (hlm3.mdn []) hs142 (MIL.cons (MI.app MI.z (nx59) (Nat.le_refl _)) MIL.nil)).nil
              have hz29 := hs142.size
              have hle_od := od.le
              refine LR.v (Y.assign rfl rfl) (Wd.u rfl) rfl rfl ?_
              refine LR.v (Y.assign rfl rfl) (Wd.u rfl) rfl rfl ?_
              refine LR.v (Y.assign rfl rfl) (Wd.u rfl) rfl rfl ?_
              refine LR.v (Y.assign rfl rfl) (Wd.u rfl) rfl rfl ?_
              refine LR.nil ?_
              refine hK33 _ _ ?_
              refine hK32 _ _ ?_
              refine CW.region ?_
              refine LR.v (Y.move rfl rfl) (Wd.u rfl) rfl rfl ?_
              refine LR.v (Y.addi rfl rfl rfl (by omega)) (Wd.u rfl) rfl rfl ?_
              refine LR.v (Y.assign rfl rfl) (Wd.u rfl) rfl rfl ?_
              refine LR.nil ?_
              refine QN.sub (hN29 (i + 1, v133, k133, v136, k136, v139, k139, v142, k142) _ ?_ ?_) ⟨(iv (by omega)), rfl, rfl, rfl, rfl, rfl, rfl, (iv (by omega)), trivial⟩
              · exact ⟨(by omega), by rw [rng_snoc]; exact oa, by rw [rng_snoc, lnO]; first | (rw [if_pos ho]; exact ob) | (rw [if_neg ho]; exact ob), by rw [rng_snoc, lnT]; first | (rw [if_pos ht]; exact oc) | (rw [if_neg ht]; exact oc), by rw [rng_snoc, lnD, lnO, lnT]; first | (rw [if_pos ho, if_pos ho]; exact od) | (rw [if_neg ho, if_pos ht]; exact od) | (rw [if_neg ho, if_neg ht]; exact od), nx150, nx159, nx168, nx177, dj155, dj164, dj165, dj173, dj174, dj175, hlm3⟩
              · first | omega | (simp only; omega) | (simp; omega)
          ·
            first
            | exact absurd (hT i (by omega) (by rw [gdB (by omega)]; exact c126)).1 (by rw [gdB (by omega), c118]; decide)
            | skip
              have ht : ¬ tl.getD i false = true := by rw [gdB (by omega), c126]; decide
              refine CW.skip ?_
              refine hK40 _ _ ?_
              refine CW.region ?_
              refine LR.v (Y.move rfl rfl) (Wd.u rfl) rfl rfl ?_
              refine LR.v (Y.move rfl rfl) (Wd.u rfl) rfl rfl ?_
              refine LR.z (Z.apndStr oa rfl inf32 Try.underlying9 rfl rfl (by have h1 := rng_len lnB (fun _ => by simp [lnB]) i; have h2 := rng_len (lnO ol) (lnO_len ol) i; have h3 := rng_len (lnT tl) (lnT_len tl) i; have h4 := rng_len (lnD ol tl) (lnD_len ol tl) i; (try simp only [List.length_append, List.length_cons, List.length_nil, lnB]); omega)) (Wd.u rfl) rfl rfl (fun v133 H133 r133 => ?_)
              obtain ⟨k133, oa, hk133, hs133⟩ := r133
              replace hk133 : Nx ka H109.size k133 := hk133
              replace hs133 := hs133.md
              have df178 := DF.app (df30) (bf_hx.mono hm0.size) hk133
              have df179 := DF.app (df31) (bf_hy.mono hm0.size) hk133
              have dj180 : Dj ((H27.size + 1)) k133 := Dj.app (dj32) oo.le hk133
              have dj181 : Dj ((H30.size + 1)) k133 := Dj.app (dj33) ot.le hk133
              have dj182 : Dj kb k133 := Dj.app (dj50.symm) ob.le hk133
              have dj183 : Dj kc k133 := Dj.app (dj51.symm) oc.le hk133
              have dj184 : Dj kd k133 := Dj.app (dj53.symm) od.le hk133
              have nx185 : Nx 0 H0.size k133 := Nx.tr (nx34) hk133 hm0.size
              have nx186 : Nx 0 Hcut2.size k133 := Nx.tr (nx56) hk133 hlm3.size
              replace hx := hx.upL hs133 (DFL.cons df30 DFL.nil)
              replace hy := hy.upL hs133 (DFL.cons df31 DFL.nil)
              replace oo := oo.upL hs133 (DL.cons dj32 DL.nil)
              replace ot := ot.upL hs133 (DL.cons dj33 DL.nil)
              replace ob := ob.upL hs133 (DL.cons dj50.symm DL.nil)
              replace oc := oc.upL hs133 (DL.cons dj51.symm DL.nil)
              replace od := od.upL hs133 (DL.cons dj53.symm DL.nil)
              replace hm0 := (Mo.trL (ks := []) (hm0.mdn []) hs133 (MIL.cons (MI.app MI.z (nx34) (Nat.le_refl _)) MIL.nil)).nil
              replace hlm3 := (Mo.trL (ks := []) (hlm3.mdn []) hs133 (MIL.cons (MI.app MI.z (nx56) (Nat.le_refl _)) MIL.nil)).nil
              have hz30 := hs133.size
              have hle_oa := oa.le
              refine LR.v (Y.move rfl rfl) (Wd.u rfl) rfl rfl ?_
              refine LR.v (Y.move rfl rfl) (Wd.u rfl) rfl rfl ?_
              refine LR.z (Z.apndStr ob rfl inf32 Try.underlying9 rfl rfl (by have h1 := rng_len lnB (fun _ => by simp [lnB]) i; have h2 := rng_len (lnO ol) (lnO_len ol) i; have h3 := rng_len (lnT tl) (lnT_len tl) i; have h4 := rng_len (lnD ol tl) (lnD_len ol tl) i; (try simp only [List.length_append, List.length_cons, List.length_nil, lnB]); omega)) (Wd.u rfl) rfl rfl (fun v136 H136 r136 => ?_)
              obtain ⟨k136, ob, hk136, hs136⟩ := r136
              replace hk136 : Nx kb H133.size k136 := hk136
              replace hs136 := hs136.md
              have df187 := DF.app (df35) (bf_hx.mono hm0.size) hk136
              have df188 := DF.app (df36) (bf_hy.mono hm0.size) hk136
              have dj189 : Dj ((H27.size + 1)) k136 := Dj.app (dj37) oo.le hk136
              have dj190 : Dj ((H30.size + 1)) k136 := Dj.app (dj38) ot.le hk136
              have dj191 : Dj k133 k136 := Dj.app (dj182.symm) oa.le hk136
              have dj192 : Dj kc k136 := Dj.app (dj52.symm) oc.le hk136
              have dj193 : Dj kd k136 := Dj.app (dj54.symm) od.le hk136
              have nx194 : Nx 0 H0.size k136 := Nx.tr (nx39) hk136 hm0.size
              have nx195 : Nx 0 Hcut2.size k136 := Nx.tr (nx57) hk136 hlm3.size
              replace hx := hx.upL hs136 (DFL.cons df35 DFL.nil)
              replace hy := hy.upL hs136 (DFL.cons df36 DFL.nil)
              replace oo := oo.upL hs136 (DL.cons dj37 DL.nil)
              replace ot := ot.upL hs136 (DL.cons dj38 DL.nil)
              replace oa := oa.upL hs136 (DL.cons dj182.symm DL.nil)
              replace oc := oc.upL hs136 (DL.cons dj52.symm DL.nil)
              replace od := od.upL hs136 (DL.cons dj54.symm DL.nil)
              replace hm0 := (Mo.trL (ks := []) (hm0.mdn []) hs136 (MIL.cons (MI.app MI.z (nx39) (Nat.le_refl _)) MIL.nil)).nil
              replace hlm3 := (Mo.trL (ks := []) (hlm3.mdn []) hs136 (MIL.cons (MI.app MI.z (nx57) (Nat.le_refl _)) MIL.nil)).nil
              have hz31 := hs136.size
              have hle_ob := ob.le
              refine LR.v (Y.move rfl rfl) (Wd.u rfl) rfl rfl ?_
              refine LR.v (Y.move rfl rfl) (Wd.u rfl) rfl rfl ?_
              refine LR.z (Z.apndStr oc rfl inf32 Try.underlying9 rfl rfl (by have h1 := rng_len lnB (fun _ => by simp [lnB]) i; have h2 := rng_len (lnO ol) (lnO_len ol) i; have h3 := rng_len (lnT tl) (lnT_len tl) i; have h4 := rng_len (lnD ol tl) (lnD_len ol tl) i; (try simp only [List.length_append, List.length_cons, List.length_nil, lnB]); omega)) (Wd.u rfl) rfl rfl (fun v139 H139 r139 => ?_)
              obtain ⟨k139, oc, hk139, hs139⟩ := r139
              replace hk139 : Nx kc H136.size k139 := hk139
              replace hs139 := hs139.md
              have df196 := DF.app (df40) (bf_hx.mono hm0.size) hk139
              have df197 := DF.app (df41) (bf_hy.mono hm0.size) hk139
              have dj198 : Dj ((H27.size + 1)) k139 := Dj.app (dj42) oo.le hk139
              have dj199 : Dj ((H30.size + 1)) k139 := Dj.app (dj43) ot.le hk139
              have dj200 : Dj k133 k139 := Dj.app (dj183.symm) oa.le hk139
              have dj201 : Dj k136 k139 := Dj.app (dj192.symm) ob.le hk139
              have dj202 : Dj kd k139 := Dj.app (dj55.symm) od.le hk139
              have nx203 : Nx 0 H0.size k139 := Nx.tr (nx44) hk139 hm0.size
              have nx204 : Nx 0 Hcut2.size k139 := Nx.tr (nx58) hk139 hlm3.size
              replace hx := hx.upL hs139 (DFL.cons df40 DFL.nil)
              replace hy := hy.upL hs139 (DFL.cons df41 DFL.nil)
              replace oo := oo.upL hs139 (DL.cons dj42 DL.nil)
              replace ot := ot.upL hs139 (DL.cons dj43 DL.nil)
              replace oa := oa.upL hs139 (DL.cons dj183.symm DL.nil)
              replace ob := ob.upL hs139 (DL.cons dj192.symm DL.nil)
              replace od := od.upL hs139 (DL.cons dj55.symm DL.nil)
              replace hm0 := (Mo.trL (ks := []) (hm0.mdn []) hs139 (MIL.cons (MI.app MI.z (nx44) (Nat.le_refl _)) MIL.nil)).nil
              replace hlm3 := (Mo.trL (ks := []) (hlm3.mdn []) hs139 (MIL.cons (MI.app MI.z (nx58) (Nat.le_refl _)) MIL.nil)).nil
              have hz32 := hs139.size
              have hle_oc := oc.le
              refine LR.v (Y.move rfl rfl) (Wd.u rfl) rfl rfl ?_
              refine LR.v (Y.move rfl rfl) (Wd.u rfl) rfl rfl ?_
              refine LR.z (Z.apndStr od rfl inf32 Try.underlying9 rfl rfl (by have h1 := rng_len lnB (fun _ => by simp [lnB]) i; have h2 := rng_len (lnO ol) (lnO_len ol) i; have h3 := rng_len (lnT tl) (lnT_len tl) i; have h4 := rng_len (lnD ol tl) (lnD_len ol tl) i; (try simp only [List.length_append, List.length_cons, List.length_nil, lnB]); omega)) (Wd.u rfl) rfl rfl (fun v142 H142 r142 => ?_)
              obtain ⟨k142, od, hk142, hs142⟩ := r142
              replace hk142 : Nx kd H139.size k142 := hk142
              replace hs142 := hs142.md
              have df205 := DF.app (df45) (bf_hx.mono hm0.size) hk142
              have df206 := DF.app (df46) (bf_hy.mono hm0.size) hk142
              have dj207 : Dj ((H27.size + 1)) k142 := Dj.app (dj47) oo.le hk142
              have dj208 : Dj ((H30.size + 1)) k142 := Dj.app (dj48) ot.le hk142
              have dj209 : Dj k133 k142 := Dj.app (dj184.symm) oa.le hk142
              have dj210 : Dj k136 k142 := Dj.app (dj193.symm) ob.le hk142
              have dj211 : Dj k139 k142 := Dj.app (dj202.symm) oc.le hk142
              have nx212 : Nx 0 H0.size k142 := Nx.tr (nx49) hk142 hm0.size
              have nx213 : Nx 0 Hcut2.size k142 := Nx.tr (nx59) hk142 hlm3.size
              replace hx := hx.upL hs142 (DFL.cons df45 DFL.nil)
              replace hy := hy.upL hs142 (DFL.cons df46 DFL.nil)
              replace oo := oo.upL hs142 (DL.cons dj47 DL.nil)
              replace ot := ot.upL hs142 (DL.cons dj48 DL.nil)
              replace oa := oa.upL hs142 (DL.cons dj184.symm DL.nil)
              replace ob := ob.upL hs142 (DL.cons dj193.symm DL.nil)
              replace oc := oc.upL hs142 (DL.cons dj202.symm DL.nil)
              replace hm0 := (Mo.trL (ks := []) (hm0.mdn []) hs142 (MIL.cons (MI.app MI.z (nx49) (Nat.le_refl _)) MIL.nil)).nil
              replace hlm3 := (Mo.trL (ks := []) (hlm3.mdn []) hs142 (MIL.cons (MI.app MI.z (nx59) (Nat.le_refl _)) MIL.nil)).nil
              have hz33 := hs142.size
              have hle_od := od.le
              refine LR.v (Y.assign rfl rfl) (Wd.u rfl) rfl rfl ?_
              refine LR.v (Y.assign rfl rfl) (Wd.u rfl) rfl rfl ?_
              refine LR.v (Y.assign rfl rfl) (Wd.u rfl) rfl rfl ?_
              refine LR.v (Y.assign rfl rfl) (Wd.u rfl) rfl rfl ?_
              refine LR.nil ?_
              refine hK33 _ _ ?_
              refine hK32 _ _ ?_
              refine CW.region ?_
              refine LR.v (Y.move rfl rfl) (Wd.u rfl) rfl rfl ?_
              refine LR.v (Y.addi rfl rfl rfl (by omega)) (Wd.u rfl) rfl rfl ?_
              refine LR.v (Y.assign rfl rfl) (Wd.u rfl) rfl rfl ?_
              refine LR.nil ?_
              refine QN.sub (hN29 (i + 1, v133, k133, v136, k136, v139, k139, v142, k142) _ ?_ ?_) ⟨(iv (by omega)), rfl, rfl, rfl, rfl, rfl, rfl, (iv (by omega)), trivial⟩
              · exact ⟨(by omega), by rw [rng_snoc]; exact oa, by rw [rng_snoc, lnO]; first | (rw [if_pos ho]; exact ob) | (rw [if_neg ho]; exact ob), by rw [rng_snoc, lnT]; first | (rw [if_pos ht]; exact oc) | (rw [if_neg ht]; exact oc), by rw [rng_snoc, lnD, lnO, lnT]; first | (rw [if_pos ho, if_pos ho]; exact od) | (rw [if_neg ho, if_pos ht]; exact od) | (rw [if_neg ho, if_neg ht]; exact od), nx186, nx195, nx204, nx213, dj191, dj200, dj201, dj209, dj210, dj211, hlm3⟩
              · first | omega | (simp only; omega) | (simp; omega)
      ·
        have him : m = i := by omega
        have hT2 : TA i ol tl := him ▸ hT
        have hi30 : i ≤ 30 := by omega
        obtain ⟨am1, am2⟩ := apart_merge hi30 hT2
        have h1 := rng_len lnB (fun _ => by simp [lnB]) i
        have h2 := rng_len (lnO ol) (lnO_len ol) i
        have h3 := rng_len (lnT tl) (lnT_len tl) i
        refine CW.exit (hE30 (.exit 4) nofun _ _ (hE29 (.exit 4) nofun _ _ (hX28 _ _ ?_)))
        refine hK26 _ _ ?_
        refine CW.seq (fun K42 hK42 hE42 => ?_)
        refine CW.region ?_
        refine LR.v (Y.move rfl rfl) (Wd.u rfl) rfl rfl ?_
        refine LR.v (Y.move rfl rfl) (Wd.u rfl) rfl rfl ?_
        refine LR.v (Y.move rfl rfl) (Wd.u rfl) rfl rfl ?_
        -- call selvage/merge3.Merge
        refine LR.call rfl Try.call17 rfl (Wd.u rfl) rfl rfl (mergeT _ _ _ _ _ _ _ _ w0 _ oa.rd.any ob.rd.any oc.rd.any (by omega) (by omega) (by omega) (split_rng hi30 (fun i hi => lnB_eol (by omega) [] (by decide))) (split_rng hi30 (fun i hi => lnO_eol (by omega))) (split_rng hi30 (fun i hi => lnT_eol (by omega))) am1 am2) (fun v147 H147 r147 => ?_)
        obtain ⟨vm, km, rfl, om, hk147, hs147⟩ := r147
        have df214 := DF.app (DF.z) (bf_hx.mono hm0.size) hk147
        have df215 := DF.app (DF.z) (bf_hy.mono hm0.size) hk147
        have dj216 : Dj ((H27.size + 1)) km := Dj.app (Dj.z) oo.le hk147
        have dj217 : Dj ((H30.size + 1)) km := Dj.app (Dj.z) ot.le hk147
        have dj218 : Dj ka km := Dj.app (Dj.z) oa.le hk147
        have dj219 : Dj kb km := Dj.app (Dj.z) ob.le hk147
        have dj220 : Dj kc km := Dj.app (Dj.z) oc.le hk147
        have dj221 : Dj kd km := Dj.app (Dj.z) od.le hk147
        have nx222 : Nx 0 H0.size km := Nx.tr (Nx.refl 0 _) hk147 hm0.size
        replace hx := hx.nw hs147
        replace hy := hy.nw hs147
        replace oo := oo.nw hs147
        replace ot := ot.nw hs147
        replace oa := oa.nw hs147
        replace ob := ob.nw hs147
        replace oc := oc.nw hs147
        replace od := od.nw hs147
        replace hm0 := hm0.tr hs147
        have hz34 := hs147.size
        have hle_om := om.le
        refine LR.v (Y.move rfl rfl) (Wd.u rfl) rfl rfl ?_
        refine LR.v (Y.extract rfl rfl rfl) (Wd.u rfl) rfl rfl ?_
        refine LR.v (Y.extract rfl rfl rfl) (Wd.u rfl) rfl rfl ?_
        refine LR.v (Y.extract rfl rfl rfl) (Wd.u rfl) rfl rfl ?_
        refine LR.v (Y.assign rfl rfl) (Wd.u rfl) rfl rfl ?_
        refine LR.v (Y.assign rfl rfl) (Wd.u rfl) rfl rfl ?_
        refine LR.v (Y.assign rfl rfl) (Wd.u rfl) rfl rfl ?_
        refine LR.nil ?_
        refine hK42 _ _ ?_
        refine CW.seq (fun K43 hK43 hE43 => ?_)
        refine CW.region ?_
        refine LR.v (Y.move rfl rfl) (Wd.u rfl) rfl rfl ?_
        refine LR.v ((Y.eql rfl rfl rfl).isT (rfl)) (Wd.u rfl) rfl rfl ?_
        refine LR.v (Y.move rfl rfl) (Wd.u rfl) rfl rfl ?_
        refine LR.v (Y.move rfl rfl) (Wd.g rfl rfl rfl) rfl rfl ?_
        refine LR.v (Y.pick_t rfl rfl rfl) (Wd.u rfl) rfl rfl ?_
        refine LR.v (Y.move rfl rfl) (Wd.u rfl) rfl rfl ?_
        refine LR.v (Y.move rfl rfl) (Wd.g rfl rfl rfl) rfl rfl ?_
        refine LR.v (Y.bstr om.rd rfl Try.underlying32 Try.underlying9 Try.underlying5 rfl) (Wd.g rfl rfl rfl) rfl rfl ?_
        refine LR.v (Y.move rfl rfl) (Wd.g rfl rfl rfl) rfl rfl ?_
        refine LR.v (Y.bstr od.rd rfl Try.underlying32 Try.underlying9 Try.underlying5 rfl) (Wd.g rfl rfl rfl) rfl rfl ?_
        refine LR.v ((Y.seql rfl rfl rfl).isT (rfl)) (Wd.g rfl rfl rfl) rfl rfl ?_
        refine LR.v (Y.pick_t rfl rfl rfl) (Wd.u rfl) rfl rfl ?_
        refine LR.v (Y.assign rfl rfl) (Wd.u rfl) rfl rfl ?_
        refine LR.nil ?_
        refine hK43 _ _ ?_
        refine CW.ret (hret .ret (.inr rfl) _ _ _ (res1 rfl rfl) ?_)
        exact ⟨rfl, hm0⟩

end Go.Proofs.Ytadgeooceeilpaa.MerR
