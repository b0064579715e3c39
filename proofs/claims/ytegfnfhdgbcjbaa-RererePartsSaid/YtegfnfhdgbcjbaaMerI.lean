/-
  Laws of chunks: sides changed about, one side as base.
-/
import Derived.Test.YtegfnfhdgbcjbaaMerH
namespace Go.Proofs.Ytegfnfhdgbcjbaa.MerI
open Go.Proofs.Ytegfnfhdgbcjbaa.E Go.RowKit Go.Proofs.Ytegfnfhdgbcjbaa.LinM Go.Proofs.Ytegfnfhdgbcjbaa.LinA Go.Proofs.Ytegfnfhdgbcjbaa.LinC Go.Proofs.Ytegfnfhdgbcjbaa.LinF Go.Proofs.Ytegfnfhdgbcjbaa.LinL Go.Proofs.Ytegfnfhdgbcjbaa.LinN Go.Proofs.Ytegfnfhdgbcjbaa.MerA Go.Proofs.Ytegfnfhdgbcjbaa.MerB Go.Proofs.Ytegfnfhdgbcjbaa.MerC Go.Proofs.Ytegfnfhdgbcjbaa.MerD Go.Proofs.Ytegfnfhdgbcjbaa.MerE Go.Proofs.Ytegfnfhdgbcjbaa.MerF Go.Proofs.Ytegfnfhdgbcjbaa.MerG Go.Proofs.Ytegfnfhdgbcjbaa.MerH
set_option linter.unusedVariables false
set_option linter.unusedSimpArgs false
set_option linter.unusedSectionVars false

/-! what holds of all chunks -/
def GoodC (c : Cn) : Prop := c.1 = kindL c.2.1 c.2.2.1 c.2.2.2 ∧ ¬ c.2.1.length + c.2.2.1.length + c.2.2.2.length = 0
theorem kind0 {b o t : List (List UInt8)} : kindL b o t = 0 ↔ b = o ∧ b = t := by
  unfold kindL kB
  by_cases h1 : b = o <;> by_cases h2 : b = t <;> by_cases h3 : o = t <;> simp [h1, h2, h3]
  all_goals (try (subst h1)); (try (subst h2)); simp_all
theorem addG_all {R : List (List UInt8) → List (List UInt8) → List (List UInt8) → Prop} (hr : ∀ x, R x x x) {cs : List Cn} {b o t : List (List UInt8)} (h : ∀ c ∈ cs, GoodC c ∧ R c.2.1 c.2.2.1 c.2.2.2) (hn : R b o t) : ∀ c ∈ addG cs b o t, GoodC c ∧ R c.2.1 c.2.2.1 c.2.2.2 := by
  intro c hc
  unfold addG addC at hc
  split at hc
  · exact h c hc
  · rename_i h0
    split at hc
    · rcases List.mem_append.1 hc with hc | hc
      · exact h c hc
      · rw [List.mem_singleton] at hc; subst hc; exact ⟨⟨rfl, h0⟩, hn⟩
    · rename_i hh
      rcases List.mem_append.1 hc with hc | hc
      · exact h c (List.dropLast_subset _ hc)
      · rw [List.mem_singleton] at hc
        have hl : lastC cs ∈ cs := by
          have e := snocC (cs := cs) (by omega)
          have h9 : lastC cs ∈ cs.dropLast ++ [lastC cs] := by simp
          rw [e] at h9; exact h9
        obtain ⟨⟨g1, g2⟩, _⟩ := h _ hl
        have k1 : kindL b o t = 0 := by omega
        have k2 : (lastC cs).1 = 0 := by omega
        rw [k2] at g1
        obtain ⟨e1, e2⟩ := kind0.1 k1
        obtain ⟨e3, e4⟩ := kind0.1 g1.symm
        subst hc
        subst e1; subst e2
        rw [k2]
        simp only
        rw [← e3, ← e4]
        refine ⟨⟨?_, ?_⟩, hr _⟩
        · exact (kind0.2 ⟨rfl, rfl⟩).symm
        · simp only [List.length_append]; omega
theorem chunks_all {R : List (List UInt8) → List (List UInt8) → List (List UInt8) → Prop} (J : Nat → Nat → Nat → Prop) {a o t : List (List UInt8)} (hr : ∀ x, R x x x) (j0 : J 0 0 0)
    (hst : ∀ k x y f i j : Nat, k < a.length → (parts a o).getD k 0 = x → (parts a t).getD k 0 = y → x < o.length → y < t.length → f ≤ k → i ≤ x → j ≤ y → o[x]? = a[k]? → t[y]? = a[k]? → J f i j → R (slL a f k) (slL o i x) (slL t j y) ∧ J (k + 1) (x + 1) (y + 1))
    (hsk : ∀ k f i j : Nat, k < a.length → (parts a o).getD k 0 < 0 ∨ (parts a t).getD k 0 < 0 → J f i j → J f i j)
    (hend : ∀ f i j, f ≤ a.length → J f i j → R (a.drop f) (o.drop i) (t.drop j)) : ∀ c ∈ chunksL a o t, GoodC c ∧ R c.2.1 c.2.2.1 c.2.2.2 := by
  have key : ∀ k, k ≤ a.length → (∀ c ∈ (chS a o t (parts a o) (parts a t) k).1, GoodC c ∧ R c.2.1 c.2.2.1 c.2.2.2) ∧ J (chS a o t (parts a o) (parts a t) k).2.1 (chS a o t (parts a o) (parts a t) k).2.2.1 (chS a o t (parts a o) (parts a t) k).2.2.2 := by
    intro k
    induction k with
    | zero => intro _; exact ⟨(fun c hc => by cases hc), j0⟩
    | succ k ih =>
      intro hk
      obtain ⟨h1, h2⟩ := ih (by omega)
      by_cases hng : (parts a o).getD k 0 < 0 ∨ (parts a t).getD k 0 < 0
      · rw [chS_skip hng]; exact ⟨h1, h2⟩
      · obtain ⟨x, y, hx, hy, hxl, hyl, f1, f2, f3, e1, e2⟩ := chS_at (parts_al a o) (parts_al a t) (by omega) hng
        obtain ⟨r1, r2⟩ := hst k x y _ _ _ (by omega) hx hy hxl hyl f1 f2 f3 e1 e2 h2
        rw [chS_go hx hy]
        refine ⟨?_, r2⟩
        refine addG_all hr (addG_all hr h1 r1) ?_
        rw [sl_one e1 hxl (by omega), sl_one e2 hyl (by omega)]
        exact hr _
  obtain ⟨h1, h2⟩ := key a.length (Nat.le_refl _)
  rw [chunksL, chF]
  exact addG_all hr h1 (hend _ _ _ (chS_ups (parts_al a o) (parts_al a t) a.length (Nat.le_refl _)).f h2)
theorem chunks_good (a o t : List (List UInt8)) : ∀ c ∈ chunksL a o t, GoodC c := fun c hc => (chunks_all (R := fun _ _ _ => True) (fun _ _ _ => True) (fun _ => trivial) trivial (fun _ _ _ _ _ _ _ _ _ _ _ _ _ _ _ _ _ => ⟨trivial, trivial⟩) (fun _ _ _ _ _ _ h => h) (fun _ _ _ _ _ => trivial) c hc).1
/-! changed about -/
def swk (k : Int) : Int := if k = 1 then 2 else if k = 2 then 1 else k
def swC (c : Cn) : Cn := (swk c.1, c.2.1, c.2.2.2, c.2.2.1)
theorem swk_swk (k : Int) : swk (swk k) = k := by unfold swk; split <;> (try split) <;> (try split) <;> omega
theorem swC_swC (c : Cn) : swC (swC c) = c := by simp [swC, swk_swk]
theorem kind_sw (b o t : List (List UInt8)) : kindL b t o = swk (kindL b o t) := by
  unfold kindL kB swk
  by_cases h1 : b = o <;> by_cases h2 : b = t <;> by_cases h3 : o = t <;> simp [h1, h2, h3]
  all_goals (try (subst h1)); (try (subst h2)); (try (subst h3)); (try simp_all)
  all_goals (try (intro e; exact absurd e.symm h3))
theorem lastC_sw (cs : List Cn) : lastC (cs.map swC) = swC (lastC cs) := by
  rcases List.eq_nil_or_concat cs with rfl | ⟨l0, y, rfl⟩
  · rfl
  · rw [List.concat_eq_append]; simp [lastC]
theorem addG_sw (cs : List Cn) (b o t : List (List UInt8)) : addG (cs.map swC) b t o = (addG cs b o t).map swC := by
  have hz : ∀ k : Int, swk k = 0 ↔ k = 0 := by intro k; unfold swk; split <;> (try split) <;> omega
  unfold addG addC
  rw [lastC_sw, kind_sw]
  by_cases h0 : b.length + o.length + t.length = 0
  · rw [if_pos (by omega), if_pos h0]
  · rw [if_neg (by omega), if_neg h0]
    by_cases h1 : cs.length = 0 ∨ kindL b o t ≠ 0 ∨ (lastC cs).1 ≠ 0
    · rw [if_pos (by rw [List.length_map]; simp only [swC, ne_eq, hz]; exact h1), if_pos h1]; simp [swC]
    · rw [if_neg (by rw [List.length_map]; simp only [swC, ne_eq, hz]; exact h1), if_neg h1]; simp [swC, List.map_dropLast]
def swS (s : List Cn × Nat × Nat × Nat) : List Cn × Nat × Nat × Nat := (s.1.map swC, s.2.1, s.2.2.2, s.2.2.1)
theorem chS_sw (a o t : List (List UInt8)) (P Q : List Int) : ∀ k, chS a t o Q P k = swS (chS a o t P Q k)
  | 0 => rfl
  | k + 1 => by
    rw [chS, chS, chS_sw a o t P Q k]
    by_cases h : P.getD k 0 < 0 ∨ Q.getD k 0 < 0
    · rw [if_pos h, if_pos (by omega)]
    · rw [if_neg h, if_neg (by omega)]
      simp only [swS, addG_sw]
theorem chunks_sw (a o t : List (List UInt8)) : chunksL a t o = (chunksL a o t).map swC := by
  rw [chunksL, chunksL, chF, chF, chS_sw]
  simp only [swS, addG_sw]
theorem clean_sw (cs : List Cn) : cleanL (cs.map swC) = cleanL cs := by
  have hz : ∀ k : Int, swk k = 4 ↔ k = 4 := by intro k; unfold swk; split <;> (try split) <;> omega
  unfold cleanL
  rw [List.all_map]
  apply List.all_congr rfl
  intro c
  simp [swC, hz]
theorem kind3 {b o t : List (List UInt8)} (h : kindL b o t = 3) : o = t := by
  unfold kindL kB at h
  by_cases h1 : b = o <;> by_cases h2 : b = t <;> by_cases h3 : o = t <;> simp [h1, h2, h3] at h
  all_goals first | exact h3 | (subst h1; subst h2; rfl) | exact absurd h (by split <;> decide)
theorem rend1_sw {c : Cn} (hg : GoodC c) (h : c.1 ≠ 4) : rend1 (swC c) = rend1 c := by
  obtain ⟨k, b, o, t⟩ := c
  obtain ⟨h1, _⟩ := hg
  simp only at h1 h
  by_cases e0 : k = 0
  · rw [r1_0 (c := (k, b, o, t)) e0, r1_0 (by simp [swC, e0, swk])]; rfl
  · by_cases e1 : k = 1
    · rw [r1_1 (c := (k, b, o, t)) (.inl e1), r1_2 (by simp [swC, e1, swk])]; rfl
    · by_cases e2 : k = 2
      · rw [r1_2 (c := (k, b, o, t)) e2, r1_1 (.inl (by simp [swC, e2, swk]))]; rfl
      · by_cases e3 : k = 3
        · have := kind3 (h1.symm.trans e3)
          subst this
          rw [r1_1 (c := (k, b, o, o)) (.inr e3), r1_1 (.inr (by simp [swC, e3, swk]))]; rfl
        · rw [r1_x (c := (k, b, o, t)) e0 e1 e2 e3 h, r1_x (by simp [swC, swk, e0, e1, e2]) (by simp [swC, swk, e1, e2]) (by simp [swC, swk, e1, e2]) (by simp [swC, swk, e1, e2, e3]) (by simp [swC, swk, e1, e2, h])]
theorem rend_congr {cs : List Cn} {f : Cn → Cn} (h : ∀ c ∈ cs, rend1 (f c) = rend1 c) : rendL (cs.map f) = rendL cs := by
  unfold rendL
  rw [List.map_map, List.map_congr_left (f := rend1 ∘ f) (g := rend1) (fun c hc => h c hc)]
theorem clean_ne {cs : List Cn} (h : cleanL cs = true) : ∀ c ∈ cs, c.1 ≠ 4 := fun c hc => by
  have := List.all_eq_true.1 h c hc
  simpa using this
theorem rend_sw {cs : List Cn} (hg : ∀ c ∈ cs, GoodC c) (h : cleanL cs = true) : rendL (cs.map swC) = rendL cs := rend_congr (fun c hc => rend1_sw (hg c hc) (clean_ne h c hc))
/-! one side is as base, or both are the same -/
theorem W_self : ∀ (a : List (List UInt8)), W a a = List.replicate a.length 0
  | [] => by rw [W_nil]; rfl
  | x :: a => by rw [W_same, W_self a]; rfl
theorem prt_rep : ∀ (n i : Nat) (k : Nat), k < n → (prt (List.replicate n 0) i).getD k 0 = ((i + k : Nat) : Int)
  | 0, _, _, h => by omega
  | n + 1, i, 0, _ => by rw [List.replicate_succ, prt, if_pos rfl]; simp
  | n + 1, i, k + 1, h => by
    rw [List.replicate_succ, prt, if_pos rfl]
    have := prt_rep n (i + 1) k (by omega)
    rw [List.getD_cons_succ, this]
    omega
theorem parts_self (a : List (List UInt8)) (k : Nat) (h : k < a.length) : (parts a a).getD k 0 = (k : Int) := by
  rw [parts, pfold, prt_fold, W_self]
  simpa using prt_rep a.length 0 k h
theorem all_r1 {cs : List Cn} {g : Cn → List (List UInt8)} (h : ∀ c ∈ cs, c.1 ≠ 4 ∧ rend1 c = (g c).flatten) : cleanL cs = true ∧ rendL cs = ((cs.map g).flatten).flatten := by
  refine ⟨List.all_eq_true.2 (fun c hc => by simpa using (h c hc).1), ?_⟩
  unfold rendL
  rw [List.map_congr_left (fun c hc => (h c hc).2), List.flatten_flatten]
  simp [Function.comp_def]
theorem kindL_t {b o : List (List UInt8)} : kindL b o b = 0 ∧ b = o ∨ kindL b o b = 1 := by
  by_cases h : b = o
  · left; exact ⟨kind0.2 ⟨h, rfl⟩, h⟩
  · right; exact kd1 (fun e => h e.symm) rfl
theorem kindL_s {b o : List (List UInt8)} : kindL b o o = 0 ∧ b = o ∨ kindL b o o = 3 := by
  by_cases h : b = o
  · left; exact ⟨kind0.2 ⟨h, h⟩, h⟩
  · right; exact kd3 (fun e => h e.1.symm) rfl
/-- theirs as base -/
theorem one_base (a o : List (List UInt8)) : cleanL (chunksL a o a) = true ∧ rendL (chunksL a o a) = o.flatten := by
  have h : ∀ c ∈ chunksL a o a, GoodC c ∧ c.2.2.2 = c.2.1 := by
    refine chunks_all (R := fun b _ t => t = b) (fun f _ j => j = f) (fun _ => rfl) rfl ?_ (fun _ _ _ _ _ _ h => h) (fun f i j _ hJ => by subst hJ; rfl)
    intro k x y f i j hk hx hy _ _ _ _ _ _ _ hJ
    rw [parts_self a k hk] at hy
    obtain rfl : k = y := by omega
    subst hJ
    exact ⟨rfl, rfl⟩
  obtain ⟨h1, h2⟩ := all_r1 (cs := chunksL a o a) (g := fun c => c.2.2.1) (fun c hc => by
    obtain ⟨⟨g1, _⟩, g2⟩ := h c hc
    obtain ⟨k, b, o', t⟩ := c
    simp only at g1 g2
    subst g2
    rcases kindL_t (b := t) (o := o') with ⟨k0, rfl⟩ | k1
    · rw [k0] at g1; subst g1; exact ⟨by simp, r1_0 rfl⟩
    · rw [k1] at g1; subst g1; exact ⟨by simp, r1_1 (.inl rfl)⟩)
  exact ⟨h1, by rw [h2, (chunks_cat a o a).2.1]⟩
theorem one_same (a o : List (List UInt8)) : cleanL (chunksL a o o) = true ∧ rendL (chunksL a o o) = o.flatten := by
  have h : ∀ c ∈ chunksL a o o, GoodC c ∧ c.2.2.2 = c.2.2.1 := by
    refine chunks_all (R := fun _ o t => t = o) (fun _ i j => j = i) (fun _ => rfl) rfl ?_ (fun _ _ _ _ _ _ h => h) (fun f i j _ hJ => by subst hJ; rfl)
    intro k x y f i j hk hx hy _ _ _ _ _ _ _ hJ
    rw [hx] at hy
    obtain rfl : x = y := by omega
    subst hJ
    exact ⟨rfl, rfl⟩
  obtain ⟨h1, h2⟩ := all_r1 (cs := chunksL a o o) (g := fun c => c.2.2.1) (fun c hc => by
    obtain ⟨⟨g1, _⟩, g2⟩ := h c hc
    obtain ⟨k, b, o', t⟩ := c
    simp only at g1 g2
    subst g2
    rcases kindL_s (b := b) (o := t) with ⟨k0, rfl⟩ | k1
    · rw [k0] at g1; subst g1; exact ⟨by simp, r1_0 rfl⟩
    · rw [k1] at g1; subst g1; exact ⟨by simp, r1_1 (.inr rfl)⟩)
  exact ⟨h1, by rw [h2, (chunks_cat a o o).2.1]⟩
theorem one_ours (a t : List (List UInt8)) : cleanL (chunksL a a t) = true ∧ rendL (chunksL a a t) = t.flatten := by
  obtain ⟨h1, h2⟩ := one_base a t
  rw [chunks_sw a t a]
  exact ⟨by rw [clean_sw, h1], by rw [rend_sw (chunks_good a t a) h1, h2]⟩

end Go.Proofs.Ytegfnfhdgbcjbaa.MerI
