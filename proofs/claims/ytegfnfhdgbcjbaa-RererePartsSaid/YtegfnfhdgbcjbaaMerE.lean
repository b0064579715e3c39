/-
  Three sides are taken to pieces.
-/
import Derived.Test.YtegfnfhdgbcjbaaMerD
namespace Go.Proofs.Ytegfnfhdgbcjbaa.MerE
open Go.Proofs.Ytegfnfhdgbcjbaa.E Go.RowKit Go.Proofs.Ytegfnfhdgbcjbaa.LinM Go.Proofs.Ytegfnfhdgbcjbaa.LinA Go.Proofs.Ytegfnfhdgbcjbaa.LinC Go.Proofs.Ytegfnfhdgbcjbaa.LinF Go.Proofs.Ytegfnfhdgbcjbaa.MerA Go.Proofs.Ytegfnfhdgbcjbaa.MerB Go.Proofs.Ytegfnfhdgbcjbaa.MerC Go.Proofs.Ytegfnfhdgbcjbaa.MerD
set_option linter.unusedVariables false
set_option linter.unusedSimpArgs false
set_option linter.unusedSectionVars false
set_option maxRecDepth 100000 in
theorem inf32 : Inf Try.prog 32 9 1 16 := ⟨Try.underlying32, _, _, rfl, rfl, rfl, rfl, rfl⟩

/-- one gap more -/
def addG (cs : List Cn) (b o t : List (List UInt8)) : List Cn := addC cs (kindL b o t) b o t
def slL (l : List (List UInt8)) (i j : Nat) : List (List UInt8) := (l.take j).drop i
/-- the pieces up to the k-th line of base, and how far the three sides are taken -/
def chS (a o t : List (List UInt8)) (P Q : List Int) : Nat → List Cn × Nat × Nat × Nat
  | 0 => ([], 0, 0, 0)
  | k + 1 =>
    if P.getD k 0 < 0 ∨ Q.getD k 0 < 0 then chS a o t P Q k else
      (addG (addG (chS a o t P Q k).1 (slL a (chS a o t P Q k).2.1 k) (slL o (chS a o t P Q k).2.2.1 (P.getD k 0).toNat) (slL t (chS a o t P Q k).2.2.2 (Q.getD k 0).toNat))
        (slL a k (k + 1)) (slL o (P.getD k 0).toNat ((P.getD k 0).toNat + 1)) (slL t (Q.getD k 0).toNat ((Q.getD k 0).toNat + 1)), k + 1, (P.getD k 0).toNat + 1, (Q.getD k 0).toNat + 1)
def chF (a o t : List (List UInt8)) (P Q : List Int) : List Cn :=
  addG (chS a o t P Q a.length).1 (a.drop (chS a o t P Q a.length).2.1) (o.drop (chS a o t P Q a.length).2.2.1) (t.drop (chS a o t P Q a.length).2.2.2)
/-- the chunks of three texts -/
def chunksL (a o t : List (List UInt8)) : List Cn := chF a o t (parts a o) (parts a t)
/-- each line of a has a partner in b, or none; they rise -/
structure Al (P : List Int) (a b : List (List UInt8)) : Prop where
  len : P.length = a.length
  val : ∀ (k : Nat) (x : Int), P[k]? = some x → x = -1 ∨ ∃ j : Nat, x = j ∧ j < b.length ∧ a[k]? = b[j]?
  mono : ∀ (k k2 : Nat) (x y : Int), k < k2 → P[k]? = some x → P[k2]? = some y → 0 ≤ x → 0 ≤ y → x < y
/-- the ops of a script, carried out: partners of what is left -/
def prt : List Int → Nat → List Int
  | [], _ => []
  | o :: ops, i => if o = 0 then (i : Int) :: prt ops (i + 1) else if o = 2 then prt ops (i + 1) else -1 :: prt ops i
theorem prt_fold : ∀ (ops : List Int) (s : List Int × Nat), (ops.foldl pst s).1 = s.1 ++ prt ops s.2 := by
  intro ops
  induction ops with
  | nil => intro s; simp [prt]
  | cons o ops ih =>
    intro s
    rw [List.foldl_cons, ih, prt, pst]
    split
    · simp
    · split
      · rfl
      · simp
theorem prt_ge : ∀ (ops : List Int) (i : Nat), ∀ x ∈ prt ops i, x = -1 ∨ (i : Int) ≤ x := by
  intro ops
  induction ops with
  | nil => intro i x hx; cases hx
  | cons o ops ih =>
    intro i x hx
    rw [prt] at hx
    split at hx
    · rcases List.mem_cons.1 hx with rfl | hx
      · exact .inr (Int.le_refl _)
      · rcases ih _ _ hx with h | h
        · exact .inl h
        · exact .inr (by omega)
    · split at hx
      · rcases ih _ _ hx with h | h
        · exact .inl h
        · exact .inr (by omega)
      · rcases List.mem_cons.1 hx with rfl | hx
        · exact .inl rfl
        · exact ih _ _ hx
theorem prt_al : ∀ (n : Nat) (a b c : List (List UInt8)), a.length + b.length ≤ n → Al (prt (W a b) c.length) a (c ++ b) := by
  intro n
  induction n with
  | zero =>
    intro a b c h
    obtain rfl := List.eq_nil_of_length_eq_zero (show a.length = 0 by omega)
    obtain rfl := List.eq_nil_of_length_eq_zero (show b.length = 0 by omega)
    rw [W_nil]
    exact ⟨rfl, fun k x e => by simp [prt] at e, fun k k2 x y _ e => by simp [prt] at e⟩
  | succ n ih =>
    intro a b c h
    have del : ∀ (x : List UInt8) (xs : List (List UInt8)), a = x :: xs → W a b = 1 :: W xs b → Al (prt (W a b) c.length) a (c ++ b) := by
      intro x xs ea e
      subst ea
      have h2 := ih xs b c (by simp at h; omega)
      rw [e, prt, if_neg (by decide), if_neg (by decide)]
      refine ⟨by simp [h2.len], fun k z ez => ?_, fun k k2 z y hk ez ey h3 h4 => ?_⟩
      · cases k with
        | zero => simp at ez; exact .inl ez.symm
        | succ k => simpa using h2.val k z (by simpa using ez)
      · cases k2 with
        | zero => omega
        | succ k2 =>
          cases k with
          | zero => simp at ez; omega
          | succ k => exact h2.mono k k2 z y (by omega) (by simpa using ez) (by simpa using ey) h3 h4
    have ins : ∀ (y : List UInt8) (ys : List (List UInt8)), b = y :: ys → W a b = 2 :: W a ys → Al (prt (W a b) c.length) a (c ++ b) := by
      intro y ys eb e
      subst eb
      have h2 := ih a ys (c ++ [y]) (by simp at h; omega)
      rw [e, prt, if_neg (by decide), if_pos rfl]
      simpa using h2
    cases a with
    | nil =>
      cases b with
      | nil => rw [W_nil]; exact ⟨rfl, fun k x e => by simp [prt] at e, fun k k2 x y _ e => by simp [prt] at e⟩
      | cons y ys => exact ins y ys rfl (W_ins [] y ys (fun x xs' e => by cases e))
    | cons x xs =>
      cases b with
      | nil => exact del x xs rfl (W_del x xs [] (fun y ys' e => by cases e) (by rw [lcs_nil_right, lcs_nil_right]))
      | cons y ys =>
        by_cases hxy : x = y
        · subst hxy
          have h2 := ih xs ys (c ++ [x]) (by simp at h; omega)
          rw [W_same, prt, if_pos rfl]
          have e1 : (c ++ [x]).length = c.length + 1 := by simp
          rw [e1] at h2
          refine ⟨by simp [h2.len], fun k z ez => ?_, fun k k2 z w hk ez ew h3 h4 => ?_⟩
          · cases k with
            | zero => simp at ez; exact .inr ⟨c.length, ez.symm, by simp, by simp⟩
            | succ k =>
              rcases h2.val k z (by simpa using ez) with h5 | ⟨j, h5, h6, h7⟩
              · exact .inl h5
              · exact .inr ⟨j, h5, by simp at h6 ⊢; omega, by simpa using h7⟩
          · cases k2 with
            | zero => omega
            | succ k2 =>
              cases k with
              | zero =>
                simp at ez ew
                rcases prt_ge _ _ w (List.mem_of_getElem? ew) with h5 | h5
                · omega
                · omega
              | succ k => exact h2.mono k k2 z w (by omega) (by simpa using ez) (by simpa using ew) h3 h4
        · by_cases hd : lcs xs (y :: ys) = lcs (x :: xs) (y :: ys)
          · exact del x xs rfl (W_del x xs (y :: ys) (fun y' ys' e => by cases e; exact hxy) hd)
          · exact ins y ys rfl (W_ins (x :: xs) y ys (fun x' xs' e => by cases e; exact ⟨hxy, hd⟩))
theorem parts_al (a b : List (List UInt8)) : Al (parts a b) a b := by
  have h := prt_al _ a b [] (Nat.le_refl _)
  rw [parts, pfold, prt_fold]
  simpa using h
theorem Al.get {P : List Int} {a b : List (List UInt8)} (h : Al P a b) (k : Nat) (hk : k < P.length) : P[k] = P.getD k 0 := by simp [List.getD, hk]
/-- how far a side is taken is not beyond the partner of any line to come -/
structure Ups (a o t : List (List UInt8)) (P Q : List Int) (k : Nat) (s : List Cn × Nat × Nat × Nat) : Prop where
  f : s.2.1 ≤ k
  i : s.2.2.1 ≤ o.length
  j : s.2.2.2 ≤ t.length
  p : ∀ (k2 : Nat) (x : Int), k ≤ k2 → P[k2]? = some x → 0 ≤ x → (s.2.2.1 : Int) ≤ x
  q : ∀ (k2 : Nat) (x : Int), k ≤ k2 → Q[k2]? = some x → 0 ≤ x → (s.2.2.2 : Int) ≤ x
  cat : (s.1.map (fun c => c.2.1)).flatten = a.take s.2.1 ∧ (s.1.map (fun c => c.2.2.1)).flatten = o.take s.2.2.1 ∧ (s.1.map (fun c => c.2.2.2)).flatten = t.take s.2.2.2
  n : s.1.length ≤ 2 * k
theorem snocC {cs : List Cn} (h : cs.length ≠ 0) : cs.dropLast ++ [lastC cs] = cs := by
  rcases List.eq_nil_or_concat cs with rfl | ⟨l0, y, rfl⟩
  · exact absurd rfl h
  · rw [List.concat_eq_append]; simp [lastC]
theorem addC_cat {g : Cn → List (List UInt8)} (cs : List Cn) (kd : Int) (b o t : List (List UInt8)) (hz : b.length + o.length + t.length = 0 → g (kd, b, o, t) = []) (hg : ∀ c : Cn, g (c.1, c.2.1 ++ b, c.2.2.1 ++ o, c.2.2.2 ++ t) = g c ++ g (kd, b, o, t)) :
    ((addC cs kd b o t).map g).flatten = (cs.map g).flatten ++ g (kd, b, o, t) := by
  unfold addC
  split
  · rename_i h; rw [hz h, List.append_nil]
  · split
    · simp
    · rename_i h
      conv => rhs; rw [← snocC (cs := cs) (by omega)]
      simp [hg]
theorem addC_len (cs : List Cn) (kd : Int) (b o t : List (List UInt8)) : (addC cs kd b o t).length ≤ cs.length + 1 := by
  unfold addC
  split
  · omega
  · split
    · simp
    · simp
theorem addG_len (cs : List Cn) (b o t : List (List UInt8)) : (addG cs b o t).length ≤ cs.length + 1 := addC_len _ _ _ _ _
theorem z1 {b o t : List (List UInt8)} (h : b.length + o.length + t.length = 0) : b = [] ∧ o = [] ∧ t = [] :=
  ⟨List.eq_nil_of_length_eq_zero (by omega), List.eq_nil_of_length_eq_zero (by omega), List.eq_nil_of_length_eq_zero (by omega)⟩
theorem addG_cat (cs : List Cn) (b o t : List (List UInt8)) : ((addG cs b o t).map (fun c => c.2.1)).flatten = (cs.map (fun c => c.2.1)).flatten ++ b ∧ ((addG cs b o t).map (fun c => c.2.2.1)).flatten = (cs.map (fun c => c.2.2.1)).flatten ++ o ∧ ((addG cs b o t).map (fun c => c.2.2.2)).flatten = (cs.map (fun c => c.2.2.2)).flatten ++ t :=
  ⟨addC_cat _ _ _ _ _ (fun h => (z1 h).1) (fun _ => rfl), addC_cat _ _ _ _ _ (fun h => (z1 h).2.1) (fun _ => rfl), addC_cat _ _ _ _ _ (fun h => (z1 h).2.2) (fun _ => rfl)⟩
theorem sl_app (l : List (List UInt8)) {i j : Nat} (h : i ≤ j) : l.take i ++ slL l i j = l.take j := by
  unfold slL
  have e : l.take i = (l.take j).take i := by rw [List.take_take, Nat.min_eq_left h]
  rw [e, List.take_append_drop]
theorem chS_ups {a o t : List (List UInt8)} {P Q : List Int} (hP : Al P a o) (hQ : Al Q a t) : ∀ k, k ≤ a.length → Ups a o t P Q k (chS a o t P Q k) := by
  intro k
  induction k with
  | zero => intro _; exact ⟨Nat.le_refl _, Nat.zero_le _, Nat.zero_le _, fun _ x _ _ h => h, fun _ x _ _ h => h, ⟨rfl, rfl, rfl⟩, Nat.le_refl _⟩
  | succ k ih =>
    intro hk
    have u := ih (by omega)
    have e1 : P[k]? = some (P.getD k 0) := by simp [List.getD, hP.len, show k < a.length by omega]
    have e2 : Q[k]? = some (Q.getD k 0) := by simp [List.getD, hQ.len, show k < a.length by omega]
    rw [chS]
    split
    · exact ⟨by have := u.f; omega, u.i, u.j, fun k2 x h => u.p k2 x (by omega), fun k2 x h => u.q k2 x (by omega), u.cat, by have := u.n; omega⟩
    · rename_i hh
      obtain ⟨x, hx⟩ : ∃ x : Nat, P.getD k 0 = x := ⟨(P.getD k 0).toNat, by omega⟩
      obtain ⟨y, hy⟩ : ∃ y : Nat, Q.getD k 0 = y := ⟨(Q.getD k 0).toNat, by omega⟩
      rw [hx] at e1; rw [hy] at e2
      have hxl : x < o.length := by
        rcases hP.val k _ e1 with h | ⟨j, h1, h2, _⟩
        · omega
        · omega
      have hyl : y < t.length := by
        rcases hQ.val k _ e2 with h | ⟨j, h1, h2, _⟩
        · omega
        · omega
      have hpx := u.p k _ (Nat.le_refl _) e1 (by omega)
      have hqy := u.q k _ (Nat.le_refl _) e2 (by omega)
      have hf := u.f
      simp only [hx, hy, Int.toNat_natCast]
      obtain ⟨c1, c2, c3⟩ := u.cat
      refine ⟨Nat.le_refl _, by show x + 1 ≤ _; omega, by show y + 1 ≤ _; omega, fun k2 z h3 h4 h5 => ?_, fun k2 z h3 h4 h5 => ?_, ⟨?_, ?_, ?_⟩, ?_⟩
      · have := hP.mono k k2 _ z (by omega) e1 h4 (by omega) h5; show ((x + 1 : Nat) : Int) ≤ z; omega
      · have := hQ.mono k k2 _ z (by omega) e2 h4 (by omega) h5; show ((y + 1 : Nat) : Int) ≤ z; omega
      · show _ = a.take (k + 1)
        rw [(addG_cat _ _ _ _).1, (addG_cat _ _ _ _).1, c1, sl_app _ hf, sl_app _ (by omega)]
      · show _ = o.take (x + 1)
        rw [(addG_cat _ _ _ _).2.1, (addG_cat _ _ _ _).2.1, c2, sl_app _ (by omega), sl_app _ (by omega)]
      · show _ = t.take (y + 1)
        rw [(addG_cat _ _ _ _).2.2, (addG_cat _ _ _ _).2.2, c3, sl_app _ (by omega), sl_app _ (by omega)]
      · refine Nat.le_trans (addG_len _ _ _ _) ?_
        have h2 := addG_len (chS a o t P Q k).1 (slL a (chS a o t P Q k).2.1 k) (slL o (chS a o t P Q k).2.2.1 x) (slL t (chS a o t P Q k).2.2.2 y)
        have h3 := u.n
        omega
theorem last_le {g : Cn → List (List UInt8)} (cs : List Cn) (hg : g (0, [], [], []) = []) : (g (lastC cs)).length ≤ ((cs.map g).flatten).length := by
  rcases List.eq_nil_or_concat cs with rfl | ⟨l0, y, rfl⟩
  · simp [lastC, hg]
  · rw [List.concat_eq_append]; simp [lastC]


theorem lastC_len (l : List Ck) : (lastC (l.map Ck.c)).2.1 = (la l).b ∧ (lastC (l.map Ck.c)).2.2.1 = (la l).o ∧ (lastC (l.map Ck.c)).2.2.2 = (la l).t := by rw [lastC_map]; exact ⟨rfl, rfl, rfl⟩
theorem four_ge {m n k kB kO kT : Nat} (h1 : Bt m n k) (h2 : Bt m n kB) (h3 : Bt m n kO) (h4 : Bt m n kT) (b : Nat) (e : Ms [k, kB, kO, kT] b) : m ≤ b := by
  simp only [Ms, List.mem_cons, List.not_mem_nil, or_false] at e
  rcases e with e | e | e | e
  · exact h1.ge e
  · exact h2.ge e
  · exact h3.ge e
  · exact h4.ge e


theorem chS_skip {a o t : List (List UInt8)} {P Q : List Int} {k : Nat} (h : P.getD k 0 < 0 ∨ Q.getD k 0 < 0) : chS a o t P Q (k + 1) = chS a o t P Q k := by rw [chS, if_pos h]
theorem chS_go {a o t : List (List UInt8)} {P Q : List Int} {k x y : Nat} (hx : P.getD k 0 = x) (hy : Q.getD k 0 = y) : chS a o t P Q (k + 1) =
    (addG (addG (chS a o t P Q k).1 (slL a (chS a o t P Q k).2.1 k) (slL o (chS a o t P Q k).2.2.1 x) (slL t (chS a o t P Q k).2.2.2 y)) (slL a k (k + 1)) (slL o x (x + 1)) (slL t y (y + 1)), k + 1, x + 1, y + 1) := by
  rw [chS, if_neg (by rw [hx, hy]; omega), hx, hy]; simp only [Int.toNat_natCast]
/-- what is known where both sides have a partner -/
theorem chS_at {a o t : List (List UInt8)} {P Q : List Int} (hP : Al P a o) (hQ : Al Q a t) {k : Nat} (hk : k < a.length) (h : ¬ (P.getD k 0 < 0 ∨ Q.getD k 0 < 0)) :
    ∃ x y : Nat, P.getD k 0 = x ∧ Q.getD k 0 = y ∧ x < o.length ∧ y < t.length ∧ (chS a o t P Q k).2.1 ≤ k ∧ (chS a o t P Q k).2.2.1 ≤ x ∧ (chS a o t P Q k).2.2.2 ≤ y ∧ o[x]? = a[k]? ∧ t[y]? = a[k]? := by
  have u := chS_ups hP hQ k (by omega)
  have e1 : P[k]? = some (P.getD k 0) := by simp [List.getD, hP.len, hk]
  have e2 : Q[k]? = some (Q.getD k 0) := by simp [List.getD, hQ.len, hk]
  rcases hP.val k _ e1 with h1 | ⟨x, h1, h2, h3⟩
  · omega
  · rcases hQ.val k _ e2 with h4 | ⟨y, h4, h5, h6⟩
    · omega
    · have hpx := u.p k _ (Nat.le_refl _) e1 (by omega)
      have hqy := u.q k _ (Nat.le_refl _) e2 (by omega)
      exact ⟨x, y, h1, h4, h2, h5, u.f, by omega, by omega, h3.symm, h6.symm⟩
/-- how long the last chunk's rows may be -/
theorem last_bd {a o t : List (List UInt8)} {P Q : List Int} {k : Nat} {s : List Cn × Nat × Nat × Nat} (u : Ups a o t P Q k s) (ha : a.length ≤ 4000) (ho : o.length ≤ 4000) (ht : t.length ≤ 4000) : (lastC s.1).2.1.length ≤ 4000 ∧ (lastC s.1).2.2.1.length ≤ 4000 ∧ (lastC s.1).2.2.2.length ≤ 4000 := by
  have h1 := last_le (g := fun c => c.2.1) s.1 rfl
  have h2 := last_le (g := fun c => c.2.2.1) s.1 rfl
  have h3 := last_le (g := fun c => c.2.2.2) s.1 rfl
  rw [u.cat.1, List.length_take] at h1
  rw [u.cat.2.1, List.length_take] at h2
  rw [u.cat.2.2, List.length_take] at h3
  omega
theorem addG_bd (cs : List Cn) (b o t : List (List UInt8)) (h : (lastC cs).2.1.length ≤ 4000 ∧ (lastC cs).2.2.1.length ≤ 4000 ∧ (lastC cs).2.2.2.length ≤ 4000) (hb : b.length ≤ 4000) (ho : o.length ≤ 4000) (ht : t.length ≤ 4000) :
    (lastC (addG cs b o t)).2.1.length ≤ 8000 ∧ (lastC (addG cs b o t)).2.2.1.length ≤ 8000 ∧ (lastC (addG cs b o t)).2.2.2.length ≤ 8000 := by
  unfold addG addC
  split
  · omega
  · split
    · simp [lastC]; omega
    · rw [show ∀ x : Cn, lastC (cs.dropLast ++ [x]) = x by intro x; simp [lastC]]; simp only [List.length_append]; omega
theorem slL_le (l : List (List UInt8)) (i j : Nat) : (slL l i j).length ≤ l.length := by unfold slL; simp; omega


theorem sl_one {o a : List (List UInt8)} {x k : Nat} (h : o[x]? = a[k]?) (hx : x < o.length) (hk : k < a.length) : slL o x (x + 1) = slL a k (k + 1) := by
  have e : ∀ (l : List (List UInt8)) (i : Nat), slL l i (i + 1) = l[i]?.toList := by
    intro l i
    unfold slL
    rw [List.drop_take, show i + 1 - i = 1 by omega]
    cases h : l[i]? with
    | none => have := List.getElem?_eq_none_iff.1 h; rw [List.drop_eq_nil_of_le (by omega)]; rfl
    | some x =>
      obtain ⟨h1, h2⟩ := List.getElem?_eq_some_iff.1 h
      rw [List.drop_eq_getElem_cons h1, h2]; rfl
  rw [e, e, h]


theorem same3 (va vb : Value) (a b : List (List UInt8)) (w0 : World) (H0 : Heap) (ha : RdT H0 fS 1 va a) (hb : RdT H0 fS 1 vb b) : Ct Try.prog w0 62 #[va, vb] H0 (fun r H2 => r = .bool (decide (a = b)) ∧ Nw H0 H2) :=
  (same_ct va vb a b w0 H0 ha hb).mono (fun r H2 ⟨h1, h2⟩ => ⟨h1, h2 ▸ Nw.refl _⟩)
theorem kd0 {b o t : List (List UInt8)} (h1 : o = b) (h2 : t = b) : kindL b o t = 0 := by subst h1; subst h2; simp [kindL, kB]
theorem kd3 {b o t : List (List UInt8)} (h1 : ¬ (o = b ∧ t = b)) (h2 : o = t) : kindL b o t = 3 := by subst h2; simp [kindL, kB]; intro h; exact absurd ⟨h.symm, h.symm⟩ h1
theorem kd1 {b o t : List (List UInt8)} (h1 : ¬ o = t) (h2 : t = b) : kindL b o t = 1 := by subst h2; simp [kindL, kB, h1, Ne.symm h1]
theorem kd2 {b o t : List (List UInt8)} (h1 : ¬ o = t) (h2 : ¬ t = b) (h3 : o = b) : kindL b o t = 2 := by subst h3; simp [kindL, kB, h1]
theorem kd4 {b o t : List (List UInt8)} (h1 : ¬ o = t) (h2 : ¬ t = b) (h3 : ¬ o = b) : kindL b o t = 4 := by simp [kindL, kB, h1, Ne.symm h2, Ne.symm h3]

set_option maxHeartbeats 4000000 in
theorem gap_ct (v1 v2 v3 : Value) (b o t : List (List UInt8)) (w0 : World) (H0 : Heap)
    (hb : RdT H0 fS 1 v1 b) (ho : RdT H0 fS 1 v2 o) (ht : RdT H0 fS 1 v3 t) (hbl : b.length ≤ 1048576) (hol : o.length ≤ 1048576) (htl : t.length ≤ 1048576) :
    Ct Try.prog w0 51 #[v1, v2, v3] H0 (fun r H2 => ∃ s1 : SV, ∃ s2 : SV, ∃ s3 : SV, ∃ k1 : Nat, ∃ k2 : Nat, ∃ k3 : Nat, r = .agg #[.int .i64 (kindL b o t), s1.v, s2.v, s3.v] ∧ (Ow k1 9 H2 fS 1 s1.v b) ∧ (Ow k2 9 H2 fS 1 s2.v o) ∧ (Ow k3 9 H2 fS 1 s3.v t) ∧ (Nx 0 H0.size k1) ∧ (Nx 0 H0.size k2) ∧ (Nx 0 H0.size k3) ∧ (Dj k1 k2) ∧ (Dj k1 k3) ∧ (Dj k2 k3) ∧ Nw H0 H2) := by
  refine Ct.enter (args := [v1, v2, v3]) Try.func51 rfl rfl rfl ?_
  intro Q0 hret
  have hm0 : Nw H0 H0 := Mo.refl _ _
  replace hb := hb.bnd
  have bf_hb := Rd.bf hb
  replace ho := ho.bnd
  have bf_ho := Rd.bf ho
  replace ht := ht.bnd
  have bf_ht := Rd.bf ht
  refine CW.seq (fun K1 hK1 hE1 => ?_)
  refine CW.region ?_
  refine LR.z (Z.allocv rfl Try.zeroValue54) (Wd.u rfl) rfl rfl (fun v6 H6 r6 => ?_)
  obtain ⟨rfl, hz, hs6, ob6, hH6⟩ := r6
  have hzs6 : H6.size = H0.size + 1 := by rw [hH6]; simp
  have df1 := (DF.new (bf_hb.mono hm0.size) : DF _ (H0.size + 1))
  have df2 := (DF.new (bf_ho.mono hm0.size) : DF _ (H0.size + 1))
  have df3 := (DF.new (bf_ht.mono hm0.size) : DF _ (H0.size + 1))
  have nx4 : Nx 0 H0.size (H0.size + 1) := Nx.new hm0.size
  replace hb := hb.nw hs6
  replace ho := ho.nw hs6
  replace ht := ht.nw hs6
  replace hm0 := hm0.tr hs6
  have hz1 := hs6.size
  replace hz : Var 54 H6 H0.size ([.int .i64 0, .slice none 0 0, .slice none 0 0, .slice none 0 0]) := hz
  refine LR.nil ?_
  refine hK1 _ _ ?_
  refine CW.seq (fun K2 hK2 hE2 => ?_)
  refine CW.region ?_
  refine LR.v (Y.build (v := .agg #[.int .i64 4, .slice none 0 0, .slice none 0 0, .slice none 0 0]) rfl rfl (by intro w; kernel_rfl)) (Wd.u rfl) rfl rfl ?_
  refine LR.z (Z.allocv rfl Try.zeroValue54) (Wd.u rfl) rfl rfl (fun v7 H7 r7 => ?_)
  obtain ⟨rfl, hc, hs7, ob7, hH7⟩ := r7
  have hzs7 : H7.size = H6.size + 1 := by rw [hH7]; simp
  have df5 := (DF.new (bf_hb.mono hm0.size) : DF _ (H6.size + 1))
  have df6 := (DF.new (bf_ho.mono hm0.size) : DF _ (H6.size + 1))
  have df7 := (DF.new (bf_ht.mono hm0.size) : DF _ (H6.size + 1))
  have dj8 : Dj (H0.size + 1) (H6.size + 1) := Dj.new hz.lt
  have nx9 : Nx 0 H0.size (H6.size + 1) := Nx.new hm0.size
  replace hb := hb.nw hs7
  replace ho := ho.nw hs7
  replace ht := ht.nw hs7
  replace hz := hz.nw hs7
  replace hm0 := hm0.tr hs7
  have hz2 := hs7.size
  refine LR.s (S.var hc (_) ([.int .i64 4, .slice none 0 0, .slice none 0 0, .slice none 0 0]) rfl rfl rfl rfl (by decide) Try.sizeOf54 (rfl) (Nat.le_of_ble_eq_true rfl) (rfl)) (Wd.u rfl) rfl (fun H1_2 r1_2 => ?_)
  obtain ⟨hc, hs1_2⟩ := r1_2
  replace hs1_2 := hs1_2.md1
  replace hb := hb.upL hs1_2 (DFL.cons df5 DFL.nil)
  replace ho := ho.upL hs1_2 (DFL.cons df6 DFL.nil)
  replace ht := ht.upL hs1_2 (DFL.cons df7 DFL.nil)
  replace hz := hz.upL hs1_2 (DL.cons dj8 DL.nil)
  replace hm0 := (Mo.trL (ks := []) (hm0.mdn []) hs1_2 (MIL.cons (MI.app MI.z (nx9) (Nat.le_refl _)) MIL.nil)).nil
  have hz3 := hs1_2.size
  refine LR.nil ?_
  refine hK2 _ _ ?_
  refine CW.seq (fun K3 hK3 hE3 => ?_)
  refine CW.region ?_
  refine LR.v (Y.fieldAddr hc.pt rfl Try.runUnderlying54 rfl rfl Try.sizeOf32 (by decide) rfl) (Wd.u rfl) rfl rfl ?_
  refine LR.v (Y.load1 (hc.pt.drop 1) rfl Try.isAgg32 rfl) (Wd.u rfl) rfl rfl ?_
  refine LR.v (Y.move rfl rfl) (Wd.u rfl) rfl rfl ?_
  have nl15 : Ow 0 9 H1_2 fS 1 (.slice none 0 0) [] := Ow.nil fS_len fS_one
  refine LR.z (Z.apnd nl15 hb.any rfl inf32 rfl rfl (by simp; omega) (by simp; omega)) (Wd.u rfl) rfl rfl (fun v15 H15 r15 => ?_)
  obtain ⟨kb, ob, hk15, hs15⟩ := r15
  replace hk15 : Nx 0 H1_2.size kb := hk15
  replace hs15 := hs15.md
  have df10 := DF.app (DF.z) (bf_hb.mono hm0.size) hk15
  have df11 := DF.app (DF.z) (bf_ho.mono hm0.size) hk15
  have df12 := DF.app (DF.z) (bf_ht.mono hm0.size) hk15
  have dj13 : Dj (H0.size + 1) kb := Dj.app (Dj.z) hz.lt hk15
  have dj14 : Dj (H6.size + 1) kb := Dj.app (Dj.z) hc.lt hk15
  have nx15 : Nx 0 H0.size kb := Nx.tr (Nx.refl 0 _) hk15 hm0.size
  replace hb := hb.upL hs15 (DFL.cons DF.z DFL.nil)
  replace ho := ho.upL hs15 (DFL.cons DF.z DFL.nil)
  replace ht := ht.upL hs15 (DFL.cons DF.z DFL.nil)
  replace hz := hz.upL hs15 (DL.cons Dj.z DL.nil)
  replace hc := hc.upL hs15 (DL.cons Dj.z DL.nil)
  replace hm0 := (Mo.trL (ks := []) (hm0.mdn []) hs15 (MIL.cons MI.z MIL.nil)).nil
  have hz4 := hs15.size
  have hle_ob := ob.le
  obtain ⟨s15, rfl⟩ : ∃ s : SV, v15 = s.v := ⟨toSV v15, ob.sv.symm⟩
  rw [List.nil_append] at ob
  refine LR.v (Y.fieldAddr hc.pt rfl Try.runUnderlying54 rfl rfl Try.sizeOf32 (by decide) rfl) (Wd.u rfl) rfl rfl ?_
  refine LR.s (S.var1 hc 1 ([.int .i64 4, s15.v, .slice none 0 0, .slice none 0 0]) rfl rfl rfl (rfl) Try.sizeOf32 (by simp) (rfl)) (Wd.u rfl) rfl (fun H2_5 r2_5 => ?_)
  obtain ⟨hc, hs2_5⟩ := r2_5
  replace hs2_5 := hs2_5.md1
  replace hb := hb.upL hs2_5 (DFL.cons df5 DFL.nil)
  replace ho := ho.upL hs2_5 (DFL.cons df6 DFL.nil)
  replace ht := ht.upL hs2_5 (DFL.cons df7 DFL.nil)
  replace hz := hz.upL hs2_5 (DL.cons dj8 DL.nil)
  replace ob := ob.upL hs2_5 (DL.cons dj14.symm DL.nil)
  replace hm0 := (Mo.trL (ks := []) (hm0.mdn []) hs2_5 (MIL.cons (MI.app MI.z (nx9) (Nat.le_refl _)) MIL.nil)).nil
  have hz5 := hs2_5.size
  refine LR.nil ?_
  refine hK3 _ _ ?_
  refine CW.seq (fun K4 hK4 hE4 => ?_)
  refine CW.region ?_
  refine LR.v (Y.fieldAddr hc.pt rfl Try.runUnderlying54 rfl rfl Try.sizeOf32 (by decide) rfl) (Wd.u rfl) rfl rfl ?_
  refine LR.v (Y.load1 (hc.pt.drop 2) rfl Try.isAgg32 rfl) (Wd.u rfl) rfl rfl ?_
  refine LR.v (Y.move rfl rfl) (Wd.u rfl) rfl rfl ?_
  have nl20 : Ow 0 9 H2_5 fS 1 (.slice none 0 0) [] := Ow.nil fS_len fS_one
  refine LR.z (Z.apnd nl20 ho.any rfl inf32 rfl rfl (by simp; omega) (by simp; omega)) (Wd.u rfl) rfl rfl (fun v20 H20 r20 => ?_)
  obtain ⟨ko, oo, hk20, hs20⟩ := r20
  replace hk20 : Nx 0 H2_5.size ko := hk20
  replace hs20 := hs20.md
  have df16 := DF.app (DF.z) (bf_hb.mono hm0.size) hk20
  have df17 := DF.app (DF.z) (bf_ho.mono hm0.size) hk20
  have df18 := DF.app (DF.z) (bf_ht.mono hm0.size) hk20
  have dj19 : Dj (H0.size + 1) ko := Dj.app (Dj.z) hz.lt hk20
  have dj20 : Dj (H6.size + 1) ko := Dj.app (Dj.z) hc.lt hk20
  have dj21 : Dj kb ko := Dj.app (Dj.z) ob.le hk20
  have nx22 : Nx 0 H0.size ko := Nx.tr (Nx.refl 0 _) hk20 hm0.size
  replace hb := hb.upL hs20 (DFL.cons DF.z DFL.nil)
  replace ho := ho.upL hs20 (DFL.cons DF.z DFL.nil)
  replace ht := ht.upL hs20 (DFL.cons DF.z DFL.nil)
  replace hz := hz.upL hs20 (DL.cons Dj.z DL.nil)
  replace hc := hc.upL hs20 (DL.cons Dj.z DL.nil)
  replace ob := ob.upL hs20 (DL.cons Dj.z DL.nil)
  replace hm0 := (Mo.trL (ks := []) (hm0.mdn []) hs20 (MIL.cons MI.z MIL.nil)).nil
  have hz6 := hs20.size
  have hle_oo := oo.le
  obtain ⟨s20, rfl⟩ : ∃ s : SV, v20 = s.v := ⟨toSV v20, oo.sv.symm⟩
  rw [List.nil_append] at oo
  refine LR.v (Y.fieldAddr hc.pt rfl Try.runUnderlying54 rfl rfl Try.sizeOf32 (by decide) rfl) (Wd.u rfl) rfl rfl ?_
  refine LR.s (S.var1 hc 2 ([.int .i64 4, s15.v, s20.v, .slice none 0 0]) rfl rfl rfl (rfl) Try.sizeOf32 (by simp) (rfl)) (Wd.u rfl) rfl (fun H3_5 r3_5 => ?_)
  obtain ⟨hc, hs3_5⟩ := r3_5
  replace hs3_5 := hs3_5.md1
  replace hb := hb.upL hs3_5 (DFL.cons df5 DFL.nil)
  replace ho := ho.upL hs3_5 (DFL.cons df6 DFL.nil)
  replace ht := ht.upL hs3_5 (DFL.cons df7 DFL.nil)
  replace hz := hz.upL hs3_5 (DL.cons dj8 DL.nil)
  replace ob := ob.upL hs3_5 (DL.cons dj14.symm DL.nil)
  replace oo := oo.upL hs3_5 (DL.cons dj20.symm DL.nil)
  replace hm0 := (Mo.trL (ks := []) (hm0.mdn []) hs3_5 (MIL.cons (MI.app MI.z (nx9) (Nat.le_refl _)) MIL.nil)).nil
  have hz7 := hs3_5.size
  refine LR.nil ?_
  refine hK4 _ _ ?_
  refine CW.seq (fun K5 hK5 hE5 => ?_)
  refine CW.region ?_
  refine LR.v (Y.fieldAddr hc.pt rfl Try.runUnderlying54 rfl rfl Try.sizeOf32 (by decide) rfl) (Wd.u rfl) rfl rfl ?_
  refine LR.v (Y.load1 (hc.pt.drop 3) rfl Try.isAgg32 rfl) (Wd.u rfl) rfl rfl ?_
  refine LR.v (Y.move rfl rfl) (Wd.u rfl) rfl rfl ?_
  have nl25 : Ow 0 9 H3_5 fS 1 (.slice none 0 0) [] := Ow.nil fS_len fS_one
  refine LR.z (Z.apnd nl25 ht.any rfl inf32 rfl rfl (by simp; omega) (by simp; omega)) (Wd.u rfl) rfl rfl (fun v25 H25 r25 => ?_)
  obtain ⟨kt, ot, hk25, hs25⟩ := r25
  replace hk25 : Nx 0 H3_5.size kt := hk25
  replace hs25 := hs25.md
  have df23 := DF.app (DF.z) (bf_hb.mono hm0.size) hk25
  have df24 := DF.app (DF.z) (bf_ho.mono hm0.size) hk25
  have df25 := DF.app (DF.z) (bf_ht.mono hm0.size) hk25
  have dj26 : Dj (H0.size + 1) kt := Dj.app (Dj.z) hz.lt hk25
  have dj27 : Dj (H6.size + 1) kt := Dj.app (Dj.z) hc.lt hk25
  have dj28 : Dj kb kt := Dj.app (Dj.z) ob.le hk25
  have dj29 : Dj ko kt := Dj.app (Dj.z) oo.le hk25
  have nx30 : Nx 0 H0.size kt := Nx.tr (Nx.refl 0 _) hk25 hm0.size
  replace hb := hb.upL hs25 (DFL.cons DF.z DFL.nil)
  replace ho := ho.upL hs25 (DFL.cons DF.z DFL.nil)
  replace ht := ht.upL hs25 (DFL.cons DF.z DFL.nil)
  replace hz := hz.upL hs25 (DL.cons Dj.z DL.nil)
  replace hc := hc.upL hs25 (DL.cons Dj.z DL.nil)
  replace ob := ob.upL hs25 (DL.cons Dj.z DL.nil)
  replace oo := oo.upL hs25 (DL.cons Dj.z DL.nil)
  replace hm0 := (Mo.trL (ks := []) (hm0.mdn []) hs25 (MIL.cons MI.z MIL.nil)).nil
  have hz8 := hs25.size
  have hle_ot := ot.le
  obtain ⟨s25, rfl⟩ : ∃ s : SV, v25 = s.v := ⟨toSV v25, ot.sv.symm⟩
  rw [List.nil_append] at ot
  refine LR.v (Y.fieldAddr hc.pt rfl Try.runUnderlying54 rfl rfl Try.sizeOf32 (by decide) rfl) (Wd.u rfl) rfl rfl ?_
  refine LR.s (S.var1 hc 3 ([.int .i64 4, s15.v, s20.v, s25.v]) rfl rfl rfl (rfl) Try.sizeOf32 (by simp) (rfl)) (Wd.u rfl) rfl (fun H4_5 r4_5 => ?_)
  obtain ⟨hc, hs4_5⟩ := r4_5
  replace hs4_5 := hs4_5.md1
  replace hb := hb.upL hs4_5 (DFL.cons df5 DFL.nil)
  replace ho := ho.upL hs4_5 (DFL.cons df6 DFL.nil)
  replace ht := ht.upL hs4_5 (DFL.cons df7 DFL.nil)
  replace hz := hz.upL hs4_5 (DL.cons dj8 DL.nil)
  replace ob := ob.upL hs4_5 (DL.cons dj14.symm DL.nil)
  replace oo := oo.upL hs4_5 (DL.cons dj20.symm DL.nil)
  replace ot := ot.upL hs4_5 (DL.cons dj27.symm DL.nil)
  replace hm0 := (Mo.trL (ks := []) (hm0.mdn []) hs4_5 (MIL.cons (MI.app MI.z (nx9) (Nat.le_refl _)) MIL.nil)).nil
  have hz9 := hs4_5.size
  refine LR.nil ?_
  refine hK5 _ _ ?_
  refine CW.seq (fun K6 hK6 hE6 => ?_)
  refine CW.region ?_
  refine LR.v (Y.move rfl rfl) (Wd.u rfl) rfl rfl ?_
  refine LR.v (Y.move rfl rfl) (Wd.u rfl) rfl rfl ?_
  -- call selvage/selvageref12.Same
  refine LR.call rfl Try.call62 rfl (Wd.u rfl) rfl rfl (same3 _ _ o b w0 _ ho.any hb.any) (fun v29 H29 r29 => ?_)
  obtain ⟨rfl, hs29⟩ := r29
  replace hb := hb.nw hs29
  replace ho := ho.nw hs29
  replace ht := ht.nw hs29
  replace hz := hz.nw hs29
  replace hc := hc.nw hs29
  replace ob := ob.nw hs29
  replace oo := oo.nw hs29
  replace ot := ot.nw hs29
  replace hm0 := hm0.tr hs29
  have hz10 := hs29.size
  refine LR.v (Y.move rfl rfl) (Wd.u rfl) rfl rfl ?_
  refine LR.v (Y.move rfl rfl) (Wd.u rfl) rfl rfl ?_
  -- call selvage/selvageref12.Same
  refine LR.call rfl Try.call62 rfl (Wd.u rfl) rfl rfl (same3 _ _ t b w0 _ ht.any hb.any) (fun v32 H32 r32 => ?_)
  obtain ⟨rfl, hs32⟩ := r32
  replace hb := hb.nw hs32
  replace ho := ho.nw hs32
  replace ht := ht.nw hs32
  replace hz := hz.nw hs32
  replace hc := hc.nw hs32
  replace ob := ob.nw hs32
  replace oo := oo.nw hs32
  replace ot := ot.nw hs32
  replace hm0 := hm0.tr hs32
  have hz11 := hs32.size
  refine LR.v (Y.move rfl rfl) (Wd.u rfl) rfl rfl ?_
  refine LR.v (Y.move rfl rfl) (Wd.u rfl) rfl rfl ?_
  -- call selvage/selvageref12.Same
  refine LR.call rfl Try.call62 rfl (Wd.u rfl) rfl rfl (same3 _ _ o t w0 _ ho.any ht.any) (fun v35 H35 r35 => ?_)
  obtain ⟨rfl, hs35⟩ := r35
  replace hb := hb.nw hs35
  replace ho := ho.nw hs35
  replace ht := ht.nw hs35
  replace hz := hz.nw hs35
  replace hc := hc.nw hs35
  replace ob := ob.nw hs35
  replace oo := oo.nw hs35
  replace ot := ot.nw hs35
  replace hm0 := hm0.tr hs35
  have hz12 := hs35.size
  refine LR.v (Y.assign rfl rfl) (Wd.u rfl) rfl rfl ?_
  refine LR.v (Y.assign rfl rfl) (Wd.u rfl) rfl rfl ?_
  refine LR.v (Y.assign rfl rfl) (Wd.u rfl) rfl rfl ?_
  refine LR.nil ?_
  refine hK6 _ _ ?_
  refine CW.seq (fun K7 hK7 hE7 => ?_)
  refine CW.block (fun K8 hK8 hX8 hE8 => ?_)
  refine CW.seq (fun K9 hK9 hE9 => ?_)
  refine CW.region ?_
  refine LR.v (Y.move rfl rfl) (Wd.u rfl) rfl rfl ?_
  refine LR.v (Y.move rfl rfl) (Wd.u rfl) rfl rfl ?_
  refine LR.splitp (d := 38) rfl (fun g38 => ?_) (fun g38 => ?_)
  ·
    refine LR.v (Y.move rfl rfl) (Wd.g rfl rfl rfl) rfl rfl ?_
    refine LR.v (Y.pick_t rfl rfl rfl) (Wd.u rfl) rfl rfl ?_
    refine LR.v (Y.assign rfl rfl) (Wd.u rfl) rfl rfl ?_
    refine LR.nil ?_
    refine hK9 _ _ ?_
    refine CW.condp rfl (fun c36 => ?_) (fun c36 => ?_)
    ·
      refine CW.region ?_
      refine LR.v (Y.fieldAddr hc.pt rfl Try.runUnderlying54 rfl rfl Try.sizeOf3 (by decide) rfl) (Wd.u rfl) rfl rfl ?_
      have hk := kd0 (b := b) (o := o) (t := t) (by assumption) (by assumption)
      refine LR.s (S.var1 hc 0 ([.int .i64 0, s15.v, s20.v, s25.v]) rfl rfl rfl (rfl) Try.sizeOf3 (by simp) (rfl)) (Wd.u rfl) rfl (fun H7_1 r7_1 => ?_)
      obtain ⟨hc, hs7_1⟩ := r7_1
      replace hs7_1 := hs7_1.md1
      replace hb := hb.upL hs7_1 (DFL.cons df5 DFL.nil)
      replace ho := ho.upL hs7_1 (DFL.cons df6 DFL.nil)
      replace ht := ht.upL hs7_1 (DFL.cons df7 DFL.nil)
      replace hz := hz.upL hs7_1 (DL.cons dj8 DL.nil)
      replace ob := ob.upL hs7_1 (DL.cons dj14.symm DL.nil)
      replace oo := oo.upL hs7_1 (DL.cons dj20.symm DL.nil)
      replace ot := ot.upL hs7_1 (DL.cons dj27.symm DL.nil)
      replace hm0 := (Mo.trL (ks := []) (hm0.mdn []) hs7_1 (MIL.cons (MI.app MI.z (nx9) (Nat.le_refl _)) MIL.nil)).nil
      have hz13 := hs7_1.size
      refine LR.nil ?_
      refine hK8 _ _ ?_
      refine hK7 _ _ ?_
      refine CW.seq (fun K10 hK10 hE10 => ?_)
      refine CW.region ?_
      refine LR.v (Y.loadN hc.pt rfl Try.isAgg54 Try.sizeOf54 (rfl) rfl) (Wd.u rfl) rfl rfl ?_
      refine LR.s (S.var hz (_) (_) rfl rfl rfl rfl (fK_one ⟨_, b, o, t, s15, s20, s25⟩) Try.sizeOf54 (rfl) (Nat.le_of_ble_eq_true rfl) (rfl)) (Wd.u rfl) rfl (fun H14_1 r14_1 => ?_)
      obtain ⟨hz, hs14_1⟩ := r14_1
      replace hs14_1 := hs14_1.md1
      replace hb := hb.upL hs14_1 (DFL.cons df1 DFL.nil)
      replace ho := ho.upL hs14_1 (DFL.cons df2 DFL.nil)
      replace ht := ht.upL hs14_1 (DFL.cons df3 DFL.nil)
      replace hc := hc.upL hs14_1 (DL.cons dj8.symm DL.nil)
      replace ob := ob.upL hs14_1 (DL.cons dj13.symm DL.nil)
      replace oo := oo.upL hs14_1 (DL.cons dj19.symm DL.nil)
      replace ot := ot.upL hs14_1 (DL.cons dj26.symm DL.nil)
      replace hm0 := (Mo.trL (ks := []) (hm0.mdn []) hs14_1 (MIL.cons (MI.app MI.z (nx4) (Nat.le_refl _)) MIL.nil)).nil
      have hz14 := hs14_1.size
      refine LR.nil ?_
      refine hK10 _ _ ?_
      refine CW.ret (hret .ret (.inr rfl) _ _ _ (resC rfl rfl hz.pt Try.isAgg54 Try.sizeOf54 (by first | rfl | simp)) ?_)
      exact ⟨s15, s20, s25, kb, ko, kt, by rw [hk]; rfl, ob, oo, ot, nx15, nx22, nx30, dj21, dj28, dj29, hm0⟩
    ·
      refine CW.seq (fun K11 hK11 hE11 => ?_)
      refine CW.region ?_
      refine LR.v (Y.move rfl rfl) (Wd.u rfl) rfl rfl ?_
      refine LR.v (Y.assign rfl rfl) (Wd.u rfl) rfl rfl ?_
      refine LR.nil ?_
      refine hK11 _ _ ?_
      refine CW.condp rfl (fun c42 => ?_) (fun c42 => ?_)
      ·
        refine CW.region ?_
        refine LR.v (Y.fieldAddr hc.pt rfl Try.runUnderlying54 rfl rfl Try.sizeOf3 (by decide) rfl) (Wd.u rfl) rfl rfl ?_
        have hk := kd3 (b := b) (o := o) (t := t) (by rintro ⟨h1, h2⟩; contradiction) (by assumption)
        refine LR.s (S.var1 hc 0 ([.int .i64 3, s15.v, s20.v, s25.v]) rfl rfl rfl (rfl) Try.sizeOf3 (by simp) (rfl)) (Wd.u rfl) rfl (fun H9_1 r9_1 => ?_)
        obtain ⟨hc, hs9_1⟩ := r9_1
        replace hs9_1 := hs9_1.md1
        replace hb := hb.upL hs9_1 (DFL.cons df5 DFL.nil)
        replace ho := ho.upL hs9_1 (DFL.cons df6 DFL.nil)
        replace ht := ht.upL hs9_1 (DFL.cons df7 DFL.nil)
        replace hz := hz.upL hs9_1 (DL.cons dj8 DL.nil)
        replace ob := ob.upL hs9_1 (DL.cons dj14.symm DL.nil)
        replace oo := oo.upL hs9_1 (DL.cons dj20.symm DL.nil)
        replace ot := ot.upL hs9_1 (DL.cons dj27.symm DL.nil)
        replace hm0 := (Mo.trL (ks := []) (hm0.mdn []) hs9_1 (MIL.cons (MI.app MI.z (nx9) (Nat.le_refl _)) MIL.nil)).nil
        have hz15 := hs9_1.size
        refine LR.nil ?_
        refine hK8 _ _ ?_
        refine hK7 _ _ ?_
        refine CW.seq (fun K12 hK12 hE12 => ?_)
        refine CW.region ?_
        refine LR.v (Y.loadN hc.pt rfl Try.isAgg54 Try.sizeOf54 (rfl) rfl) (Wd.u rfl) rfl rfl ?_
        refine LR.s (S.var hz (_) (_) rfl rfl rfl rfl (fK_one ⟨_, b, o, t, s15, s20, s25⟩) Try.sizeOf54 (rfl) (Nat.le_of_ble_eq_true rfl) (rfl)) (Wd.u rfl) rfl (fun H14_1 r14_1 => ?_)
        obtain ⟨hz, hs14_1⟩ := r14_1
        replace hs14_1 := hs14_1.md1
        replace hb := hb.upL hs14_1 (DFL.cons df1 DFL.nil)
        replace ho := ho.upL hs14_1 (DFL.cons df2 DFL.nil)
        replace ht := ht.upL hs14_1 (DFL.cons df3 DFL.nil)
        replace hc := hc.upL hs14_1 (DL.cons dj8.symm DL.nil)
        replace ob := ob.upL hs14_1 (DL.cons dj13.symm DL.nil)
        replace oo := oo.upL hs14_1 (DL.cons dj19.symm DL.nil)
        replace ot := ot.upL hs14_1 (DL.cons dj26.symm DL.nil)
        replace hm0 := (Mo.trL (ks := []) (hm0.mdn []) hs14_1 (MIL.cons (MI.app MI.z (nx4) (Nat.le_refl _)) MIL.nil)).nil
        have hz16 := hs14_1.size
        refine LR.nil ?_
        refine hK12 _ _ ?_
        refine CW.ret (hret .ret (.inr rfl) _ _ _ (resC rfl rfl hz.pt Try.isAgg54 Try.sizeOf54 (by first | rfl | simp)) ?_)
        exact ⟨s15, s20, s25, kb, ko, kt, by rw [hk]; rfl, ob, oo, ot, nx15, nx22, nx30, dj21, dj28, dj29, hm0⟩
      ·
        refine CW.seq (fun K13 hK13 hE13 => ?_)
        refine CW.region ?_
        refine LR.v (Y.move rfl rfl) (Wd.u rfl) rfl rfl ?_
        refine LR.v (Y.assign rfl rfl) (Wd.u rfl) rfl rfl ?_
        refine LR.nil ?_
        refine hK13 _ _ ?_
        refine CW.condp rfl (fun c45 => ?_) (fun c45 => ?_)
        ·
          refine CW.region ?_
          refine LR.v (Y.fieldAddr hc.pt rfl Try.runUnderlying54 rfl rfl Try.sizeOf3 (by decide) rfl) (Wd.u rfl) rfl rfl ?_
          have hk := kd1 (b := b) (o := o) (t := t) (by assumption) (by assumption)
          refine LR.s (S.var1 hc 0 ([.int .i64 1, s15.v, s20.v, s25.v]) rfl rfl rfl (rfl) Try.sizeOf3 (by simp) (rfl)) (Wd.u rfl) rfl (fun H11_1 r11_1 => ?_)
          obtain ⟨hc, hs11_1⟩ := r11_1
          replace hs11_1 := hs11_1.md1
          replace hb := hb.upL hs11_1 (DFL.cons df5 DFL.nil)
          replace ho := ho.upL hs11_1 (DFL.cons df6 DFL.nil)
          replace ht := ht.upL hs11_1 (DFL.cons df7 DFL.nil)
          replace hz := hz.upL hs11_1 (DL.cons dj8 DL.nil)
          replace ob := ob.upL hs11_1 (DL.cons dj14.symm DL.nil)
          replace oo := oo.upL hs11_1 (DL.cons dj20.symm DL.nil)
          replace ot := ot.upL hs11_1 (DL.cons dj27.symm DL.nil)
          replace hm0 := (Mo.trL (ks := []) (hm0.mdn []) hs11_1 (MIL.cons (MI.app MI.z (nx9) (Nat.le_refl _)) MIL.nil)).nil
          have hz17 := hs11_1.size
          refine LR.nil ?_
          refine hK8 _ _ ?_
          refine hK7 _ _ ?_
          refine CW.seq (fun K14 hK14 hE14 => ?_)
          refine CW.region ?_
          refine LR.v (Y.loadN hc.pt rfl Try.isAgg54 Try.sizeOf54 (rfl) rfl) (Wd.u rfl) rfl rfl ?_
          refine LR.s (S.var hz (_) (_) rfl rfl rfl rfl (fK_one ⟨_, b, o, t, s15, s20, s25⟩) Try.sizeOf54 (rfl) (Nat.le_of_ble_eq_true rfl) (rfl)) (Wd.u rfl) rfl (fun H14_1 r14_1 => ?_)
          obtain ⟨hz, hs14_1⟩ := r14_1
          replace hs14_1 := hs14_1.md1
          replace hb := hb.upL hs14_1 (DFL.cons df1 DFL.nil)
          replace ho := ho.upL hs14_1 (DFL.cons df2 DFL.nil)
          replace ht := ht.upL hs14_1 (DFL.cons df3 DFL.nil)
          replace hc := hc.upL hs14_1 (DL.cons dj8.symm DL.nil)
          replace ob := ob.upL hs14_1 (DL.cons dj13.symm DL.nil)
          replace oo := oo.upL hs14_1 (DL.cons dj19.symm DL.nil)
          replace ot := ot.upL hs14_1 (DL.cons dj26.symm DL.nil)
          replace hm0 := (Mo.trL (ks := []) (hm0.mdn []) hs14_1 (MIL.cons (MI.app MI.z (nx4) (Nat.le_refl _)) MIL.nil)).nil
          have hz18 := hs14_1.size
          refine LR.nil ?_
          refine hK14 _ _ ?_
          refine CW.ret (hret .ret (.inr rfl) _ _ _ (resC rfl rfl hz.pt Try.isAgg54 Try.sizeOf54 (by first | rfl | simp)) ?_)
          exact ⟨s15, s20, s25, kb, ko, kt, by rw [hk]; rfl, ob, oo, ot, nx15, nx22, nx30, dj21, dj28, dj29, hm0⟩
        ·
          refine CW.seq (fun K15 hK15 hE15 => ?_)
          refine CW.region ?_
          refine LR.v (Y.move rfl rfl) (Wd.u rfl) rfl rfl ?_
          refine LR.v (Y.assign rfl rfl) (Wd.u rfl) rfl rfl ?_
          refine LR.nil ?_
          refine hK15 _ _ ?_
          refine CW.condp rfl (fun c48 => ?_) (fun c48 => ?_)
          ·
            refine CW.region ?_
            refine LR.v (Y.fieldAddr hc.pt rfl Try.runUnderlying54 rfl rfl Try.sizeOf3 (by decide) rfl) (Wd.u rfl) rfl rfl ?_
            have hk := kd2 (b := b) (o := o) (t := t) (by assumption) (by assumption) (by assumption)
            refine LR.s (S.var1 hc 0 ([.int .i64 2, s15.v, s20.v, s25.v]) rfl rfl rfl (rfl) Try.sizeOf3 (by simp) (rfl)) (Wd.u rfl) rfl (fun H13_1 r13_1 => ?_)
            obtain ⟨hc, hs13_1⟩ := r13_1
            replace hs13_1 := hs13_1.md1
            replace hb := hb.upL hs13_1 (DFL.cons df5 DFL.nil)
            replace ho := ho.upL hs13_1 (DFL.cons df6 DFL.nil)
            replace ht := ht.upL hs13_1 (DFL.cons df7 DFL.nil)
            replace hz := hz.upL hs13_1 (DL.cons dj8 DL.nil)
            replace ob := ob.upL hs13_1 (DL.cons dj14.symm DL.nil)
            replace oo := oo.upL hs13_1 (DL.cons dj20.symm DL.nil)
            replace ot := ot.upL hs13_1 (DL.cons dj27.symm DL.nil)
            replace hm0 := (Mo.trL (ks := []) (hm0.mdn []) hs13_1 (MIL.cons (MI.app MI.z (nx9) (Nat.le_refl _)) MIL.nil)).nil
            have hz19 := hs13_1.size
            refine LR.nil ?_
            refine hK8 _ _ ?_
            refine hK7 _ _ ?_
            refine CW.seq (fun K16 hK16 hE16 => ?_)
            refine CW.region ?_
            refine LR.v (Y.loadN hc.pt rfl Try.isAgg54 Try.sizeOf54 (rfl) rfl) (Wd.u rfl) rfl rfl ?_
            refine LR.s (S.var hz (_) (_) rfl rfl rfl rfl (fK_one ⟨_, b, o, t, s15, s20, s25⟩) Try.sizeOf54 (rfl) (Nat.le_of_ble_eq_true rfl) (rfl)) (Wd.u rfl) rfl (fun H14_1 r14_1 => ?_)
            obtain ⟨hz, hs14_1⟩ := r14_1
            replace hs14_1 := hs14_1.md1
            replace hb := hb.upL hs14_1 (DFL.cons df1 DFL.nil)
            replace ho := ho.upL hs14_1 (DFL.cons df2 DFL.nil)
            replace ht := ht.upL hs14_1 (DFL.cons df3 DFL.nil)
            replace hc := hc.upL hs14_1 (DL.cons dj8.symm DL.nil)
            replace ob := ob.upL hs14_1 (DL.cons dj13.symm DL.nil)
            replace oo := oo.upL hs14_1 (DL.cons dj19.symm DL.nil)
            replace ot := ot.upL hs14_1 (DL.cons dj26.symm DL.nil)
            replace hm0 := (Mo.trL (ks := []) (hm0.mdn []) hs14_1 (MIL.cons (MI.app MI.z (nx4) (Nat.le_refl _)) MIL.nil)).nil
            have hz20 := hs14_1.size
            refine LR.nil ?_
            refine hK16 _ _ ?_
            refine CW.ret (hret .ret (.inr rfl) _ _ _ (resC rfl rfl hz.pt Try.isAgg54 Try.sizeOf54 (by first | rfl | simp)) ?_)
            exact ⟨s15, s20, s25, kb, ko, kt, by rw [hk]; rfl, ob, oo, ot, nx15, nx22, nx30, dj21, dj28, dj29, hm0⟩
          ·
            have hk := kd4 (b := b) (o := o) (t := t) (by assumption) (by assumption) (by assumption)
            refine CW.skip ?_
            refine hK8 _ _ ?_
            refine hK7 _ _ ?_
            refine CW.seq (fun K17 hK17 hE17 => ?_)
            refine CW.region ?_
            refine LR.v (Y.loadN hc.pt rfl Try.isAgg54 Try.sizeOf54 (rfl) rfl) (Wd.u rfl) rfl rfl ?_
            refine LR.s (S.var hz (_) (_) rfl rfl rfl rfl (fK_one ⟨_, b, o, t, s15, s20, s25⟩) Try.sizeOf54 (rfl) (Nat.le_of_ble_eq_true rfl) (rfl)) (Wd.u rfl) rfl (fun H14_1 r14_1 => ?_)
            obtain ⟨hz, hs14_1⟩ := r14_1
            replace hs14_1 := hs14_1.md1
            replace hb := hb.upL hs14_1 (DFL.cons df1 DFL.nil)
            replace ho := ho.upL hs14_1 (DFL.cons df2 DFL.nil)
            replace ht := ht.upL hs14_1 (DFL.cons df3 DFL.nil)
            replace hc := hc.upL hs14_1 (DL.cons dj8.symm DL.nil)
            replace ob := ob.upL hs14_1 (DL.cons dj13.symm DL.nil)
            replace oo := oo.upL hs14_1 (DL.cons dj19.symm DL.nil)
            replace ot := ot.upL hs14_1 (DL.cons dj26.symm DL.nil)
            replace hm0 := (Mo.trL (ks := []) (hm0.mdn []) hs14_1 (MIL.cons (MI.app MI.z (nx4) (Nat.le_refl _)) MIL.nil)).nil
            have hz21 := hs14_1.size
            refine LR.nil ?_
            refine hK17 _ _ ?_
            refine CW.ret (hret .ret (.inr rfl) _ _ _ (resC rfl rfl hz.pt Try.isAgg54 Try.sizeOf54 (by first | rfl | simp)) ?_)
            exact ⟨s15, s20, s25, kb, ko, kt, by rw [hk]; rfl, ob, oo, ot, nx15, nx22, nx30, dj21, dj28, dj29, hm0⟩
  ·
    refine LR.gs rfl rfl rfl rfl rfl rfl ?_
    refine LR.v (Y.pick_f rfl rfl rfl) (Wd.u rfl) rfl rfl ?_
    refine LR.v (Y.assign rfl rfl) (Wd.u rfl) rfl rfl ?_
    refine LR.nil ?_
    refine hK9 _ _ ?_
    refine CW.cond_f rfl ?_
    refine CW.seq (fun K18 hK18 hE18 => ?_)
    refine CW.region ?_
    refine LR.v (Y.move rfl rfl) (Wd.u rfl) rfl rfl ?_
    refine LR.v (Y.assign rfl rfl) (Wd.u rfl) rfl rfl ?_
    refine LR.nil ?_
    refine hK18 _ _ ?_
    refine CW.condp rfl (fun c42 => ?_) (fun c42 => ?_)
    ·
      refine CW.region ?_
      refine LR.v (Y.fieldAddr hc.pt rfl Try.runUnderlying54 rfl rfl Try.sizeOf3 (by decide) rfl) (Wd.u rfl) rfl rfl ?_
      have hk := kd3 (b := b) (o := o) (t := t) (by rintro ⟨h1, h2⟩; contradiction) (by assumption)
      refine LR.s (S.var1 hc 0 ([.int .i64 3, s15.v, s20.v, s25.v]) rfl rfl rfl (rfl) Try.sizeOf3 (by simp) (rfl)) (Wd.u rfl) rfl (fun H9_1 r9_1 => ?_)
      obtain ⟨hc, hs9_1⟩ := r9_1
      replace hs9_1 := hs9_1.md1
      replace hb := hb.upL hs9_1 (DFL.cons df5 DFL.nil)
      replace ho := ho.upL hs9_1 (DFL.cons df6 DFL.nil)
      replace ht := ht.upL hs9_1 (DFL.cons df7 DFL.nil)
      replace hz := hz.upL hs9_1 (DL.cons dj8 DL.nil)
      replace ob := ob.upL hs9_1 (DL.cons dj14.symm DL.nil)
      replace oo := oo.upL hs9_1 (DL.cons dj20.symm DL.nil)
      replace ot := ot.upL hs9_1 (DL.cons dj27.symm DL.nil)
      replace hm0 := (Mo.trL (ks := []) (hm0.mdn []) hs9_1 (MIL.cons (MI.app MI.z (nx9) (Nat.le_refl _)) MIL.nil)).nil
      have hz22 := hs9_1.size
      refine LR.nil ?_
      refine hK8 _ _ ?_
      refine hK7 _ _ ?_
      refine CW.seq (fun K19 hK19 hE19 => ?_)
      refine CW.region ?_
      refine LR.v (Y.loadN hc.pt rfl Try.isAgg54 Try.sizeOf54 (rfl) rfl) (Wd.u rfl) rfl rfl ?_
      refine LR.s (S.var hz (_) (_) rfl rfl rfl rfl (fK_one ⟨_, b, o, t, s15, s20, s25⟩) Try.sizeOf54 (rfl) (Nat.le_of_ble_eq_true rfl) (rfl)) (Wd.u rfl) rfl (fun H14_1 r14_1 => ?_)
      obtain ⟨hz, hs14_1⟩ := r14_1
      replace hs14_1 := hs14_1.md1
      replace hb := hb.upL hs14_1 (DFL.cons df1 DFL.nil)
      replace ho := ho.upL hs14_1 (DFL.cons df2 DFL.nil)
      replace ht := ht.upL hs14_1 (DFL.cons df3 DFL.nil)
      replace hc := hc.upL hs14_1 (DL.cons dj8.symm DL.nil)
      replace ob := ob.upL hs14_1 (DL.cons dj13.symm DL.nil)
      replace oo := oo.upL hs14_1 (DL.cons dj19.symm DL.nil)
      replace ot := ot.upL hs14_1 (DL.cons dj26.symm DL.nil)
      replace hm0 := (Mo.trL (ks := []) (hm0.mdn []) hs14_1 (MIL.cons (MI.app MI.z (nx4) (Nat.le_refl _)) MIL.nil)).nil
      have hz23 := hs14_1.size
      refine LR.nil ?_
      refine hK19 _ _ ?_
      refine CW.ret (hret .ret (.inr rfl) _ _ _ (resC rfl rfl hz.pt Try.isAgg54 Try.sizeOf54 (by first | rfl | simp)) ?_)
      exact ⟨s15, s20, s25, kb, ko, kt, by rw [hk]; rfl, ob, oo, ot, nx15, nx22, nx30, dj21, dj28, dj29, hm0⟩
    ·
      refine CW.seq (fun K20 hK20 hE20 => ?_)
      refine CW.region ?_
      refine LR.v (Y.move rfl rfl) (Wd.u rfl) rfl rfl ?_
      refine LR.v (Y.assign rfl rfl) (Wd.u rfl) rfl rfl ?_
      refine LR.nil ?_
      refine hK20 _ _ ?_
      refine CW.condp rfl (fun c45 => ?_) (fun c45 => ?_)
      ·
        refine CW.region ?_
        refine LR.v (Y.fieldAddr hc.pt rfl Try.runUnderlying54 rfl rfl Try.sizeOf3 (by decide) rfl) (Wd.u rfl) rfl rfl ?_
        have hk := kd1 (b := b) (o := o) (t := t) (by assumption) (by assumption)
        refine LR.s (S.var1 hc 0 ([.int .i64 1, s15.v, s20.v, s25.v]) rfl rfl rfl (rfl) Try.sizeOf3 (by simp) (rfl)) (Wd.u rfl) rfl (fun H11_1 r11_1 => ?_)
        obtain ⟨hc, hs11_1⟩ := r11_1
        replace hs11_1 := hs11_1.md1
        replace hb := hb.upL hs11_1 (DFL.cons df5 DFL.nil)
        replace ho := ho.upL hs11_1 (DFL.cons df6 DFL.nil)
        replace ht := ht.upL hs11_1 (DFL.cons df7 DFL.nil)
        replace hz := hz.upL hs11_1 (DL.cons dj8 DL.nil)
        replace ob := ob.upL hs11_1 (DL.cons dj14.symm DL.nil)
        replace oo := oo.upL hs11_1 (DL.cons dj20.symm DL.nil)
        replace ot := ot.upL hs11_1 (DL.cons dj27.symm DL.nil)
        replace hm0 := (Mo.trL (ks := []) (hm0.mdn []) hs11_1 (MIL.cons (MI.app MI.z (nx9) (Nat.le_refl _)) MIL.nil)).nil
        have hz24 := hs11_1.size
        refine LR.nil ?_
        refine hK8 _ _ ?_
        refine hK7 _ _ ?_
        refine CW.seq (fun K21 hK21 hE21 => ?_)
        refine CW.region ?_
        refine LR.v (Y.loadN hc.pt rfl Try.isAgg54 Try.sizeOf54 (rfl) rfl) (Wd.u rfl) rfl rfl ?_
        refine LR.s (S.var hz (_) (_) rfl rfl rfl rfl (fK_one ⟨_, b, o, t, s15, s20, s25⟩) Try.sizeOf54 (rfl) (Nat.le_of_ble_eq_true rfl) (rfl)) (Wd.u rfl) rfl (fun H14_1 r14_1 => ?_)
        obtain ⟨hz, hs14_1⟩ := r14_1
        replace hs14_1 := hs14_1.md1
        replace hb := hb.upL hs14_1 (DFL.cons df1 DFL.nil)
        replace ho := ho.upL hs14_1 (DFL.cons df2 DFL.nil)
        replace ht := ht.upL hs14_1 (DFL.cons df3 DFL.nil)
        replace hc := hc.upL hs14_1 (DL.cons dj8.symm DL.nil)
        replace ob := ob.upL hs14_1 (DL.cons dj13.symm DL.nil)
        replace oo := oo.upL hs14_1 (DL.cons dj19.symm DL.nil)
        replace ot := ot.upL hs14_1 (DL.cons dj26.symm DL.nil)
        replace hm0 := (Mo.trL (ks := []) (hm0.mdn []) hs14_1 (MIL.cons (MI.app MI.z (nx4) (Nat.le_refl _)) MIL.nil)).nil
        have hz25 := hs14_1.size
        refine LR.nil ?_
        refine hK21 _ _ ?_
        refine CW.ret (hret .ret (.inr rfl) _ _ _ (resC rfl rfl hz.pt Try.isAgg54 Try.sizeOf54 (by first | rfl | simp)) ?_)
        exact ⟨s15, s20, s25, kb, ko, kt, by rw [hk]; rfl, ob, oo, ot, nx15, nx22, nx30, dj21, dj28, dj29, hm0⟩
      ·
        refine CW.seq (fun K22 hK22 hE22 => ?_)
        refine CW.region ?_
        refine LR.v (Y.move rfl rfl) (Wd.u rfl) rfl rfl ?_
        refine LR.v (Y.assign rfl rfl) (Wd.u rfl) rfl rfl ?_
        refine LR.nil ?_
        refine hK22 _ _ ?_
        refine CW.condp rfl (fun c48 => ?_) (fun c48 => ?_)
        ·
          refine CW.region ?_
          refine LR.v (Y.fieldAddr hc.pt rfl Try.runUnderlying54 rfl rfl Try.sizeOf3 (by decide) rfl) (Wd.u rfl) rfl rfl ?_
          have hk := kd2 (b := b) (o := o) (t := t) (by assumption) (by assumption) (by assumption)
          refine LR.s (S.var1 hc 0 ([.int .i64 2, s15.v, s20.v, s25.v]) rfl rfl rfl (rfl) Try.sizeOf3 (by simp) (rfl)) (Wd.u rfl) rfl (fun H13_1 r13_1 => ?_)
          obtain ⟨hc, hs13_1⟩ := r13_1
          replace hs13_1 := hs13_1.md1
          replace hb := hb.upL hs13_1 (DFL.cons df5 DFL.nil)
          replace ho := ho.upL hs13_1 (DFL.cons df6 DFL.nil)
          replace ht := ht.upL hs13_1 (DFL.cons df7 DFL.nil)
          replace hz := hz.upL hs13_1 (DL.cons dj8 DL.nil)
          replace ob := ob.upL hs13_1 (DL.cons dj14.symm DL.nil)
          replace oo := oo.upL hs13_1 (DL.cons dj20.symm DL.nil)
          replace ot := ot.upL hs13_1 (DL.cons dj27.symm DL.nil)
          replace hm0 := (Mo.trL (ks := []) (hm0.mdn []) hs13_1 (MIL.cons (MI.app MI.z (nx9) (Nat.le_refl _)) MIL.nil)).nil
          have hz26 := hs13_1.size
          refine LR.nil ?_
          refine hK8 _ _ ?_
          refine hK7 _ _ ?_
          refine CW.seq (fun K23 hK23 hE23 => ?_)
          refine CW.region ?_
          refine LR.v (Y.loadN hc.pt rfl Try.isAgg54 Try.sizeOf54 (rfl) rfl) (Wd.u rfl) rfl rfl ?_
          refine LR.s (S.var hz (_) (_) rfl rfl rfl rfl (fK_one ⟨_, b, o, t, s15, s20, s25⟩) Try.sizeOf54 (rfl) (Nat.le_of_ble_eq_true rfl) (rfl)) (Wd.u rfl) rfl (fun H14_1 r14_1 => ?_)
          obtain ⟨hz, hs14_1⟩ := r14_1
          replace hs14_1 := hs14_1.md1
          replace hb := hb.upL hs14_1 (DFL.cons df1 DFL.nil)
          replace ho := ho.upL hs14_1 (DFL.cons df2 DFL.nil)
          replace ht := ht.upL hs14_1 (DFL.cons df3 DFL.nil)
          replace hc := hc.upL hs14_1 (DL.cons dj8.symm DL.nil)
          replace ob := ob.upL hs14_1 (DL.cons dj13.symm DL.nil)
          replace oo := oo.upL hs14_1 (DL.cons dj19.symm DL.nil)
          replace ot := ot.upL hs14_1 (DL.cons dj26.symm DL.nil)
          replace hm0 := (Mo.trL (ks := []) (hm0.mdn []) hs14_1 (MIL.cons (MI.app MI.z (nx4) (Nat.le_refl _)) MIL.nil)).nil
          have hz27 := hs14_1.size
          refine LR.nil ?_
          refine hK23 _ _ ?_
          refine CW.ret (hret .ret (.inr rfl) _ _ _ (resC rfl rfl hz.pt Try.isAgg54 Try.sizeOf54 (by first | rfl | simp)) ?_)
          exact ⟨s15, s20, s25, kb, ko, kt, by rw [hk]; rfl, ob, oo, ot, nx15, nx22, nx30, dj21, dj28, dj29, hm0⟩
        ·
          have hk := kd4 (b := b) (o := o) (t := t) (by assumption) (by assumption) (by assumption)
          refine CW.skip ?_
          refine hK8 _ _ ?_
          refine hK7 _ _ ?_
          refine CW.seq (fun K24 hK24 hE24 => ?_)
          refine CW.region ?_
          refine LR.v (Y.loadN hc.pt rfl Try.isAgg54 Try.sizeOf54 (rfl) rfl) (Wd.u rfl) rfl rfl ?_
          refine LR.s (S.var hz (_) (_) rfl rfl rfl rfl (fK_one ⟨_, b, o, t, s15, s20, s25⟩) Try.sizeOf54 (rfl) (Nat.le_of_ble_eq_true rfl) (rfl)) (Wd.u rfl) rfl (fun H14_1 r14_1 => ?_)
          obtain ⟨hz, hs14_1⟩ := r14_1
          replace hs14_1 := hs14_1.md1
          replace hb := hb.upL hs14_1 (DFL.cons df1 DFL.nil)
          replace ho := ho.upL hs14_1 (DFL.cons df2 DFL.nil)
          replace ht := ht.upL hs14_1 (DFL.cons df3 DFL.nil)
          replace hc := hc.upL hs14_1 (DL.cons dj8.symm DL.nil)
          replace ob := ob.upL hs14_1 (DL.cons dj13.symm DL.nil)
          replace oo := oo.upL hs14_1 (DL.cons dj19.symm DL.nil)
          replace ot := ot.upL hs14_1 (DL.cons dj26.symm DL.nil)
          replace hm0 := (Mo.trL (ks := []) (hm0.mdn []) hs14_1 (MIL.cons (MI.app MI.z (nx4) (Nat.le_refl _)) MIL.nil)).nil
          have hz28 := hs14_1.size
          refine LR.nil ?_
          refine hK24 _ _ ?_
          refine CW.ret (hret .ret (.inr rfl) _ _ _ (resC rfl rfl hz.pt Try.isAgg54 Try.sizeOf54 (by first | rfl | simp)) ?_)
          exact ⟨s15, s20, s25, kb, ko, kt, by rw [hk]; rfl, ob, oo, ot, nx15, nx22, nx30, dj21, dj28, dj29, hm0⟩


theorem Dj.bt {m n k k2 : Nat} (h : Bt m n k) (x : Nx 0 n k2) : Dj k k2 := fun c h1 h2 => by unfold Bt at h; unfold Nx at x; omega
theorem DF.bt {m n k2 : Nat} {G : Nat → Prop} (h : ∀ b, G b → m ≤ b ∧ b < n) (x : Nx 0 n k2) : DF G k2 := fun b h1 h2 => by have := h b h1; unfold Nx at x; omega
theorem radd_ct (v : Value) (cs : List Cn) (m n : Nat) (b o t : List (List UInt8)) (sb so st : SV) (kb ko kt : Nat) (w0 : World) (H0 : Heap) (hc : Cc m n H0 v cs) (hm : m ≤ n) (hn : n ≤ H0.size) (hb : Ow kb 9 H0 fS 1 sb.v b) (ho : Ow ko 9 H0 fS 1 so.v o) (ht : Ow kt 9 H0 fS 1 st.v t)
    (nb : Nx 0 n kb) (no : Nx 0 n ko) (nt : Nx 0 n kt) (g1 : Dj kb ko) (g2 : Dj kb kt) (g3 : Dj ko kt)
    (hl : cs.length ≤ 1048576) (hbl : b.length ≤ 1048576 ∧ (lastC cs).2.1.length ≤ 1048576) (hol : o.length ≤ 1048576 ∧ (lastC cs).2.2.1.length ≤ 1048576) (htl : t.length ≤ 1048576 ∧ (lastC cs).2.2.2.length ≤ 1048576) :
    Ct Try.prog w0 46 #[v, .agg #[.int .i64 (kindL b o t), sb.v, so.v, st.v]] H0 (fun r H2 => ∃ v2, r = v2 ∧ Cc m H2.size H2 v2 (addG cs b o t) ∧ Mo (fun c => m ≤ c) H0 H2) := by
  obtain ⟨l, k, kB, kO, kT, G, h1, h2, h3, h4, h5, h6, ⟨d1, d2, d3, d4, d5, d6⟩, ⟨f1, f2, f3, f4⟩, h9, b0, bB, bO, bT⟩ := hc.ex
  subst h1
  rw [(lastC_len l).1] at hbl
  rw [(lastC_len l).2.1] at hol
  rw [(lastC_len l).2.2] at htl
  refine (radd_ct0 v l _ sb so st k kB kO kT kb ko kt m G b o t w0 H0 h2 h3 h4 h5 h6 (fun b e => Nat.lt_of_lt_of_le (h9 b e).2 hn) d1 d2 d3 d4 d5 d6 f1 f2 f3 f4 (fun b e => ⟨(h9 b e).1, Nat.lt_of_lt_of_le (h9 b e).2 hn⟩) (b0.mono hn) (bB.mono hn) (bO.mono hn) (bT.mono hn) (Nat.le_trans hm hn) hb ho ht
    (Dj.bt b0 nb) (Dj.bt b0 no) (Dj.bt b0 nt) (Dj.bt bB nb) (Dj.bt bB no) (Dj.bt bB nt) (Dj.bt bO nb) (Dj.bt bO no) (Dj.bt bO nt) (Dj.bt bT nb) (Dj.bt bT no) (Dj.bt bT nt) g1 g2 g3 (DF.bt h9 nb) (DF.bt h9 no) (DF.bt h9 nt) (Bt.nx0 nb hb.le hm hn) (Bt.nx0 no ho.le hm hn) (Bt.nx0 nt ht.le hm hn) (by simpa using hl) hbl hol htl).mono ?_
  rintro r H2 ⟨v2, e, hc2, hm2⟩
  exact ⟨v2, e, hc2, hm2.weaken (fun b _ e => four_ge b0 bB bO bT b e)⟩

set_option maxHeartbeats 4000000 in
theorem rchunks_ct (v1 v2 v3 : Value) (a o t : List (List UInt8)) (w0 : World) (H0 : Heap)
    (ha : RdT H0 fS 1 v1 a) (ho : RdT H0 fS 1 v2 o) (ht : RdT H0 fS 1 v3 t) (hal : a.length ≤ 4000) (hol : o.length ≤ 4000) (htl : t.length ≤ 4000) :
    Ct Try.prog w0 29 #[v1, v2, v3] H0 (fun r H2 => ∃ v : Value, ∃ l : List Ck, r = .tuple #[v, .int .i64 0] ∧ (l.map Ck.c = chunksL a o t) ∧ (Rd (fun b => H0.size ≤ b) H2 fK 4 v l) ∧ (∀ x ∈ l, CkR (fun b => H0.size ≤ b) H2 x) ∧ Nw H0 H2) := by
  refine Ct.enter (args := [v1, v2, v3]) Try.func29 rfl rfl rfl ?_
  intro Q0 hret
  have hm0 : Nw H0 H0 := Mo.refl _ _
  replace ha := ha.bnd
  have bf_ha := Rd.bf ha
  replace ho := ho.bnd
  have bf_ho := Rd.bf ho
  replace ht := ht.bnd
  have bf_ht := Rd.bf ht
  refine CW.seq (fun K1 hK1 hE1 => ?_)
  refine CW.region ?_
  refine LR.v (Y.assign rfl rfl) (Wd.u rfl) rfl rfl ?_
  refine LR.v (Y.assign rfl rfl) (Wd.u rfl) rfl rfl ?_
  refine LR.nil ?_
  refine hK1 _ _ ?_
  refine CW.seq (fun K2 hK2 hE2 => ?_)
  refine CW.seq (fun K3 hK3 hE3 => ?_)
  refine CW.region ?_
  refine LR.v (Y.move rfl rfl) (Wd.u rfl) rfl rfl ?_
  refine LR.v (Y.len ha rfl Try.runUnderlying32 rfl) (Wd.u rfl) rfl rfl ?_
  refine LR.v ((Y.gtr rfl rfl rfl).isF (by omega)) (Wd.u rfl) rfl rfl ?_
  refine LR.v (Y.move rfl rfl) (Wd.u rfl) rfl rfl ?_
  refine LR.v (Y.move rfl rfl) (Wd.g rfl rfl rfl) rfl rfl ?_
  refine LR.v (Y.len ho rfl Try.runUnderlying32 rfl) (Wd.g rfl rfl rfl) rfl rfl ?_
  refine LR.v ((Y.gtr rfl rfl rfl).isF (by omega)) (Wd.g rfl rfl rfl) rfl rfl ?_
  refine LR.v (Y.pick_f rfl rfl rfl) (Wd.u rfl) rfl rfl ?_
  refine LR.v (Y.move rfl rfl) (Wd.u rfl) rfl rfl ?_
  refine LR.v (Y.move rfl rfl) (Wd.g rfl rfl rfl) rfl rfl ?_
  refine LR.v (Y.len ht rfl Try.runUnderlying32 rfl) (Wd.g rfl rfl rfl) rfl rfl ?_
  refine LR.v ((Y.gtr rfl rfl rfl).isF (by omega)) (Wd.g rfl rfl rfl) rfl rfl ?_
  refine LR.v (Y.pick_f rfl rfl rfl) (Wd.u rfl) rfl rfl ?_
  refine LR.nil ?_
  refine hK3 _ _ ?_
  refine CW.cond_f rfl ?_
  refine CW.skip ?_
  refine hK2 _ _ ?_
  refine CW.seq (fun K4 hK4 hE4 => ?_)
  refine CW.region ?_
  refine LR.v (Y.move rfl rfl) (Wd.u rfl) rfl rfl ?_
  refine LR.v (Y.move rfl rfl) (Wd.u rfl) rfl rfl ?_
  -- call selvage/selvageref14.partner
  refine LR.call rfl Try.call50 rfl (Wd.u rfl) rfl rfl (partner_ct _ _ a o w0 _ ha.any ho.any hal hol) (fun v33 H33 r33 => ?_)
  obtain ⟨voa, koa, rfl, oa, hk33, hs33⟩ := r33
  have df1 := DF.app (DF.z) (bf_ha.mono hm0.size) hk33
  have df2 := DF.app (DF.z) (bf_ho.mono hm0.size) hk33
  have df3 := DF.app (DF.z) (bf_ht.mono hm0.size) hk33
  have nx4 : Nx 0 H0.size koa := Nx.tr (Nx.refl 0 _) hk33 hm0.size
  replace ha := ha.nw hs33
  replace ho := ho.nw hs33
  replace ht := ht.nw hs33
  replace hm0 := hm0.tr hs33
  have hz1 := hs33.size
  have hle_oa := oa.le
  refine LR.v (Y.move rfl rfl) (Wd.u rfl) rfl rfl ?_
  refine LR.v (Y.extract rfl rfl rfl) (Wd.u rfl) rfl rfl ?_
  refine LR.v (Y.extract rfl rfl rfl) (Wd.u rfl) rfl rfl ?_
  refine LR.v (Y.assign rfl rfl) (Wd.u rfl) rfl rfl ?_
  refine LR.v (Y.assign rfl rfl) (Wd.u rfl) rfl rfl ?_
  refine LR.nil ?_
  refine hK4 _ _ ?_
  refine CW.seq (fun K5 hK5 hE5 => ?_)
  refine CW.region ?_
  refine LR.v (Y.move rfl rfl) (Wd.u rfl) rfl rfl ?_
  refine LR.v (Y.move rfl rfl) (Wd.u rfl) rfl rfl ?_
  -- call selvage/selvageref14.partner
  refine LR.call rfl Try.call50 rfl (Wd.u rfl) rfl rfl (partner_ct _ _ a t w0 _ ha.any ht.any hal htl) (fun v39 H39 r39 => ?_)
  obtain ⟨vob, kob, rfl, ob, hk39, hs39⟩ := r39
  have df5 := DF.app (DF.z) (bf_ha.mono hm0.size) hk39
  have df6 := DF.app (DF.z) (bf_ho.mono hm0.size) hk39
  have df7 := DF.app (DF.z) (bf_ht.mono hm0.size) hk39
  have dj8 : Dj koa kob := Dj.app (Dj.z) oa.le hk39
  have nx9 : Nx 0 H0.size kob := Nx.tr (Nx.refl 0 _) hk39 hm0.size
  replace ha := ha.nw hs39
  replace ho := ho.nw hs39
  replace ht := ht.nw hs39
  replace oa := oa.nw hs39
  replace hm0 := hm0.tr hs39
  have hz2 := hs39.size
  have hle_ob := ob.le
  refine LR.v (Y.move rfl rfl) (Wd.u rfl) rfl rfl ?_
  refine LR.v (Y.extract rfl rfl rfl) (Wd.u rfl) rfl rfl ?_
  have hAP := parts_al a o
  have hAQ := parts_al a t
  obtain ⟨P, hP⟩ : ∃ P, parts a o = P := ⟨_, rfl⟩
  obtain ⟨Q, hQ⟩ : ∃ Q, parts a t = Q := ⟨_, rfl⟩
  rw [hP] at hAP oa
  rw [hQ] at hAQ ob
  have hPl := hAP.len
  have hQl := hAQ.len
  refine LR.v (Y.extract rfl rfl rfl) (Wd.u rfl) rfl rfl ?_
  refine LR.v (Y.assign rfl rfl) (Wd.u rfl) rfl rfl ?_
  refine LR.v (Y.assign rfl rfl) (Wd.u rfl) rfl rfl ?_
  refine LR.nil ?_
  refine hK5 _ _ ?_
  refine CW.seq (fun K6 hK6 hE6 => ?_)
  refine CW.region ?_
  refine LR.v (Y.assign rfl rfl) (Wd.u rfl) rfl rfl ?_
  refine LR.nil ?_
  refine hK6 _ _ ?_
  refine CW.seq (fun K7 hK7 hE7 => ?_)
  refine CW.region ?_
  refine LR.v (Y.assign rfl rfl) (Wd.u rfl) rfl rfl ?_
  refine LR.v (Y.assign rfl rfl) (Wd.u rfl) rfl rfl ?_
  refine LR.v (Y.assign rfl rfl) (Wd.u rfl) rfl rfl ?_
  refine LR.nil ?_
  refine hK7 _ _ ?_
  refine CW.seq (fun K8 hK8 hE8 => ?_)
  refine CW.seq (fun K9 hK9 hE9 => ?_)
  refine CW.region ?_
  refine LR.v (Y.assign rfl rfl) (Wd.u rfl) rfl rfl ?_
  refine LR.nil ?_
  refine hK9 _ _ ?_
  refine CW.block (fun K10 hK10 hX10 hE10 => ?_)
  have la10 := bf_ha.mono hm0.size
  have la11 := bf_ho.mono hm0.size
  have la12 := bf_ht.mono hm0.size
  have la13 : koa ≤ H39.size := oa.le
  have la14 : kob ≤ H39.size := ob.le
  have la15 := hm0.size
  refine CW.loop (fun (s_ : (Nat) × (Value)) => match s_ with | (k, vo) => [(0, v1), (1, v2), (2, v3), (8, voa), (10, vob), (12, vo), (13, .int .i64 (chS a o t P Q k).2.1), (14, .int .i64 (chS a o t P Q k).2.2.1), (15, .int .i64 (chS a o t P Q k).2.2.2), (16, .int .i64 k)])
    (fun (s_ : (Nat) × (Value)) (H : Heap) => match s_ with | (k, vo) => (k ≤ a.length) ∧ (Cc H39.size H.size H vo (chS a o t P Q k).1) ∧ Nw H39 H)
    (fun (s_ : (Nat) × (Value)) => match s_ with | (k, vo) => a.length - k) (0, .slice none 0 0) ⟨rfl, rfl, rfl, rfl, rfl, rfl, rfl, rfl, rfl, rfl, trivial⟩ ?_ ?_
  ·
    exact ⟨(by omega), Cc.nil, Mo.refl _ _⟩
  rintro ⟨k, vo⟩ HL1 hI1 K11 hN11 hE11
  obtain ⟨hk, hc, hlm1⟩ := hI1
  replace ha := ha.nw hlm1
  replace ho := ho.nw hlm1
  replace ht := ht.nw hlm1
  replace oa := oa.nw hlm1
  replace ob := ob.nw hlm1
  replace hm0 := hm0.tr hlm1
  have hz3 := hlm1.size
  have hup := chS_ups hAP hAQ k hk
  have hlb := last_bd hup hal hol htl
  have hun := hup.n
  have hzl := hlm1.size
  refine CW.seq (fun K12 hK12 hE12 => ?_)
  refine CW.seq (fun K13 hK13 hE13 => ?_)
  refine CW.region ?_
  refine LR.v (Y.move rfl rfl) (Wd.u rfl) rfl rfl ?_
  refine LR.v (Y.move rfl rfl) (Wd.u rfl) rfl rfl ?_
  refine LR.v (Y.len ha rfl Try.runUnderlying32 rfl) (Wd.u rfl) rfl rfl ?_
  refine LR.v (Y.lss rfl rfl rfl) (Wd.u rfl) rfl rfl ?_
  refine LR.nil ?_
  refine hK13 _ _ ?_
  refine CW.condp rfl (fun c45 => ?_) (fun c45 => ?_)
  ·
    refine CW.skip ?_
    refine hK12 _ _ ?_
    refine CW.seq (fun K14 hK14 hE14 => ?_)
    refine CW.block (fun K15 hK15 hX15 hE15 => ?_)
    refine CW.seq (fun K16 hK16 hE16 => ?_)
    refine CW.seq (fun K17 hK17 hE17 => ?_)
    refine CW.region ?_
    refine LR.v (Y.move rfl rfl) (Wd.u rfl) rfl rfl ?_
    refine LR.v (Y.move rfl rfl) (Wd.u rfl) rfl rfl ?_
    refine LR.v (Y.owAddr oa (k) rfl Try.runUnderlying89 Try.sizeOf3 rfl rfl (by first | rfl | omega) (by first | omega | (simp; omega) | (simp; done))) (Wd.u rfl) rfl rfl ?_
    refine LR.v (Y.load1 (oa.pt (j := k) (by first | omega | (simp; omega) | (simp; done))) rfl Try.isAgg3 rfl) (Wd.u rfl) rfl rfl ?_
    have hPk := hAP.get k (by omega)
    refine LR.v (Y.lss rfl rfl rfl) (Wd.u rfl) rfl rfl ?_
    refine LR.v (Y.move rfl rfl) (Wd.u rfl) rfl rfl ?_
    refine LR.splitp (d := 53) rfl (fun g53 => ?_) (fun g53 => ?_)
    ·
      refine LR.gs rfl rfl rfl rfl rfl rfl ?_
      refine LR.gs rfl rfl rfl rfl rfl rfl ?_
      refine LR.gs rfl rfl rfl rfl rfl rfl ?_
      refine LR.gs rfl rfl rfl rfl rfl rfl ?_
      refine LR.gs rfl rfl rfl rfl rfl rfl ?_
      refine LR.v (Y.pick_t rfl rfl rfl) (Wd.u rfl) rfl rfl ?_
      refine LR.nil ?_
      refine hK17 _ _ ?_
      refine CW.cond_t rfl ?_
      refine CW.exit (hE16 (.exit 1) nofun _ _ (hX15 _ _ ?_))
      refine hK14 _ _ ?_
      refine CW.region ?_
      refine LR.v (Y.move rfl rfl) (Wd.u rfl) rfl rfl ?_
      refine LR.v (Y.addi rfl rfl rfl (by omega)) (Wd.u rfl) rfl rfl ?_
      refine LR.v (Y.assign rfl rfl) (Wd.u rfl) rfl rfl ?_
      refine LR.nil ?_
      have hng : P.getD k 0 < 0 ∨ Q.getD k 0 < 0 := by omega
      have hsk := chS_skip (a := a) (o := o) (t := t) hng
      have q1 := congrArg (fun s => s.2.1) hsk
      have q2 := congrArg (fun s => s.2.2.1) hsk
      have q3 := congrArg (fun s => s.2.2.2) hsk
      try simp only at q1 q2 q3
      refine QN.sub (hN11 (k + 1, vo) _ ?_ ?_) ⟨rfl, rfl, rfl, rfl, rfl, rfl, (iv (by omega)), (iv (by omega)), (iv (by omega)), (iv (by omega)), trivial⟩
      · exact ⟨(by omega), by rw [hsk]; exact hc.mono (by omega), hlm1⟩
      · first | omega | (simp only; omega) | (simp; omega)
    ·
      refine LR.v (Y.move rfl rfl) (Wd.g rfl rfl rfl) rfl rfl ?_
      refine LR.v (Y.move rfl rfl) (Wd.g rfl rfl rfl) rfl rfl ?_
      refine LR.v (Y.owAddr ob (k) rfl Try.runUnderlying89 Try.sizeOf3 rfl rfl (by first | rfl | omega) (by first | omega | (simp; omega) | (simp; done))) (Wd.g rfl rfl rfl) rfl rfl ?_
      refine LR.v (Y.load1 (ob.pt (j := k) (by first | omega | (simp; omega) | (simp; done))) rfl Try.isAgg3 rfl) (Wd.g rfl rfl rfl) rfl rfl ?_
      have hQk := hAQ.get k (by omega)
      refine LR.v (Y.lss rfl rfl rfl) (Wd.g rfl rfl rfl) rfl rfl ?_
      refine LR.v (Y.pick_f rfl rfl rfl) (Wd.u rfl) rfl rfl ?_
      refine LR.nil ?_
      refine hK17 _ _ ?_
      refine CW.condp rfl (fun c59 => ?_) (fun c59 => ?_)
      ·
        have hng : P.getD k 0 < 0 ∨ Q.getD k 0 < 0 := by omega
        refine CW.exit (hE16 (.exit 1) nofun _ _ (hX15 _ _ ?_))
        refine hK14 _ _ ?_
        refine CW.region ?_
        refine LR.v (Y.move rfl rfl) (Wd.u rfl) rfl rfl ?_
        refine LR.v (Y.addi rfl rfl rfl (by omega)) (Wd.u rfl) rfl rfl ?_
        refine LR.v (Y.assign rfl rfl) (Wd.u rfl) rfl rfl ?_
        refine LR.nil ?_
        have hng : P.getD k 0 < 0 ∨ Q.getD k 0 < 0 := by omega
        have hsk := chS_skip (a := a) (o := o) (t := t) hng
        have q1 := congrArg (fun s => s.2.1) hsk
        have q2 := congrArg (fun s => s.2.2.1) hsk
        have q3 := congrArg (fun s => s.2.2.2) hsk
        try simp only at q1 q2 q3
        refine QN.sub (hN11 (k + 1, vo) _ ?_ ?_) ⟨rfl, rfl, rfl, rfl, rfl, rfl, (iv (by omega)), (iv (by omega)), (iv (by omega)), (iv (by omega)), trivial⟩
        · exact ⟨(by omega), by rw [hsk]; exact hc.mono (by omega), hlm1⟩
        · first | omega | (simp only; omega) | (simp; omega)
      ·
        have hng : ¬ (P.getD k 0 < 0 ∨ Q.getD k 0 < 0) := by omega
        obtain ⟨x, y, hx, hy, hxl, hyl, hf1, hf2, hf3, hox, hty⟩ := chS_at hAP hAQ (by omega) hng
        have h1 := slL_le a (chS a o t P Q k).2.1 k
        have h2 := slL_le o (chS a o t P Q k).2.2.1 x
        have h3 := slL_le t (chS a o t P Q k).2.2.2 y
        have h4 := slL_le a k (k + 1)
        have h5 := slL_le o x (x + 1)
        have h6 := slL_le t y (y + 1)
        have hl1 := addC_len (chS a o t P Q k).1 (kindL (slL a (chS a o t P Q k).2.1 k) (slL o (chS a o t P Q k).2.2.1 x) (slL t (chS a o t P Q k).2.2.2 y)) (slL a (chS a o t P Q k).2.1 k) (slL o (chS a o t P Q k).2.2.1 x) (slL t (chS a o t P Q k).2.2.2 y)
        have hb1 := addG_bd (chS a o t P Q k).1 (slL a (chS a o t P Q k).2.1 k) (slL o (chS a o t P Q k).2.2.1 x) (slL t (chS a o t P Q k).2.2.2 y) hlb (by omega) (by omega) (by omega)
        have hl2 : (addG (chS a o t P Q k).1 (slL a (chS a o t P Q k).2.1 k) (slL o (chS a o t P Q k).2.2.1 x) (slL t (chS a o t P Q k).2.2.2 y)).length ≤ (chS a o t P Q k).1.length + 1 := hl1
        refine CW.skip ?_
        refine hK16 _ _ ?_
        refine CW.seq (fun K18 hK18 hE18 => ?_)
        refine CW.region_any (fun Hq => Mo (fun c => H39.size ≤ c) HL1 Hq) [] rfl ?_
        have hq11 : Mo (fun c => H39.size ≤ c) HL1 HL1 := Mo.refl _ _
        refine LH.take 0 (by kernel_rfl) rfl (by kernel_rfl) (by kernel_rfl) (by kernel_rfl) (fun Hq hq => Y.move rfl rfl) (Wd.u rfl) rfl rfl hq11 ?_
        refine LH.take 1 (by kernel_rfl) rfl (by kernel_rfl) (by kernel_rfl) (by kernel_rfl) (fun Hq hq => Y.move rfl rfl) (Wd.u rfl) rfl rfl hq11 ?_
        refine LH.take 2 (by kernel_rfl) rfl (by kernel_rfl) (by kernel_rfl) (by kernel_rfl) (fun Hq hq => Y.move rfl rfl) (Wd.u rfl) rfl rfl hq11 ?_
        refine LH.take 3 (by kernel_rfl) rfl (by kernel_rfl) (by kernel_rfl) (by kernel_rfl) (fun Hq hq => Y.move rfl rfl) (Wd.u rfl) rfl rfl hq11 ?_
        refine LH.e (g := fun v => v) 4 (by kernel_rfl) rfl (by kernel_rfl) (by kernel_rfl) (by kernel_rfl) (Y.slice ha ((chS a o t P Q k).2.1) (k) rfl Try.runUnderlying32 Try.sizeOf9 rfl (.inr ⟨_, _, _, rfl, rfl, by first | rfl | omega⟩) (.inr ⟨_, _, _, rfl, rfl, by first | rfl | omega⟩) (by omega) (by omega)) (Wd.u rfl) rfl rfl hq11 (fun v64 rd64 => ?_)
        have bf_rd64 := bf_ha
        refine LH.take 5 (by kernel_rfl) rfl (by kernel_rfl) (by kernel_rfl) (by kernel_rfl) (fun Hq hq => Y.move rfl rfl) (Wd.u rfl) rfl rfl hq11 ?_
        refine LH.take 6 (by kernel_rfl) rfl (by kernel_rfl) (by kernel_rfl) (by kernel_rfl) (fun Hq hq => Y.move rfl rfl) (Wd.u rfl) rfl rfl hq11 ?_
        refine LH.take 7 (by kernel_rfl) rfl (by kernel_rfl) (by kernel_rfl) (by kernel_rfl) (fun Hq hq => Y.move rfl rfl) (Wd.u rfl) rfl rfl hq11 ?_
        refine LH.take 8 (by kernel_rfl) rfl (by kernel_rfl) (by kernel_rfl) (by kernel_rfl) (fun Hq hq => Y.move rfl rfl) (Wd.u rfl) rfl rfl hq11 ?_
        refine LH.take 9 (by kernel_rfl) rfl (by kernel_rfl) (by kernel_rfl) (by kernel_rfl) (fun Hq hq => Y.owAddr (oa.upA hq la13) (k) rfl Try.runUnderlying89 Try.sizeOf3 rfl rfl (by first | rfl | omega) (by first | omega | (simp; omega) | (simp; done))) (Wd.u rfl) rfl rfl hq11 ?_
        refine LH.take 10 (by kernel_rfl) rfl (by kernel_rfl) (by kernel_rfl) (by kernel_rfl) (fun Hq hq => Y.load1 ((oa.upA hq la13).pt (j := k) (by first | omega | (simp; omega) | (simp; done))) rfl Try.isAgg3 rfl) (Wd.u rfl) rfl rfl hq11 ?_
        refine LH.e (g := fun v => v) 11 (by kernel_rfl) rfl (by kernel_rfl) (by kernel_rfl) (by kernel_rfl) (Y.slice ho ((chS a o t P Q k).2.2.1) (x) rfl Try.runUnderlying32 Try.sizeOf9 rfl (.inr ⟨_, _, _, rfl, rfl, by first | rfl | omega⟩) (.inr ⟨_, _, _, rfl, rfl, by rw [hPk, hx]⟩) (by omega) (by omega)) (Wd.u rfl) rfl rfl hq11 (fun v71 rd71 => ?_)
        have bf_rd71 := bf_ho
        refine LH.take 12 (by kernel_rfl) rfl (by kernel_rfl) (by kernel_rfl) (by kernel_rfl) (fun Hq hq => Y.move rfl rfl) (Wd.u rfl) rfl rfl hq11 ?_
        refine LH.take 13 (by kernel_rfl) rfl (by kernel_rfl) (by kernel_rfl) (by kernel_rfl) (fun Hq hq => Y.move rfl rfl) (Wd.u rfl) rfl rfl hq11 ?_
        refine LH.take 14 (by kernel_rfl) rfl (by kernel_rfl) (by kernel_rfl) (by kernel_rfl) (fun Hq hq => Y.move rfl rfl) (Wd.u rfl) rfl rfl hq11 ?_
        refine LH.take 15 (by kernel_rfl) rfl (by kernel_rfl) (by kernel_rfl) (by kernel_rfl) (fun Hq hq => Y.move rfl rfl) (Wd.u rfl) rfl rfl hq11 ?_
        refine LH.take 16 (by kernel_rfl) rfl (by kernel_rfl) (by kernel_rfl) (by kernel_rfl) (fun Hq hq => Y.owAddr (ob.upA hq la14) (k) rfl Try.runUnderlying89 Try.sizeOf3 rfl rfl (by first | rfl | omega) (by first | omega | (simp; omega) | (simp; done))) (Wd.u rfl) rfl rfl hq11 ?_
        refine LH.take 17 (by kernel_rfl) rfl (by kernel_rfl) (by kernel_rfl) (by kernel_rfl) (fun Hq hq => Y.load1 ((ob.upA hq la14).pt (j := k) (by first | omega | (simp; omega) | (simp; done))) rfl Try.isAgg3 rfl) (Wd.u rfl) rfl rfl hq11 ?_
        refine LH.e (g := fun v => v) 18 (by kernel_rfl) rfl (by kernel_rfl) (by kernel_rfl) (by kernel_rfl) (Y.slice ht ((chS a o t P Q k).2.2.2) (y) rfl Try.runUnderlying32 Try.sizeOf9 rfl (.inr ⟨_, _, _, rfl, rfl, by first | rfl | omega⟩) (.inr ⟨_, _, _, rfl, rfl, by rw [hQk, hy]⟩) (by omega) (by omega)) (Wd.u rfl) rfl rfl hq11 (fun v78 rd78 => ?_)
        have bf_rd78 := bf_ht
        refine LH.one (i := 19) (by kernel_rfl) ?_
        -- call selvage/selvageref14.gap
        refine LO.call rfl rfl Try.call51 rfl (Wd.u rfl) rfl rfl (gap_ct _ _ _ (slL a (chS a o t P Q k).2.1 k) (slL o (chS a o t P Q k).2.2.1 x) (slL t (chS a o t P Q k).2.2.2 y) w0 _ rd64.any rd71.any rd78.any (by omega) (by omega) (by omega)) (fun v79 H79 r79 => ?_)
        obtain ⟨s179, s279, s379, k179, k279, k379, rfl, ob79, oo79, ot79, hk179, hk279, hk379, d1279, d1379, d2379, hs79⟩ := r79
        have df16 := DF.app (DF.z) (bf_ha.mono hm0.size) hk179
        have df17 := DF.app (DF.z) (bf_ho.mono hm0.size) hk179
        have df18 := DF.app (DF.z) (bf_ht.mono hm0.size) hk179
        have dj19 : Dj koa k179 := Dj.app (Dj.z) oa.le hk179
        have dj20 : Dj kob k179 := Dj.app (Dj.z) ob.le hk179
        have df21 := DF.app (DF.z) (bf_rd64.mono hm0.size) hk179
        have df22 := DF.app (DF.z) (bf_rd71.mono hm0.size) hk179
        have df23 := DF.app (DF.z) (bf_rd78.mono hm0.size) hk179
        have nx24 : Nx 0 H0.size k179 := Nx.tr (Nx.refl 0 _) hk179 hm0.size
        have nx25 : Nx 0 H39.size k179 := Nx.tr (Nx.refl 0 _) hk179 hlm1.size
        have df26 := DF.app (DF.z) (bf_ha.mono hm0.size) hk279
        have df27 := DF.app (DF.z) (bf_ho.mono hm0.size) hk279
        have df28 := DF.app (DF.z) (bf_ht.mono hm0.size) hk279
        have dj29 : Dj koa k279 := Dj.app (Dj.z) oa.le hk279
        have dj30 : Dj kob k279 := Dj.app (Dj.z) ob.le hk279
        have df31 := DF.app (DF.z) (bf_rd64.mono hm0.size) hk279
        have df32 := DF.app (DF.z) (bf_rd71.mono hm0.size) hk279
        have df33 := DF.app (DF.z) (bf_rd78.mono hm0.size) hk279
        have nx34 : Nx 0 H0.size k279 := Nx.tr (Nx.refl 0 _) hk279 hm0.size
        have nx35 : Nx 0 H39.size k279 := Nx.tr (Nx.refl 0 _) hk279 hlm1.size
        have df36 := DF.app (DF.z) (bf_ha.mono hm0.size) hk379
        have df37 := DF.app (DF.z) (bf_ho.mono hm0.size) hk379
        have df38 := DF.app (DF.z) (bf_ht.mono hm0.size) hk379
        have dj39 : Dj koa k379 := Dj.app (Dj.z) oa.le hk379
        have dj40 : Dj kob k379 := Dj.app (Dj.z) ob.le hk379
        have df41 := DF.app (DF.z) (bf_rd64.mono hm0.size) hk379
        have df42 := DF.app (DF.z) (bf_rd71.mono hm0.size) hk379
        have df43 := DF.app (DF.z) (bf_rd78.mono hm0.size) hk379
        have nx44 : Nx 0 H0.size k379 := Nx.tr (Nx.refl 0 _) hk379 hm0.size
        have nx45 : Nx 0 H39.size k379 := Nx.tr (Nx.refl 0 _) hk379 hlm1.size
        replace ha := ha.nw hs79
        replace ho := ho.nw hs79
        replace ht := ht.nw hs79
        replace oa := oa.nw hs79
        replace ob := ob.nw hs79
        replace hc := hc.nw hs79
        replace rd64 := rd64.nw hs79
        replace rd71 := rd71.nw hs79
        replace rd78 := rd78.nw hs79
        replace hm0 := hm0.tr hs79
        replace hlm1 := hlm1.tr hs79
        have hz4 := hs79.size
        have hle_ob79 := ob79.le
        have hle_oo79 := oo79.le
        have hle_ot79 := ot79.le
        have hqt19 : Mo (fun c => H39.size ≤ c) _ _ := Mo.trans hq11 hs79 (fun _ _ e => e) (fun _ _ e => by first | exact e | exact e.elim)
        refine ⟨.inr hqt19, LH.narrow (SH2 := fun Hq => Mo (fun c => H39.size ≤ c) H79 Hq) (fun Hq hq => Mo.trans hqt19 hq (fun _ _ e => e) (fun _ _ e => e)) ?_⟩
        have hq11_19 : Mo (fun c => H39.size ≤ c) H79 H79 := Mo.refl _ _
        refine LH.one (i := 20) (by kernel_rfl) ?_
        -- call selvage/selvageref14.add
        refine LO.call rfl rfl Try.call46 rfl (Wd.u rfl) rfl rfl (radd_ct vo (chS a o t P Q k).1 H39.size _ (slL a (chS a o t P Q k).2.1 k) (slL o (chS a o t P Q k).2.2.1 x) (slL t (chS a o t P Q k).2.2.2 y) _ _ _ _ _ _ w0 _ hc (by omega) (by have := hs79.size; omega) ob79 oo79 ot79 hk179 hk279 hk379 d1279 d1379 d2379 (by omega) (by omega) (by omega) (by omega)) (fun v80 H80 r80 => ?_)
        obtain ⟨v80, rfl, hc80, hs80⟩ := r80
        replace ha := ha.upA hs80 la10
        replace ho := ho.upA hs80 la11
        replace ht := ht.upA hs80 la12
        replace oa := oa.upA hs80 la13
        replace ob := ob.upA hs80 la14
        replace rd64 := rd64.upA hs80 la10
        replace rd71 := rd71.upA hs80 la11
        replace rd78 := rd78.upA hs80 la12
        replace hm0 := hm0.trA hs80 la15
        replace hlm1 := hlm1.trA hs80 (Nat.le_refl _)
        have hz5 := hs80.size
        have hqt20 : Mo (fun c => H39.size ≤ c) _ _ := Mo.trans hq11_19 hs80 (fun _ _ e => e) (fun _ _ e => by first | exact e | exact e.elim)
        refine ⟨.inr hqt20, LH.narrow (SH2 := fun Hq => Mo (fun c => H39.size ≤ c) H80 Hq) (fun Hq hq => Mo.trans hqt20 hq (fun _ _ e => e) (fun _ _ e => e)) ?_⟩
        have hq11_20 : Mo (fun c => H39.size ≤ c) H80 H80 := Mo.refl _ _
        refine LH.take 21 (by kernel_rfl) rfl (by kernel_rfl) (by kernel_rfl) (by kernel_rfl) (fun Hq hq => Y.assign rfl rfl) (Wd.u rfl) rfl rfl hq11_20 ?_
        refine LH.done (by kernel_rfl) ?_
        refine hK18 _ _ ?_
        refine CW.seq (fun K19 hK19 hE19 => ?_)
        refine CW.region_any (fun Hq => Mo (fun c => H39.size ≤ c) H80 Hq) [] rfl ?_
        have hq12 : Mo (fun c => H39.size ≤ c) H80 H80 := Mo.refl _ _
        refine LH.take 0 (by kernel_rfl) rfl (by kernel_rfl) (by kernel_rfl) (by kernel_rfl) (fun Hq hq => Y.move rfl rfl) (Wd.u rfl) rfl rfl hq12 ?_
        refine LH.take 1 (by kernel_rfl) rfl (by kernel_rfl) (by kernel_rfl) (by kernel_rfl) (fun Hq hq => Y.move rfl rfl) (Wd.u rfl) rfl rfl hq12 ?_
        refine LH.take 2 (by kernel_rfl) rfl (by kernel_rfl) (by kernel_rfl) (by kernel_rfl) (fun Hq hq => Y.move rfl rfl) (Wd.u rfl) rfl rfl hq12 ?_
        refine LH.take 3 (by kernel_rfl) rfl (by kernel_rfl) (by kernel_rfl) (by kernel_rfl) (fun Hq hq => Y.move rfl rfl) (Wd.u rfl) rfl rfl hq12 ?_
        refine LH.take 4 (by kernel_rfl) rfl (by kernel_rfl) (by kernel_rfl) (by kernel_rfl) (fun Hq hq => Y.addi rfl rfl rfl (by omega)) (Wd.u rfl) rfl rfl hq12 ?_
        refine LH.e (g := fun v => v) 5 (by kernel_rfl) rfl (by kernel_rfl) (by kernel_rfl) (by kernel_rfl) (Y.slice ha (k) (k + 1) rfl Try.runUnderlying32 Try.sizeOf9 rfl (.inr ⟨_, _, _, rfl, rfl, by first | rfl | omega⟩) (.inr ⟨_, _, _, rfl, rfl, by first | rfl | omega⟩) (by omega) (by omega)) (Wd.u rfl) rfl rfl hq12 (fun v86 rd86 => ?_)
        have bf_rd86 := bf_ha
        refine LH.take 6 (by kernel_rfl) rfl (by kernel_rfl) (by kernel_rfl) (by kernel_rfl) (fun Hq hq => Y.move rfl rfl) (Wd.u rfl) rfl rfl hq12 ?_
        refine LH.take 7 (by kernel_rfl) rfl (by kernel_rfl) (by kernel_rfl) (by kernel_rfl) (fun Hq hq => Y.move rfl rfl) (Wd.u rfl) rfl rfl hq12 ?_
        refine LH.take 8 (by kernel_rfl) rfl (by kernel_rfl) (by kernel_rfl) (by kernel_rfl) (fun Hq hq => Y.move rfl rfl) (Wd.u rfl) rfl rfl hq12 ?_
        refine LH.take 9 (by kernel_rfl) rfl (by kernel_rfl) (by kernel_rfl) (by kernel_rfl) (fun Hq hq => Y.addi rfl rfl rfl (by omega)) (Wd.u rfl) rfl rfl hq12 ?_
        refine LH.e (g := fun v => v) 10 (by kernel_rfl) rfl (by kernel_rfl) (by kernel_rfl) (by kernel_rfl) (Y.slice ha (k) (k + 1) rfl Try.runUnderlying32 Try.sizeOf9 rfl (.inr ⟨_, _, _, rfl, rfl, by first | rfl | omega⟩) (.inr ⟨_, _, _, rfl, rfl, by first | rfl | omega⟩) (by omega) (by omega)) (Wd.u rfl) rfl rfl hq12 (fun v91 rd91 => ?_)
        have bf_rd91 := bf_ha
        refine LH.take 11 (by kernel_rfl) rfl (by kernel_rfl) (by kernel_rfl) (by kernel_rfl) (fun Hq hq => Y.move rfl rfl) (Wd.u rfl) rfl rfl hq12 ?_
        refine LH.take 12 (by kernel_rfl) rfl (by kernel_rfl) (by kernel_rfl) (by kernel_rfl) (fun Hq hq => Y.move rfl rfl) (Wd.u rfl) rfl rfl hq12 ?_
        refine LH.take 13 (by kernel_rfl) rfl (by kernel_rfl) (by kernel_rfl) (by kernel_rfl) (fun Hq hq => Y.move rfl rfl) (Wd.u rfl) rfl rfl hq12 ?_
        refine LH.take 14 (by kernel_rfl) rfl (by kernel_rfl) (by kernel_rfl) (by kernel_rfl) (fun Hq hq => Y.addi rfl rfl rfl (by omega)) (Wd.u rfl) rfl rfl hq12 ?_
        refine LH.e (g := fun v => v) 15 (by kernel_rfl) rfl (by kernel_rfl) (by kernel_rfl) (by kernel_rfl) (Y.slice ha (k) (k + 1) rfl Try.runUnderlying32 Try.sizeOf9 rfl (.inr ⟨_, _, _, rfl, rfl, by first | rfl | omega⟩) (.inr ⟨_, _, _, rfl, rfl, by first | rfl | omega⟩) (by omega) (by omega)) (Wd.u rfl) rfl rfl hq12 (fun v96 rd96 => ?_)
        have bf_rd96 := bf_ha
        refine LH.one (i := 16) (by kernel_rfl) ?_
        -- call selvage/selvageref14.gap
        refine LO.call rfl rfl Try.call51 rfl (Wd.u rfl) rfl rfl (gap_ct _ _ _ (slL a k (k + 1)) (slL a k (k + 1)) (slL a k (k + 1)) w0 _ rd86.any rd91.any rd96.any (by omega) (by omega) (by omega)) (fun v97 H97 r97 => ?_)
        obtain ⟨s197, s297, s397, k197, k297, k397, rfl, ob97, oo97, ot97, hk197, hk297, hk397, d1297, d1397, d2397, hs97⟩ := r97
        have df46 := DF.app (DF.z) (bf_ha.mono hm0.size) hk197
        have df47 := DF.app (DF.z) (bf_ho.mono hm0.size) hk197
        have df48 := DF.app (DF.z) (bf_ht.mono hm0.size) hk197
        have dj49 : Dj koa k197 := Dj.app (Dj.z) oa.le hk197
        have dj50 : Dj kob k197 := Dj.app (Dj.z) ob.le hk197
        have df51 := DF.app (DF.z) (bf_rd86.mono hm0.size) hk197
        have df52 := DF.app (DF.z) (bf_rd91.mono hm0.size) hk197
        have df53 := DF.app (DF.z) (bf_rd96.mono hm0.size) hk197
        have nx54 : Nx 0 H0.size k197 := Nx.tr (Nx.refl 0 _) hk197 hm0.size
        have nx55 : Nx 0 H39.size k197 := Nx.tr (Nx.refl 0 _) hk197 hlm1.size
        have df56 := DF.app (DF.z) (bf_ha.mono hm0.size) hk297
        have df57 := DF.app (DF.z) (bf_ho.mono hm0.size) hk297
        have df58 := DF.app (DF.z) (bf_ht.mono hm0.size) hk297
        have dj59 : Dj koa k297 := Dj.app (Dj.z) oa.le hk297
        have dj60 : Dj kob k297 := Dj.app (Dj.z) ob.le hk297
        have df61 := DF.app (DF.z) (bf_rd86.mono hm0.size) hk297
        have df62 := DF.app (DF.z) (bf_rd91.mono hm0.size) hk297
        have df63 := DF.app (DF.z) (bf_rd96.mono hm0.size) hk297
        have nx64 : Nx 0 H0.size k297 := Nx.tr (Nx.refl 0 _) hk297 hm0.size
        have nx65 : Nx 0 H39.size k297 := Nx.tr (Nx.refl 0 _) hk297 hlm1.size
        have df66 := DF.app (DF.z) (bf_ha.mono hm0.size) hk397
        have df67 := DF.app (DF.z) (bf_ho.mono hm0.size) hk397
        have df68 := DF.app (DF.z) (bf_ht.mono hm0.size) hk397
        have dj69 : Dj koa k397 := Dj.app (Dj.z) oa.le hk397
        have dj70 : Dj kob k397 := Dj.app (Dj.z) ob.le hk397
        have df71 := DF.app (DF.z) (bf_rd86.mono hm0.size) hk397
        have df72 := DF.app (DF.z) (bf_rd91.mono hm0.size) hk397
        have df73 := DF.app (DF.z) (bf_rd96.mono hm0.size) hk397
        have nx74 : Nx 0 H0.size k397 := Nx.tr (Nx.refl 0 _) hk397 hm0.size
        have nx75 : Nx 0 H39.size k397 := Nx.tr (Nx.refl 0 _) hk397 hlm1.size
        replace ha := ha.nw hs97
        replace ho := ho.nw hs97
        replace ht := ht.nw hs97
        replace oa := oa.nw hs97
        replace ob := ob.nw hs97
        replace hc80 := hc80.nw hs97
        replace rd86 := rd86.nw hs97
        replace rd91 := rd91.nw hs97
        replace rd96 := rd96.nw hs97
        replace hm0 := hm0.tr hs97
        replace hlm1 := hlm1.tr hs97
        have hz6 := hs97.size
        have hle_ob97 := ob97.le
        have hle_oo97 := oo97.le
        have hle_ot97 := ot97.le
        have ea := sl_one (show o[x]? = a[k]? from hox) hxl (by omega)
        have eb := sl_one (show t[y]? = a[k]? from hty) hyl (by omega)
        have hqt16 : Mo (fun c => H39.size ≤ c) _ _ := Mo.trans hq12 hs97 (fun _ _ e => e) (fun _ _ e => by first | exact e | exact e.elim)
        refine ⟨.inr hqt16, LH.narrow (SH2 := fun Hq => Mo (fun c => H39.size ≤ c) H97 Hq) (fun Hq hq => Mo.trans hqt16 hq (fun _ _ e => e) (fun _ _ e => e)) ?_⟩
        have hq12_16 : Mo (fun c => H39.size ≤ c) H97 H97 := Mo.refl _ _
        refine LH.one (i := 17) (by kernel_rfl) ?_
        -- call selvage/selvageref14.add
        refine LO.call rfl rfl Try.call46 rfl (Wd.u rfl) rfl rfl (radd_ct v80 (addG (chS a o t P Q k).1 (slL a (chS a o t P Q k).2.1 k) (slL o (chS a o t P Q k).2.2.1 x) (slL t (chS a o t P Q k).2.2.2 y)) H39.size _ (slL a k (k + 1)) (slL a k (k + 1)) (slL a k (k + 1)) _ _ _ _ _ _ w0 _ hc80 (by have := hlm1.size; omega) (by have := hs97.size; omega) ob97 oo97 ot97 hk197 hk297 hk397 d1297 d1397 d2397 (by omega) (by omega) (by omega) (by omega)) (fun v98 H98 r98 => ?_)
        obtain ⟨v98, rfl, hc98, hs98⟩ := r98
        replace ha := ha.upA hs98 la10
        replace ho := ho.upA hs98 la11
        replace ht := ht.upA hs98 la12
        replace oa := oa.upA hs98 la13
        replace ob := ob.upA hs98 la14
        replace rd86 := rd86.upA hs98 la10
        replace rd91 := rd91.upA hs98 la10
        replace rd96 := rd96.upA hs98 la10
        replace hm0 := hm0.trA hs98 la15
        replace hlm1 := hlm1.trA hs98 (Nat.le_refl _)
        have hz7 := hs98.size
        have hqt17 : Mo (fun c => H39.size ≤ c) _ _ := Mo.trans hq12_16 hs98 (fun _ _ e => e) (fun _ _ e => by first | exact e | exact e.elim)
        refine ⟨.inr hqt17, LH.narrow (SH2 := fun Hq => Mo (fun c => H39.size ≤ c) H98 Hq) (fun Hq hq => Mo.trans hqt17 hq (fun _ _ e => e) (fun _ _ e => e)) ?_⟩
        have hq12_17 : Mo (fun c => H39.size ≤ c) H98 H98 := Mo.refl _ _
        refine LH.take 18 (by kernel_rfl) rfl (by kernel_rfl) (by kernel_rfl) (by kernel_rfl) (fun Hq hq => Y.assign rfl rfl) (Wd.u rfl) rfl rfl hq12_17 ?_
        refine LH.done (by kernel_rfl) ?_
        refine hK19 _ _ ?_
        refine CW.region_draw rfl (by kernel_rfl) ?_
        refine LR.v (Y.move rfl rfl) (Wd.u rfl) rfl rfl ?_
        refine LR.v (Y.addi rfl rfl rfl (by omega)) (Wd.u rfl) rfl rfl ?_
        refine LR.v (Y.move rfl rfl) (Wd.u rfl) rfl rfl ?_
        refine LR.v (Y.move rfl rfl) (Wd.u rfl) rfl rfl ?_
        refine LR.v (Y.owAddr oa (_) rfl Try.runUnderlying89 Try.sizeOf3 rfl rfl rfl (by first | omega | (simp; omega) | (simp; done))) (Wd.u rfl) rfl rfl ?_
        refine LR.v (Y.load1 (oa.pt (j := _) (by first | omega | (simp; omega) | (simp; done))) rfl Try.isAgg3 rfl) (Wd.u rfl) rfl rfl ?_
        refine LR.v (Y.addi rfl rfl rfl (by omega)) (Wd.u rfl) rfl rfl ?_
        refine LR.v (Y.move rfl rfl) (Wd.u rfl) rfl rfl ?_
        refine LR.v (Y.move rfl rfl) (Wd.u rfl) rfl rfl ?_
        refine LR.v (Y.owAddr ob (_) rfl Try.runUnderlying89 Try.sizeOf3 rfl rfl rfl (by first | omega | (simp; omega) | (simp; done))) (Wd.u rfl) rfl rfl ?_
        refine LR.v (Y.load1 (ob.pt (j := _) (by first | omega | (simp; omega) | (simp; done))) rfl Try.isAgg3 rfl) (Wd.u rfl) rfl rfl ?_
        refine LR.v (Y.addi rfl rfl rfl (by omega)) (Wd.u rfl) rfl rfl ?_
        refine LR.v (Y.assign rfl rfl) (Wd.u rfl) rfl rfl ?_
        refine LR.v (Y.assign rfl rfl) (Wd.u rfl) rfl rfl ?_
        refine LR.v (Y.assign rfl rfl) (Wd.u rfl) rfl rfl ?_
        refine LR.nil ?_
        refine hK15 _ _ ?_
        refine hK14 _ _ ?_
        refine CW.region ?_
        refine LR.v (Y.move rfl rfl) (Wd.u rfl) rfl rfl ?_
        refine LR.v (Y.addi rfl rfl rfl (by omega)) (Wd.u rfl) rfl rfl ?_
        refine LR.v (Y.assign rfl rfl) (Wd.u rfl) rfl rfl ?_
        refine LR.nil ?_
        have hgo := chS_go (a := a) (o := o) (t := t) hx hy
        have q1 := congrArg (fun s => s.2.1) hgo
        have q2 := congrArg (fun s => s.2.2.1) hgo
        have q3 := congrArg (fun s => s.2.2.2) hgo
        try simp only at q1 q2 q3
        refine QN.sub (hN11 (k + 1, v98) _ ?_ ?_) ⟨rfl, rfl, rfl, rfl, rfl, rfl, (iv (by omega)), (iv (by omega)), (iv (by omega)), (iv (by omega)), trivial⟩
        · exact ⟨(by omega), by rw [hgo, ea, eb]; exact hc98, hlm1⟩
        · first | omega | (simp only; omega) | (simp; omega)
  ·
    obtain rfl : k = a.length := by omega
    have hfi := hup.i
    have hfj := hup.j
    have hff := hup.f
    refine CW.exit (hE12 (.exit 0) nofun _ _ (hE11 (.exit 0) nofun _ _ (hX10 _ _ ?_)))
    refine hK8 _ _ ?_
    refine CW.seq (fun K20 hK20 hE20 => ?_)
    refine CW.region_any (fun Hq => Mo (fun c => H39.size ≤ c) HL1 Hq) [] rfl ?_
    have hq14 : Mo (fun c => H39.size ≤ c) HL1 HL1 := Mo.refl _ _
    refine LH.take 0 (by kernel_rfl) rfl (by kernel_rfl) (by kernel_rfl) (by kernel_rfl) (fun Hq hq => Y.move rfl rfl) (Wd.u rfl) rfl rfl hq14 ?_
    refine LH.take 1 (by kernel_rfl) rfl (by kernel_rfl) (by kernel_rfl) (by kernel_rfl) (fun Hq hq => Y.move rfl rfl) (Wd.u rfl) rfl rfl hq14 ?_
    refine LH.take 2 (by kernel_rfl) rfl (by kernel_rfl) (by kernel_rfl) (by kernel_rfl) (fun Hq hq => Y.move rfl rfl) (Wd.u rfl) rfl rfl hq14 ?_
    refine LH.e (g := fun v => v) 3 (by kernel_rfl) rfl (by kernel_rfl) (by kernel_rfl) (by kernel_rfl) (Y.slice ha ((chS a o t P Q a.length).2.1) (_) rfl Try.runUnderlying32 Try.sizeOf9 rfl (.inr ⟨_, _, _, rfl, rfl, by first | rfl | omega⟩) (.inl ⟨rfl, rfl⟩) (by omega) (by omega)) (Wd.u rfl) rfl rfl hq14 (fun v114 rd114 => ?_)
    have bf_rd114 := bf_ha
    rw [List.take_length] at rd114
    refine LH.take 4 (by kernel_rfl) rfl (by kernel_rfl) (by kernel_rfl) (by kernel_rfl) (fun Hq hq => Y.move rfl rfl) (Wd.u rfl) rfl rfl hq14 ?_
    refine LH.take 5 (by kernel_rfl) rfl (by kernel_rfl) (by kernel_rfl) (by kernel_rfl) (fun Hq hq => Y.move rfl rfl) (Wd.u rfl) rfl rfl hq14 ?_
    refine LH.e (g := fun v => v) 6 (by kernel_rfl) rfl (by kernel_rfl) (by kernel_rfl) (by kernel_rfl) (Y.slice ho ((chS a o t P Q a.length).2.2.1) (_) rfl Try.runUnderlying32 Try.sizeOf9 rfl (.inr ⟨_, _, _, rfl, rfl, by first | rfl | omega⟩) (.inl ⟨rfl, rfl⟩) (by omega) (by omega)) (Wd.u rfl) rfl rfl hq14 (fun v117 rd117 => ?_)
    have bf_rd117 := bf_ho
    rw [List.take_length] at rd117
    refine LH.take 7 (by kernel_rfl) rfl (by kernel_rfl) (by kernel_rfl) (by kernel_rfl) (fun Hq hq => Y.move rfl rfl) (Wd.u rfl) rfl rfl hq14 ?_
    refine LH.take 8 (by kernel_rfl) rfl (by kernel_rfl) (by kernel_rfl) (by kernel_rfl) (fun Hq hq => Y.move rfl rfl) (Wd.u rfl) rfl rfl hq14 ?_
    refine LH.e (g := fun v => v) 9 (by kernel_rfl) rfl (by kernel_rfl) (by kernel_rfl) (by kernel_rfl) (Y.slice ht ((chS a o t P Q a.length).2.2.2) (_) rfl Try.runUnderlying32 Try.sizeOf9 rfl (.inr ⟨_, _, _, rfl, rfl, by first | rfl | omega⟩) (.inl ⟨rfl, rfl⟩) (by omega) (by omega)) (Wd.u rfl) rfl rfl hq14 (fun v120 rd120 => ?_)
    have bf_rd120 := bf_ht
    rw [List.take_length] at rd120
    refine LH.one (i := 10) (by kernel_rfl) ?_
    -- call selvage/selvageref14.gap
    refine LO.call rfl rfl Try.call51 rfl (Wd.u rfl) rfl rfl (gap_ct _ _ _ (a.drop (chS a o t P Q a.length).2.1) (o.drop (chS a o t P Q a.length).2.2.1) (t.drop (chS a o t P Q a.length).2.2.2) w0 _ rd114.any rd117.any rd120.any (by simp; omega) (by simp; omega) (by simp; omega)) (fun v121 H121 r121 => ?_)
    obtain ⟨s1121, s2121, s3121, k1121, k2121, k3121, rfl, ob121, oo121, ot121, hk1121, hk2121, hk3121, d12121, d13121, d23121, hs121⟩ := r121
    have df76 := DF.app (DF.z) (bf_ha.mono hm0.size) hk1121
    have df77 := DF.app (DF.z) (bf_ho.mono hm0.size) hk1121
    have df78 := DF.app (DF.z) (bf_ht.mono hm0.size) hk1121
    have dj79 : Dj koa k1121 := Dj.app (Dj.z) oa.le hk1121
    have dj80 : Dj kob k1121 := Dj.app (Dj.z) ob.le hk1121
    have df81 := DF.app (DF.z) (bf_rd114.mono hm0.size) hk1121
    have df82 := DF.app (DF.z) (bf_rd117.mono hm0.size) hk1121
    have df83 := DF.app (DF.z) (bf_rd120.mono hm0.size) hk1121
    have nx84 : Nx 0 H0.size k1121 := Nx.tr (Nx.refl 0 _) hk1121 hm0.size
    have df85 := DF.app (DF.z) (bf_ha.mono hm0.size) hk2121
    have df86 := DF.app (DF.z) (bf_ho.mono hm0.size) hk2121
    have df87 := DF.app (DF.z) (bf_ht.mono hm0.size) hk2121
    have dj88 : Dj koa k2121 := Dj.app (Dj.z) oa.le hk2121
    have dj89 : Dj kob k2121 := Dj.app (Dj.z) ob.le hk2121
    have df90 := DF.app (DF.z) (bf_rd114.mono hm0.size) hk2121
    have df91 := DF.app (DF.z) (bf_rd117.mono hm0.size) hk2121
    have df92 := DF.app (DF.z) (bf_rd120.mono hm0.size) hk2121
    have nx93 : Nx 0 H0.size k2121 := Nx.tr (Nx.refl 0 _) hk2121 hm0.size
    have df94 := DF.app (DF.z) (bf_ha.mono hm0.size) hk3121
    have df95 := DF.app (DF.z) (bf_ho.mono hm0.size) hk3121
    have df96 := DF.app (DF.z) (bf_ht.mono hm0.size) hk3121
    have dj97 : Dj koa k3121 := Dj.app (Dj.z) oa.le hk3121
    have dj98 : Dj kob k3121 := Dj.app (Dj.z) ob.le hk3121
    have df99 := DF.app (DF.z) (bf_rd114.mono hm0.size) hk3121
    have df100 := DF.app (DF.z) (bf_rd117.mono hm0.size) hk3121
    have df101 := DF.app (DF.z) (bf_rd120.mono hm0.size) hk3121
    have nx102 : Nx 0 H0.size k3121 := Nx.tr (Nx.refl 0 _) hk3121 hm0.size
    replace ha := ha.nw hs121
    replace ho := ho.nw hs121
    replace ht := ht.nw hs121
    replace oa := oa.nw hs121
    replace ob := ob.nw hs121
    replace hc := hc.nw hs121
    replace rd114 := rd114.nw hs121
    replace rd117 := rd117.nw hs121
    replace rd120 := rd120.nw hs121
    replace hm0 := hm0.tr hs121
    have hz8 := hs121.size
    have hle_ob121 := ob121.le
    have hle_oo121 := oo121.le
    have hle_ot121 := ot121.le
    have hqt10 : Mo (fun c => H39.size ≤ c) _ _ := Mo.trans hq14 hs121 (fun _ _ e => e) (fun _ _ e => by first | exact e | exact e.elim)
    refine ⟨.inr hqt10, LH.narrow (SH2 := fun Hq => Mo (fun c => H39.size ≤ c) H121 Hq) (fun Hq hq => Mo.trans hqt10 hq (fun _ _ e => e) (fun _ _ e => e)) ?_⟩
    have hq14_10 : Mo (fun c => H39.size ≤ c) H121 H121 := Mo.refl _ _
    refine LH.one (i := 11) (by kernel_rfl) ?_
    -- call selvage/selvageref14.add
    refine LO.call rfl rfl Try.call46 rfl (Wd.u rfl) rfl rfl (radd_ct vo (chS a o t P Q a.length).1 H39.size _ (a.drop (chS a o t P Q a.length).2.1) (o.drop (chS a o t P Q a.length).2.2.1) (t.drop (chS a o t P Q a.length).2.2.2) _ _ _ _ _ _ w0 _ hc (by omega) (by have := hs121.size; omega) ob121 oo121 ot121 hk1121 hk2121 hk3121 d12121 d13121 d23121 (by omega) (by simp; omega) (by simp; omega) (by simp; omega)) (fun v122 H122 r122 => ?_)
    obtain ⟨v122, rfl, hc122, hs122⟩ := r122
    replace ha := ha.upA hs122 la10
    replace ho := ho.upA hs122 la11
    replace ht := ht.upA hs122 la12
    replace oa := oa.upA hs122 la13
    replace ob := ob.upA hs122 la14
    replace rd114 := rd114.upA hs122 la10
    replace rd117 := rd117.upA hs122 la11
    replace rd120 := rd120.upA hs122 la12
    replace hm0 := hm0.trA hs122 la15
    have hz9 := hs122.size
    have hqt11 : Mo (fun c => H39.size ≤ c) _ _ := Mo.trans hq14_10 hs122 (fun _ _ e => e) (fun _ _ e => by first | exact e | exact e.elim)
    refine ⟨.inr hqt11, LH.narrow (SH2 := fun Hq => Mo (fun c => H39.size ≤ c) H122 Hq) (fun Hq hq => Mo.trans hqt11 hq (fun _ _ e => e) (fun _ _ e => e)) ?_⟩
    have hq14_11 : Mo (fun c => H39.size ≤ c) H122 H122 := Mo.refl _ _
    refine LH.take 12 (by kernel_rfl) rfl (by kernel_rfl) (by kernel_rfl) (by kernel_rfl) (fun Hq hq => Y.assign rfl rfl) (Wd.u rfl) rfl rfl hq14_11 ?_
    refine LH.take 13 (by kernel_rfl) rfl (by kernel_rfl) (by kernel_rfl) (by kernel_rfl) (fun Hq hq => Y.assign rfl rfl) (Wd.u rfl) rfl rfl hq14_11 ?_
    refine LH.done (by kernel_rfl) ?_
    refine hK20 _ _ ?_
    refine CW.ret (hret .ret (.inr rfl) _ _ _ (res2 rfl rfl rfl) ?_)
    obtain ⟨l, hl, hr, hx⟩ := hc122.deep
    exact ⟨v122, l, rfl, by rw [hl, chunksL, chF, hP, hQ], hr.imp (fun b _ e => by have := hm0.size; omega), fun x e => (hx x e).imp (fun b _ e => by omega), hm0⟩

end Go.Proofs.Ytegfnfhdgbcjbaa.MerE
