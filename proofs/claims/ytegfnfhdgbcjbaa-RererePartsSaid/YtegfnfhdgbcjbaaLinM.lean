/-
  Longest common subsequences and scripts, on lists alone: no condition.
-/
import Derived.Test.YtegfnfhdgbcjbaaMap
namespace Go.Proofs.Ytegfnfhdgbcjbaa.LinM
set_option linter.unusedVariables false
set_option linter.unusedSimpArgs false
set_option linter.unusedSectionVars false
open Go.Proofs.Ytegfnfhdgbcjbaa.E
section
variable {α : Type} [DecidableEq α]

def lcs : List α → List α → Nat
  | [], _ => 0
  | _ :: _, [] => 0
  | x :: xs, y :: ys => if x = y then lcs xs ys + 1 else max (lcs xs (y :: ys)) (lcs (x :: xs) ys)
termination_by a b => a.length + b.length

theorem lcs_nil (b : List α) : lcs ([] : List α) b = 0 := by rw [lcs]
theorem lcs_nil_right (a : List α) : lcs a ([] : List α) = 0 := by cases a <;> rw [lcs]
theorem lcs_cons (x y : α) (xs ys : List α) : lcs (x :: xs) (y :: ys) = if x = y then lcs xs ys + 1 else max (lcs xs (y :: ys)) (lcs (x :: xs) ys) := by rw [lcs]

theorem lcs_steps : ∀ (n : Nat) (xs ys : List α), xs.length + ys.length ≤ n →
    (∀ x, lcs xs ys ≤ lcs (x :: xs) ys ∧ lcs (x :: xs) ys ≤ lcs xs ys + 1) ∧ (∀ y, lcs xs ys ≤ lcs xs (y :: ys) ∧ lcs xs (y :: ys) ≤ lcs xs ys + 1) := by
  intro n
  induction n with
  | zero =>
    intro xs ys h
    have h1 : xs = [] := List.eq_nil_of_length_eq_zero (by omega)
    have h2 : ys = [] := List.eq_nil_of_length_eq_zero (by omega)
    subst h1; subst h2
    simp [lcs_nil, lcs_nil_right]
  | succ n ih =>
    intro xs ys h
    constructor
    · intro x
      cases ys with
      | nil => simp [lcs_nil_right]
      | cons y ys =>
        simp only [List.length_cons] at h
        have h1 := ih xs ys (by omega)
        have hB := h1.2 y
        have hA := h1.1 x
        rw [lcs_cons]
        split <;> omega
    · intro y
      cases xs with
      | nil => simp [lcs_nil]
      | cons x xs =>
        simp only [List.length_cons] at h
        have h1 := ih xs ys (by omega)
        have hB := h1.2 y
        have hA := h1.1 x
        rw [lcs_cons]
        split <;> omega
theorem lcs_left (x : α) (xs ys : List α) : lcs xs ys ≤ lcs (x :: xs) ys ∧ lcs (x :: xs) ys ≤ lcs xs ys + 1 := (lcs_steps _ xs ys (Nat.le_refl _)).1 x
theorem lcs_right (y : α) (xs ys : List α) : lcs xs ys ≤ lcs xs (y :: ys) ∧ lcs xs (y :: ys) ≤ lcs xs ys + 1 := (lcs_steps _ xs ys (Nat.le_refl _)).2 y
theorem lcs_same (x : α) (xs ys : List α) : lcs (x :: xs) (x :: ys) = lcs xs ys + 1 := by rw [lcs_cons, if_pos rfl]
theorem lcs_le : ∀ (xs ys : List α), lcs xs ys ≤ xs.length
  | [], ys => by simp [lcs_nil]
  | x :: xs, ys => by have := lcs_left x xs ys; have := lcs_le xs ys; simp only [List.length_cons]; omega
theorem lcs_le_right (xs : List α) : ∀ (ys : List α), lcs xs ys ≤ ys.length
  | [] => by simp [lcs_nil_right]
  | y :: ys => by have := lcs_right y xs ys; have := lcs_le_right xs ys; simp only [List.length_cons]; omega
theorem lcs_comm : ∀ (n : Nat) (xs ys : List α), xs.length + ys.length ≤ n → lcs xs ys = lcs ys xs := by
  intro n
  induction n with
  | zero =>
    intro xs ys h
    have h1 : xs = [] := List.eq_nil_of_length_eq_zero (by omega)
    have h2 : ys = [] := List.eq_nil_of_length_eq_zero (by omega)
    subst h1; subst h2; rfl
  | succ n ih =>
    intro xs ys h
    cases xs with
    | nil => rw [lcs_nil, lcs_nil_right]
    | cons x xs =>
      cases ys with
      | nil => rw [lcs_nil, lcs_nil_right]
      | cons y ys =>
        simp only [List.length_cons] at h
        rw [lcs_cons, lcs_cons, ih xs ys (by omega), ih xs (y :: ys) (by simp; omega), ih (x :: xs) ys (by simp; omega)]
        by_cases hxy : x = y
        · simp [hxy]
        · rw [if_neg hxy, if_neg (fun e => hxy e.symm)]; omega
theorem lcs_symm (xs ys : List α) : lcs xs ys = lcs ys xs := lcs_comm _ xs ys (Nat.le_refl _)
theorem lcs_self : ∀ (xs : List α), lcs xs xs = xs.length
  | [] => by rw [lcs_nil]; rfl
  | x :: xs => by rw [lcs_same, lcs_self xs]; rfl

/-- the steps of the first of the shortest scripts: 0 keeps, 1 deletes, 2 inserts -/
def W : List α → List α → List Int
  | [], [] => []
  | [], _ :: ys => 2 :: W [] ys
  | _ :: xs, [] => 1 :: W xs []
  | x :: xs, y :: ys => if x = y then 0 :: W xs ys else if lcs xs (y :: ys) = lcs (x :: xs) (y :: ys) then 1 :: W xs (y :: ys) else 2 :: W (x :: xs) ys
termination_by a b => a.length + b.length

theorem W_same (x : α) (xs ys : List α) : W (x :: xs) (x :: ys) = 0 :: W xs ys := by rw [W, if_pos rfl]
theorem W_del (x : α) (xs ys : List α) (hne : ∀ y ys', ys = y :: ys' → x ≠ y) (h : lcs xs ys = lcs (x :: xs) ys) : W (x :: xs) ys = 1 :: W xs ys := by
  cases ys with
  | nil => rw [W]
  | cons y ys => rw [W, if_neg (hne y ys rfl), if_pos h]
theorem W_ins (xs : List α) (y : α) (ys : List α) (h : ∀ x xs', xs = x :: xs' → x ≠ y ∧ lcs xs' (y :: ys) ≠ lcs xs (y :: ys)) : W xs (y :: ys) = 2 :: W xs ys := by
  cases xs with
  | nil => rw [W]
  | cons x xs => obtain ⟨h1, h2⟩ := h x xs rfl; rw [W, if_neg h1, if_neg h2]
theorem W_nil : W ([] : List α) [] = [] := by rw [W]
theorem W_mem : ∀ (n : Nat) (xs ys : List α), xs.length + ys.length ≤ n → (W xs ys).length ≤ n ∧ ∀ o ∈ W xs ys, o = 0 ∨ o = 1 ∨ o = 2 := by
  intro n
  induction n with
  | zero =>
    intro xs ys h
    have h1 : xs = [] := List.eq_nil_of_length_eq_zero (by omega)
    have h2 : ys = [] := List.eq_nil_of_length_eq_zero (by omega)
    subst h1; subst h2
    simp [W_nil]
  | succ n ih =>
    intro xs ys h
    cases xs with
    | nil =>
      cases ys with
      | nil => simp [W_nil]
      | cons y ys =>
        have := ih [] ys (by simp at h ⊢; omega)
        rw [W]
        simp only [List.length_cons, List.mem_cons]
        exact ⟨by omega, fun o ho => by rcases ho with rfl | ho; · simp
                                        · exact this.2 o ho⟩
    | cons x xs =>
      cases ys with
      | nil =>
        have := ih xs [] (by simp at h ⊢; omega)
        rw [W]
        simp only [List.length_cons, List.mem_cons]
        exact ⟨by omega, fun o ho => by rcases ho with rfl | ho; · simp
                                        · exact this.2 o ho⟩
      | cons y ys =>
        simp only [List.length_cons] at h
        rw [W]
        split
        · have := ih xs ys (by omega)
          simp only [List.length_cons, List.mem_cons]
          exact ⟨by omega, fun o ho => by rcases ho with rfl | ho; · simp
                                          · exact this.2 o ho⟩
        · split
          · have := ih xs (y :: ys) (by simp; omega)
            simp only [List.length_cons, List.mem_cons]
            exact ⟨by omega, fun o ho => by rcases ho with rfl | ho; · simp
                                            · exact this.2 o ho⟩
          · have := ih (x :: xs) ys (by simp; omega)
            simp only [List.length_cons, List.mem_cons]
            exact ⟨by omega, fun o ho => by rcases ho with rfl | ho; · simp
                                            · exact this.2 o ho⟩
end

/-- rows that are the same at the same places -/
def Sim {α β : Type} (a b : List α) (x y : List β) : Prop := a.length = x.length ∧ b.length = y.length ∧ ∀ (i j : Nat) (p q : α) (u v : β), a[i]? = some p → b[j]? = some q → x[i]? = some u → y[j]? = some v → (p = q ↔ u = v)
theorem Sim.tail_left {α β : Type} {p : α} {a b : List α} {u : β} {x y : List β} (h : Sim (p :: a) b (u :: x) y) : Sim a b x y :=
  ⟨by have := h.1; simpa using this, h.2.1, fun i j p' q' u' v' h1 h2 h3 h4 => h.2.2 (i + 1) j p' q' u' v' (by simpa using h1) h2 (by simpa using h3) h4⟩
theorem Sim.tail_right {α β : Type} {q : α} {a b : List α} {v : β} {x y : List β} (h : Sim a (q :: b) x (v :: y)) : Sim a b x y :=
  ⟨h.1, by have := h.2.1; simpa using this, fun i j p' q' u' v' h1 h2 h3 h4 => h.2.2 i (j + 1) p' q' u' v' h1 (by simpa using h2) h3 (by simpa using h4)⟩
theorem Sim.head {α β : Type} {p q : α} {a b : List α} {u v : β} {x y : List β} (h : Sim (p :: a) (q :: b) (u :: x) (v :: y)) : p = q ↔ u = v := h.2.2 0 0 p q u v rfl rfl rfl rfl
theorem Sim.lcs {α β : Type} [DecidableEq α] [DecidableEq β] : ∀ (n : Nat) (a b : List α) (x y : List β), a.length + b.length ≤ n → Sim a b x y → LinM.lcs a b = LinM.lcs x y := by
  intro n
  induction n with
  | zero =>
    intro a b x y h hs
    have h1 : a = [] := List.eq_nil_of_length_eq_zero (by omega)
    subst h1
    have : x = [] := List.eq_nil_of_length_eq_zero (by have := hs.1; simpa using this.symm)
    subst this
    simp [lcs_nil]
  | succ n ih =>
    intro a b x y h hs
    match a, x, hs with
    | [], [], _ => simp [lcs_nil]
    | [], _ :: _, hs => exact absurd hs.1 (by simp)
    | _ :: _, [], hs => exact absurd hs.1 (by simp)
    | p :: a, u :: x, hs =>
      match b, y, hs with
      | [], [], _ => simp [lcs_nil_right]
      | [], _ :: _, hs => exact absurd hs.2.1 (by simp)
      | _ :: _, [], hs => exact absurd hs.2.1 (by simp)
      | q :: b, v :: y, hs =>
        simp only [List.length_cons] at h
        rw [lcs_cons, lcs_cons, ih a b x y (by omega) hs.tail_left.tail_right, ih a (q :: b) x (v :: y) (by simp; omega) hs.tail_left, ih (p :: a) b (u :: x) y (by simp; omega) hs.tail_right]
        have := hs.head
        by_cases hpq : p = q
        · rw [if_pos hpq, if_pos (this.1 hpq)]
        · rw [if_neg hpq, if_neg (fun e => hpq (this.2 e))]
theorem Sim.W {α β : Type} [DecidableEq α] [DecidableEq β] : ∀ (n : Nat) (a b : List α) (x y : List β), a.length + b.length ≤ n → Sim a b x y → LinM.W a b = LinM.W x y := by
  intro n
  induction n with
  | zero =>
    intro a b x y h hs
    have h1 : a = [] := List.eq_nil_of_length_eq_zero (by omega)
    have h2 : b = [] := List.eq_nil_of_length_eq_zero (by omega)
    subst h1; subst h2
    have h3 : x = [] := List.eq_nil_of_length_eq_zero (by have := hs.1; simpa using this.symm)
    have h4 : y = [] := List.eq_nil_of_length_eq_zero (by have := hs.2.1; simpa using this.symm)
    subst h3; subst h4
    rw [W_nil, W_nil]
  | succ n ih =>
    intro a b x y h hs
    match a, x, hs with
    | [], _ :: _, hs => exact absurd hs.1 (by simp)
    | _ :: _, [], hs => exact absurd hs.1 (by simp)
    | [], [], hs =>
      match b, y, hs with
      | [], [], _ => rw [W_nil, W_nil]
      | [], _ :: _, hs => exact absurd hs.2.1 (by simp)
      | _ :: _, [], hs => exact absurd hs.2.1 (by simp)
      | q :: b, v :: y, hs => rw [LinM.W, LinM.W, ih [] b [] y (by simp at h ⊢; omega) hs.tail_right]
    | p :: a, u :: x, hs =>
      match b, y, hs with
      | [], _ :: _, hs => exact absurd hs.2.1 (by simp)
      | _ :: _, [], hs => exact absurd hs.2.1 (by simp)
      | [], [], hs => rw [LinM.W, LinM.W, ih a [] x [] (by simp at h ⊢; omega) hs.tail_left]
      | q :: b, v :: y, hs =>
        simp only [List.length_cons] at h
        rw [LinM.W, LinM.W, ih a b x y (by omega) hs.tail_left.tail_right, ih a (q :: b) x (v :: y) (by simp; omega) hs.tail_left, ih (p :: a) b (u :: x) y (by simp; omega) hs.tail_right,
          Sim.lcs _ _ _ _ _ (Nat.le_refl _) hs, Sim.lcs _ _ _ _ _ (Nat.le_refl _) hs.tail_left]
        have := hs.head
        by_cases hpq : p = q
        · rw [if_pos hpq, if_pos (this.1 hpq)]
        · rw [if_neg hpq, if_neg (fun e => hpq (this.2 e))]

/-! numbers for lines -/
def GoodM {κ : Type} (m : List (κ × Int)) : Prop := ∀ (i : Nat) (p : κ × Int), m[i]? = some p → p.2 = i
theorem mget_mem {κ β : Type} [DecidableEq κ] {k : κ} {b : β} : ∀ {m : List (κ × β)}, mget m k = some b → (k, b) ∈ m
  | [], h => by simp [mget] at h
  | (a, c) :: m, h => by
    simp only [mget] at h
    split at h
    · rename_i hb
      simp only [Option.some.injEq] at h
      subst hb; subst h
      simp
    · exact List.mem_cons_of_mem _ (mget_mem h)
theorem mget_inj {κ : Type} [DecidableEq κ] {m : List (κ × Int)} (hg : GoodM m) {s t : κ} {n : Int} (h1 : mget m s = some n) (h2 : mget m t = some n) : s = t := by
  obtain ⟨i, hi⟩ := List.mem_iff_getElem?.1 (mget_mem h1)
  obtain ⟨j, hj⟩ := List.mem_iff_getElem?.1 (mget_mem h2)
  have e1 := hg i _ hi
  have e2 := hg j _ hj
  simp only at e1 e2
  have : i = j := by omega
  subst this
  rw [hi] at hj
  simp only [Option.some.injEq, Prod.mk.injEq] at hj
  exact hj.1
theorem mget_snoc {κ β : Type} [DecidableEq κ] {k s : κ} {b : β} : ∀ {m : List (κ × β)}, mget (m ++ [(s, b)]) k = (mget m k).or (if k = s then some b else none)
  | [] => by by_cases h : k = s <;> simp [mget, h]
  | (a, c) :: m => by
    simp only [List.cons_append, mget]
    split
    · rfl
    · exact mget_snoc
theorem GoodM.snoc {κ : Type} {m : List (κ × Int)} (h : GoodM m) (s : κ) : GoodM (m ++ [(s, (m.length : Int))]) := by
  intro i p hp
  by_cases hi : i < m.length
  · rw [List.getElem?_append_left hi] at hp; exact h i p hp
  · rw [List.getElem?_append_right (by omega)] at hp
    have : i - m.length = 0 := by
      have := (List.getElem?_eq_some_iff.1 hp).1
      simp at this; omega
    rw [this] at hp
    simp only [List.getElem?_cons_zero, Option.some.injEq] at hp
    subst hp
    simp only
    omega

/-! scripts -/
def addE (es : List (Int × Int)) (op : Int) : List (Int × Int) := if 0 < es.length ∧ (es[es.length - 1]?.map (·.1)) = some op then es.set (es.length - 1) (op, ((es[es.length - 1]?.map (·.2)).getD 0) + 1) else es ++ [(op, 1)]
def runs (ops : List Int) : List (Int × Int) := ops.foldl addE []
def tot (es : List (Int × Int)) : Int := (es.map (·.2)).sum
theorem addE_eq (es : List (Int × Int)) (op : Int) (h : es.length - 1 < es.length) (he : (es[es.length - 1]'h).1 = op) : addE es op = es.set (es.length - 1) ((es[es.length - 1]'h).1, (es[es.length - 1]'h).2 + 1) := by
  unfold addE
  rw [if_pos ⟨by omega, by simp [h, he]⟩]
  simp [h, he]
theorem addE_ne (es : List (Int × Int)) (op : Int) (h : ∀ h : es.length - 1 < es.length, (es[es.length - 1]'h).1 ≠ op) : addE es op = es ++ [(op, 1)] := by
  unfold addE
  rw [if_neg]
  rintro ⟨h1, h2⟩
  have hlt : es.length - 1 < es.length := by omega
  simp [hlt] at h2
  exact h hlt h2
theorem addE_length (es : List (Int × Int)) (op : Int) : (addE es op).length ≤ es.length + 1 := by
  unfold addE; split <;> simp
theorem tot_set (es : List (Int × Int)) (i : Nat) (e f : Int × Int) (h : es[i]? = some f) : tot (es.set i e) = tot es - f.2 + e.2 := by
  induction es generalizing i with
  | nil => simp at h
  | cons x es ih =>
    cases i with
    | zero => simp only [List.getElem?_cons_zero, Option.some.injEq] at h; subst h; simp [tot]; omega
    | succ i => simp only [List.getElem?_cons_succ] at h; have := ih i h; simp only [tot, List.set_cons_succ, List.map_cons, List.sum_cons] at this ⊢; omega
theorem addE_tot (es : List (Int × Int)) (op : Int) : tot (addE es op) = tot es + 1 := by
  unfold addE
  split
  · rename_i h
    obtain ⟨h1, h2⟩ := h
    have hlt : es.length - 1 < es.length := by omega
    rw [tot_set es _ _ es[es.length - 1] (by simp [hlt])]
    simp [hlt]; omega
  · simp [tot]
theorem addE_pos (es : List (Int × Int)) (op : Int) (h : ∀ e ∈ es, 1 ≤ e.2) : ∀ e ∈ addE es op, 1 ≤ e.2 := by
  unfold addE
  split
  · rename_i hh
    intro e he
    rcases List.mem_or_eq_of_mem_set he with h' | rfl
    · exact h e h'
    · have hlt : es.length - 1 < es.length := by omega
      have := h es[es.length - 1] (List.getElem_mem hlt)
      simp [hlt]; omega
  · intro e he
    simp only [List.mem_append, List.mem_singleton] at he
    rcases he with he | rfl
    · exact h e he
    · simp
theorem runs_snoc (ops : List Int) (o : Int) : runs (ops ++ [o]) = addE (runs ops) o := by simp [runs]
theorem runs_tot (ops : List Int) : tot (runs ops) = ops.length := by
  have : ∀ (ops : List Int) (es : List (Int × Int)), tot (ops.foldl addE es) = tot es + ops.length := by
    intro ops
    induction ops with
    | nil => intro es; simp
    | cons o ops ih => intro es; rw [List.foldl_cons, ih, addE_tot]; simp; omega
  have := this ops []
  simpa [runs, tot] using this
theorem runs_pos (ops : List Int) : ∀ e ∈ runs ops, 1 ≤ e.2 := by
  have : ∀ (ops : List Int) (es : List (Int × Int)), (∀ e ∈ es, 1 ≤ e.2) → ∀ e ∈ ops.foldl addE es, 1 ≤ e.2 := by
    intro ops
    induction ops with
    | nil => intro es h; exact h
    | cons o ops ih => intro es h; rw [List.foldl_cons]; exact ih _ (addE_pos es o h)
  exact this ops [] (by simp)
theorem tot_pos (es : List (Int × Int)) (h : ∀ e ∈ es, 1 ≤ e.2) : (es.length : Int) ≤ tot es ∧ ∀ e ∈ es, e.2 ≤ tot es := by
  induction es with
  | nil => simp [tot]
  | cons x es ih =>
    have h1 := h x (by simp)
    have ⟨h2, h3⟩ := ih (fun e he => h e (by simp [he]))
    simp only [tot, List.map_cons, List.sum_cons, List.length_cons, List.mem_cons] at h2 h3 ⊢
    refine ⟨by omega, fun e he => ?_⟩
    rcases he with rfl | he
    · omega
    · have := h3 e he; omega
def script {α : Type} [DecidableEq α] (a b : List α) : List (Int × Int) := runs (W a b)
end Go.Proofs.Ytegfnfhdgbcjbaa.LinM
