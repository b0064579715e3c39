/-
  Names: the document's check is the program's: the plain law.
-/
import Derived.Test.YtabopjdbgkhacaaDoorNamB
namespace Go.Proofs.YtabopjdbgkhacaaDoor.NamC
open Go.Proofs.YtabopjdbgkhacaaDoor.E Go.RowKit Go.Proofs.YtabopjdbgkhacaaDoor.NamA Go.Proofs.YtabopjdbgkhacaaDoor.NamB
set_option maxRecDepth 20000
set_option linter.unusedVariables false
set_option linter.unusedSimpArgs false
set_option linter.unusedSectionVars false

def fstP (s : List UInt8) (i : Nat) : Prop := i = 0 ∨ (s.getD (i - 1) 0).toNat = 47
def lstP (s : List UInt8) (i : Nat) : Prop := i + 1 = s.length ∨ (s.getD (i + 1) 0).toNat = 47
/-- the document's: nothing is wrong at this place -/
def okP (s : List UInt8) (i : Nat) : Prop := goodB (s.getD i 0) = true ∧ ¬ ((s.getD i 0).toNat = 47 ∧ (fstP s i ∨ i + 1 = s.length)) ∧ ¬ (fstP s i ∧ ((s.getD i 0).toNat = 46 ∨ (s.getD i 0).toNat = 45)) ∧ ¬ (lstP s i ∧ (s.getD i 0).toNat = 46) ∧ ¬ ((s.getD i 0).toNat = 46 ∧ 0 < i ∧ (s.getD (i - 1) 0).toNat = 46)
/-- byte by byte; p: the byte ahead -/
def scan (p : Nat) : List UInt8 → Prop
  | [] => p ≠ 47 ∧ p ≠ 46
  | c :: l => goodB c = true ∧ (c.toNat = 47 → p ≠ 47 ∧ p ≠ 46) ∧ (p = 47 → c.toNat ≠ 46 ∧ c.toNat ≠ 45) ∧ ¬ (c.toNat = 46 ∧ p = 46) ∧ scan c.toNat l
def okQ (p : Nat) (c : UInt8) (l : List UInt8) : Prop := goodB c = true ∧ ¬ (c.toNat = 47 ∧ (p = 47 ∨ l.length = 0)) ∧ ¬ (p = 47 ∧ (c.toNat = 46 ∨ c.toNat = 45)) ∧ ¬ ((l.length = 0 ∨ (l.getD 0 0).toNat = 47) ∧ c.toNat = 46) ∧ ¬ (c.toNat = 46 ∧ p = 46)
def okS (p : Nat) : List UInt8 → Prop
  | [] => True
  | c :: l => okQ p c l ∧ okS c.toNat l
theorem scan_ok : ∀ (l : List UInt8) (p : Nat), scan p l ↔ okS p l ∧ (l.length = 0 → p ≠ 47 ∧ p ≠ 46) ∧ (l.length ≠ 0 → (l.getD 0 0).toNat = 47 → p ≠ 46)
  | [], p => by simp [scan, okS]
  | c :: l, p => by
    have ih := scan_ok l c.toNat
    simp only [scan, okS, okQ, List.length_cons, List.getD_cons_zero]
    rw [ih]
    constructor
    · rintro ⟨h1, h2, h3, h4, h5, h6, h7⟩
      refine ⟨⟨⟨h1, ?_, ?_, ?_, h4⟩, h5⟩, fun h => by omega, fun _ h => (h2 h).2⟩
      · rintro ⟨a, b | b⟩
        · exact (h2 a).1 b
        · exact (h6 b).1 a
      · rintro ⟨a, b | b⟩
        · exact (h3 a).1 b
        · exact (h3 a).2 b
      · rintro ⟨a | a, b⟩
        · exact (h6 a).2 b
        · by_cases h0 : l.length = 0
          · exact (h6 h0).2 b
          · exact h7 h0 a b
    · rintro ⟨⟨⟨h1, h2, h3, h4, h5⟩, h6⟩, _, h8⟩
      refine ⟨h1, fun a => ⟨fun b => h2 ⟨a, .inl b⟩, h8 (by omega) a⟩, fun a => ⟨fun b => h3 ⟨a, .inl b⟩, fun b => h3 ⟨a, .inr b⟩⟩, h5, h6, fun a => ⟨fun b => h2 ⟨b, .inr a⟩, fun b => h4 ⟨.inl a, b⟩⟩, fun _ a b => h4 ⟨.inr a, b⟩⟩
/-- the place i, the byte ahead of the first one being p -/
def okI (p : Nat) (s : List UInt8) (i : Nat) : Prop := okQ (if i = 0 then p else (s.getD (i - 1) 0).toNat) (s.getD i 0) (s.drop (i + 1))
theorem okS_iff : ∀ (s : List UInt8) (p : Nat), okS p s ↔ ∀ i, i < s.length → okI p s i
  | [], p => by simp [okS]
  | c :: l, p => by
    have ih := okS_iff l c.toNat
    rw [okS, ih]
    constructor
    · rintro ⟨h1, h2⟩ i hi
      cases i with
      | zero => simpa [okI] using h1
      | succ i =>
        have := h2 i (by simpa using hi)
        unfold okI at this ⊢
        cases i with
        | zero => simpa using this
        | succ i => simpa using this
    · intro h
      refine ⟨by simpa [okI] using h 0 (by simp), fun i hi => ?_⟩
      have := h (i + 1) (by simpa using hi)
      unfold okI at this ⊢
      cases i with
      | zero => simpa using this
      | succ i => simpa using this
theorem okI_ok {s : List UInt8} {i : Nat} (hi : i < s.length) : okI 47 s i ↔ okP s i := by
  have hl : (s.drop (i + 1)).length = 0 ↔ i + 1 = s.length := by rw [List.length_drop]; omega
  have hg : (s.drop (i + 1)).getD 0 0 = s.getD (i + 1) 0 := by simp [List.getD]
  unfold okI okP okQ fstP lstP
  rw [hl, hg]
  by_cases h0 : i = 0
  · rw [if_pos h0]
    simp only [h0, true_or, true_and, and_true]
    constructor
    · rintro ⟨h1, h2, h3, h4, _⟩; exact ⟨h1, h2, h3, h4, fun h => by omega⟩
    · rintro ⟨h1, h2, h3, h4, _⟩; exact ⟨h1, h2, h3, h4, fun h => by omega⟩
  · rw [if_neg h0]
    have hp : 0 < i := by omega
    simp only [h0, false_or, hp, true_and]
def lst (cur : List UInt8) : Nat := match cur.getLast? with | none => 47 | some c => c.toNat
theorem lst_snoc (cur : List UInt8) (c : UInt8) : lst (cur ++ [c]) = c.toNat := by simp [lst]
def dd : List UInt8 → Bool
  | [] => false
  | c :: l => (decide (c.toNat = 46) && (match l.head? with | none => false | some d => decide (d.toNat = 46))) || dd l
theorem n46 {c : UInt8} : (46 == c) = decide (c.toNat = 46) := by
  have : (46 = c) ↔ (c.toNat = 46) := ⟨fun h => by rw [← h]; rfl, fun h => by apply UInt8.toNat.inj; rw [h]; rfl⟩
  by_cases h : 46 = c
  · rw [decide_eq_true (this.1 h)]; simpa using h
  · rw [decide_eq_false (fun e => h (this.2 e))]; simpa using h
theorem dd_contains : ∀ l : List UInt8, Lib.contains l [46, 46] = dd l
  | [] => by decide
  | c :: l => by
    have ih := dd_contains l
    unfold Lib.contains at ih ⊢
    have hge := Lib.index_ge l [46, 46]
    have hp : ([46, 46] : List UInt8).isPrefixOf (c :: l) = (decide (c.toNat = 46) && (match l.head? with | none => false | some d => decide (d.toNat = 46))) := by
      cases l with
      | nil => rw [List.isPrefixOf, n46]; simp
      | cons d l => rw [List.isPrefixOf, List.isPrefixOf, n46, n46]; simp
    rw [Lib.index, hp, dd]
    cases h : (decide (c.toNat = 46) && (match l.head? with | none => false | some d => decide (d.toNat = 46))) with
    | true => simp
    | false =>
      rw [if_neg (by simp), Bool.false_or, ← ih]
      by_cases hm : Lib.index l [46, 46] = -1
      · rw [if_pos (by rw [hm]; rfl), hm]
      · rw [if_neg (by simpa using hm)]; exact decide_eq_decide.2 (by omega)
theorem dd_snoc : ∀ (l : List UInt8) (c : UInt8), dd (l ++ [c]) = (dd l || (decide (lst l = 46) && decide (c.toNat = 46)))
  | [], c => by simp [dd, lst]
  | [d], c => by
    have h1 : lst [d] = d.toNat := rfl
    have h2 : dd [d] = false := by simp [dd]
    have h3 : dd ([d] ++ [c]) = (decide (d.toNat = 46) && decide (c.toNat = 46) || dd [c]) := rfl
    have h4 : dd [c] = false := by simp [dd]
    rw [h1, h2, h3, h4, Bool.or_false, Bool.false_or]
  | d :: e :: l, c => by
    have ih := dd_snoc (e :: l) c
    have h1 : lst (d :: e :: l) = lst (e :: l) := by simp [lst]
    have h2 : dd (d :: e :: l) = (decide (d.toNat = 46) && decide (e.toNat = 46) || dd (e :: l)) := rfl
    have h3 : dd (d :: e :: l ++ [c]) = (decide (d.toNat = 46) && decide (e.toNat = 46) || dd (e :: l ++ [c])) := rfl
    rw [h1, h2, h3, ih, Bool.or_assoc]
def preP (cur : List UInt8) : Prop := (cur ≠ [] → (cur.getD 0 0).toNat ≠ 46 ∧ (cur.getD 0 0).toNat ≠ 45) ∧ dd cur = false
theorem lst_at {s : List UInt8} (h : s ≠ []) : lst s = (s.getD (s.length - 1) 0).toNat := by
  have : s.getLast? = some (s.getD (s.length - 1) 0) := by
    rw [List.getLast?_eq_getElem?, List.getD_eq_getElem?_getD]
    have := List.length_pos_iff.2 h
    rw [List.getElem?_eq_getElem (by omega)]; rfl
  unfold lst; rw [this]
theorem part_iff {cur : List UInt8} (h47 : ∀ c ∈ cur, c.toNat ≠ 47) : partB cur = true ↔ preP cur ∧ lst cur ≠ 47 ∧ lst cur ≠ 46 := by
  unfold partB preP
  rw [dd_contains, Bool.and_eq_true, decide_eq_true_eq]
  by_cases h0 : cur = []
  · subst h0; simp [lst]
  · rw [lst_at h0]
    have hm : cur.getD (cur.length - 1) 0 ∈ cur := by
      have := List.length_pos_iff.2 h0
      rw [getD_at (by omega)]; exact List.getElem_mem _
    have := h47 _ hm
    simp only [h0, ne_eq, not_false_eq_true, true_and, forall_const, Bool.not_eq_true']
    constructor
    · rintro ⟨⟨a, b, c⟩, d⟩; exact ⟨⟨⟨a, b⟩, d⟩, this, c⟩
    · rintro ⟨⟨⟨a, b⟩, d⟩, _, c⟩; exact ⟨⟨a, b, c⟩, d⟩
theorem pre_snoc {cur : List UInt8} {c : UInt8} (h47 : ∀ c ∈ cur, c.toNat ≠ 47) : preP (cur ++ [c]) ↔ preP cur ∧ (lst cur = 47 → c.toNat ≠ 46 ∧ c.toNat ≠ 45) ∧ ¬ (c.toNat = 46 ∧ lst cur = 46) := by
  unfold preP
  rw [dd_snoc]
  cases cur with
  | nil => simp [dd, lst]
  | cons d l =>
    have hm : lst (d :: l) ≠ 47 := by
      rw [lst_at (by simp)]
      refine h47 _ ?_
      rw [getD_at (by simp)]; exact List.getElem_mem _
    simp only [List.cons_append, ne_eq, reduceCtorEq, not_false_eq_true, List.getD_cons_zero, forall_const, Bool.or_eq_false_iff, Bool.and_eq_false_iff, decide_eq_false_iff_not, hm, false_implies, true_and]
    constructor
    · rintro ⟨a, b, c⟩; exact ⟨⟨a, b⟩, fun h => by rcases c with c | c; exact c h.2; exact c h.1⟩
    · rintro ⟨⟨a, b⟩, c⟩
      refine ⟨a, b, ?_⟩
      by_cases h : lst (d :: l) = 46
      · exact .inr (fun e => c ⟨e, h⟩)
      · exact .inl h
theorem n47 {c : UInt8} : c = 47 ↔ c.toNat = 47 := ⟨fun h => by rw [h]; rfl, fun h => by apply UInt8.toNat.inj; rw [h]; rfl⟩
theorem g47 : goodB 47 = true := by decide
/-- the pieces are parts, and the bytes good: byte by byte -/
theorem sp_scan : ∀ (s cur : List UInt8), (∀ c ∈ cur, c.toNat ≠ 47) → (((∀ p ∈ sp cur s, partB p = true) ∧ (∀ c ∈ s, goodB c = true)) ↔ (preP cur ∧ scan (lst cur) s))
  | [], cur, h => by
    simp only [sp, List.mem_singleton, forall_eq, List.not_mem_nil, false_implies, implies_true, and_true, scan]
    exact part_iff h
  | c :: l, cur, h => by
    by_cases hc : c = 47
    · subst hc
      have ih := sp_scan l [] (fun c h => by cases h)
      have e0 : lst [] = 47 := rfl
      have p0 : preP [] := ⟨fun h => absurd rfl h, rfl⟩
      rw [e0] at ih
      have t47 : (47 : UInt8).toNat = 47 := rfl
      simp only [sp, if_true, List.mem_cons, forall_eq_or_imp, scan, g47, t47, true_and, ne_eq, forall_const]
      have := part_iff h
      constructor
      · rintro ⟨⟨a, b⟩, d⟩
        obtain ⟨q1, q2, q3⟩ := this.1 a
        exact ⟨q1, ⟨q2, q3⟩, fun _ => ⟨by decide, by decide⟩, fun e => by omega, (ih.1 ⟨b, d⟩).2⟩
      · rintro ⟨a, ⟨b, d⟩, _, _, e⟩
        obtain ⟨q1, q2⟩ := ih.2 ⟨p0, e⟩
        exact ⟨⟨this.2 ⟨a, b, d⟩, q1⟩, q2⟩
    · have hn : c.toNat ≠ 47 := fun e => hc (n47.2 e)
      have h2 : ∀ d ∈ cur ++ [c], d.toNat ≠ 47 := by
        intro d hd
        rcases List.mem_append.1 hd with hd | hd
        · exact h d hd
        · rw [List.mem_singleton] at hd; rw [hd]; exact hn
      have ih := sp_scan l (cur ++ [c]) h2
      rw [lst_snoc, pre_snoc h] at ih
      simp only [sp, if_neg hc, List.mem_cons, forall_eq_or_imp, scan]
      constructor
      · rintro ⟨a, b, d⟩
        obtain ⟨⟨q1, q2, q3⟩, q4⟩ := ih.1 ⟨a, d⟩
        exact ⟨q1, b, fun e => absurd e hn, q2, q3, q4⟩
      · rintro ⟨a, b, _, q2, q3, q4⟩
        obtain ⟨r1, r2⟩ := ih.2 ⟨⟨a, q2, q3⟩, q4⟩
        exact ⟨r1, b, r2⟩
theorem chk_iff (s : List UInt8) : chk s = 0 ↔ s.length ≤ 60 ∧ scan 47 s := by
  have h := sp_scan s [] (fun c h => by cases h)
  have p0 : preP [] := ⟨fun h => absurd rfl h, rfl⟩
  rw [show lst [] = 47 from rfl] at h
  unfold chk
  constructor
  · intro h0
    split at h0
    · cases h0
    · rename_i h1
      split at h0
      · cases h0
      · rename_i h2
        refine ⟨by omega, (h.1 ⟨fun p hp => ?_, fun c hc => ?_⟩).2⟩
        · simp only [List.any_eq_true, not_exists, not_and, Bool.not_eq_true', Bool.not_eq_false] at h2
          exact h2 p hp
        · have h3 : ¬ (s.any (fun c => !goodB c)) = true := fun e => h1 (.inr e)
          simp only [List.any_eq_true, not_exists, not_and, Bool.not_eq_true', Bool.not_eq_false] at h3
          exact h3 c hc
  · rintro ⟨h1, h2⟩
    obtain ⟨h3, h4⟩ := h.2 ⟨p0, h2⟩
    rw [if_neg, if_neg]
    · intro e
      obtain ⟨p, hp, e⟩ := List.any_eq_true.1 e
      rw [h3 p hp] at e; cases e
    · rintro (e | e)
      · omega
      · obtain ⟨c, hc, e⟩ := List.any_eq_true.1 e
        rw [h4 c hc] at e; cases e
theorem chk_or (s : List UInt8) : chk s = 0 ∨ chk s = 7 := by
  unfold chk
  split
  · exact .inr rfl
  · split
    · exact .inr rfl
    · exact .inl rfl
theorem rchk_good {s : List UInt8} (h1 : ¬ s.length < 1) (h2 : ¬ s.length > 60) (h : ∀ i, i < s.length → okP s i) : chk s = 0 := by
  refine (chk_iff s).2 ⟨by omega, (scan_ok s 47).2 ⟨(okS_iff s 47).2 (fun i hi => (okI_ok hi).2 (h i hi)), fun e => by omega, fun _ _ => by decide⟩⟩
theorem rchk_bad {s : List UInt8} {i : Nat} (hi : i < s.length) (h : ¬ okP s i) : chk s = 7 := by
  rcases chk_or s with h0 | h0
  · obtain ⟨_, h2⟩ := (chk_iff s).1 h0
    exact absurd ((okI_ok hi).1 ((okS_iff s 47).1 ((scan_ok s 47).1 h2).1 i hi)) h
  · exact h0
theorem chk_nil {s : List UInt8} (h : s.length < 1) : chk s = 7 := by
  have : s = [] := List.length_eq_zero_iff.1 (by omega)
  subst this; decide +kernel
theorem chk_long {s : List UInt8} (h : s.length > 60) : chk s = 7 := by unfold chk; rw [if_pos (.inl h)]
theorem okP_of {s : List UInt8} {i : Nat} {fb lb b1 b2 b3 b4 : Bool} (hg : goodB (s.getD i 0) = true) (hfb : fb = true ↔ fstP s i) (hlb : lb = true ↔ lstP s i) (hb1 : b1 = true ↔ ((s.getD i 0).toNat = 47 ∧ (fb = true ∨ i + 1 = s.length))) (hb2 : b2 = true ↔ (fb = true ∧ ((s.getD i 0).toNat = 46 ∨ (s.getD i 0).toNat = 45)))
    (hb3 : b3 = true ↔ (lb = true ∧ (s.getD i 0).toNat = 46)) (hb4 : b4 = true ↔ ((s.getD i 0).toNat = 46 ∧ 0 < i ∧ (s.getD (i - 1) 0).toNat = 46)) (c1 : b1 = false) (c2 : b2 = false) (c3 : b3 = false) (c4 : b4 = false) : okP s i := by
  subst c1 c2 c3 c4
  simp only [Bool.false_eq_true, false_iff] at hb1 hb2 hb3 hb4
  rw [hfb] at hb1 hb2
  rw [hlb] at hb3
  exact ⟨hg, hb1, hb2, hb3, hb4⟩

end Go.Proofs.YtabopjdbgkhacaaDoor.NamC
