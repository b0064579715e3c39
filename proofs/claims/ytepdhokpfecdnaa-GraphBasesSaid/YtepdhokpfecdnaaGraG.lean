/-
  Towards the order of commits: what is counted, what is ready.
-/
import Derived.Test.YtepdhokpfecdnaaGraF
import Derived.Test.YtepdhokpfecdnaaFa
namespace Go.Proofs.Ytepdhokpfecdnaa.GraG
open Go.Proofs.Ytepdhokpfecdnaa.E Go.RowKit Go.Proofs.Ytepdhokpfecdnaa.GraA Go.Proofs.Ytepdhokpfecdnaa.GraB Go.Proofs.Ytepdhokpfecdnaa.GraC Go.Proofs.Ytepdhokpfecdnaa.GraD Go.Proofs.Ytepdhokpfecdnaa.GraE Go.Proofs.Ytepdhokpfecdnaa.GraF
set_option maxRecDepth 20000
set_option linter.unusedVariables false
set_option linter.unusedSimpArgs false
set_option linter.unusedSectionVars false

def vOf (mc : List (Ide × Value)) (p : Ide) : Value := (mget mc p).getD nilS
theorem vOf_put (mc : List (Ide × Value)) (p : Ide) (v : Value) : vOf (mput mc p v) = fun q => if q = p then v else vOf mc q := by
  funext q
  unfold vOf
  rw [mget_put]
  split <;> rfl
/-- how many of these are of K and not of D -/
def cntI (K D ps : List Ide) : Nat := (ps.filter (fun p => decide (p ∈ K ∧ p ∉ D))).length
theorem cntI_zero {K D ps : List Ide} : cntI K D ps = 0 ↔ ∀ p ∈ ps, p ∈ K → p ∈ D := by
  unfold cntI
  rw [List.length_eq_zero_iff, List.filter_eq_nil_iff]
  constructor
  · intro h p hp hk
    have := h p hp
    simp only [decide_eq_true_eq, not_and, Decidable.not_not] at this
    exact this hk
  · intro h p hp
    simp only [decide_eq_true_eq, not_and, Decidable.not_not]
    exact h p hp
theorem cntI_snoc (K D : List Ide) (ps : List Ide) (x : Ide) : cntI K D (ps ++ [x]) = cntI K D ps + if x ∈ K ∧ x ∉ D then 1 else 0 := by
  unfold cntI
  rw [List.filter_append, List.length_append]
  by_cases h : x ∈ K ∧ x ∉ D
  · rw [if_pos h, List.filter_cons_of_pos (by simpa using h)]; rfl
  · rw [if_neg h, List.filter_cons_of_neg (by simpa using h)]; rfl
theorem cntI_le (K D ps : List Ide) : cntI K D ps ≤ ps.length := List.length_filter_le _ _
theorem cntI_split {K D : List Ide} {i : Ide} (hi : i ∈ K) (hd : i ∉ D) : ∀ ps : List Ide, cntI K D ps = cntI K (D ++ [i]) ps + ps.count i
  | [] => rfl
  | p :: ps => by
    have ih := cntI_split hi hd ps
    unfold cntI at ih ⊢
    by_cases hp : p = i
    · subst hp
      rw [List.filter_cons_of_pos (by simp [hi, hd]), List.filter_cons_of_neg (by simp), List.count_cons_self, List.length_cons, ih]; omega
    · have e : (decide (p ∈ K ∧ p ∉ D ++ [i])) = decide (p ∈ K ∧ p ∉ D) := by
        apply decide_eq_decide.2
        simp [hp]
      rw [List.count_cons_of_ne (fun e => hp e)]
      by_cases h : p ∈ K ∧ p ∉ D
      · rw [List.filter_cons_of_pos (by simpa using h), List.filter_cons_of_pos (by rw [e]; simpa using h), List.length_cons, List.length_cons, ih]; omega
      · rw [List.filter_cons_of_neg (by simpa using h), List.filter_cons_of_neg (by rw [e]; simpa using h), ih]
structure P1 (pa : Ide → List Ide) (K dn : List Ide) (L : List (Ide × Int)) (rd : List Ide) (ch : Ide → List Ide) : Prop where
  nd : dn.Nodup
  sub : ∀ k ∈ dn, k ∈ K
  left : ∀ k, mget L k = if k ∈ dn then some ((cntI K [] (pa k) : Nat) : Int) else none
  chi : ∀ p k, (ch p).count k = if p ∈ K ∧ k ∈ dn then (pa k).count p else 0
  chl : ∀ p, (ch p).length ≤ dn.length * 1000
  rdn : rd.Nodup
  rdm : ∀ k, k ∈ rd ↔ k ∈ dn ∧ cntI K [] (pa k) = 0
structure P1b (pa : Ide → List Ide) (K dn : List Ide) (i : Ide) (q cn : Nat) (ch : Ide → List Ide) : Prop where
  cn_ : cn = cntI K [] ((pa i).take q)
  chi : ∀ p k, (ch p).count k = if p ∈ K then (if k ∈ dn then (pa k).count p else if k = i then ((pa i).take q).count p else 0) else 0
  chl : ∀ p, (ch p).length ≤ dn.length * 1000 + q
section
variable {pa : Ide → List Ide} {K dn rd : List Ide} {L : List (Ide × Int)} {ch : Ide → List Ide} {i : Ide} {q cn : Nat}
theorem P1.start (pa : Ide → List Ide) (K : List Ide) : P1 pa K [] [] [] (fun _ => []) := ⟨List.nodup_nil, by simp, fun k => by simp [mget], fun p k => by simp, fun p => by simp, List.nodup_nil, by simp⟩
theorem P1.len (h : P1 pa K dn L rd ch) : rd.length ≤ K.length := nodup_le h.rdn (fun k hk => h.sub k ((h.rdm k).1 hk).1)
theorem P1.dlen (h : P1 pa K dn L rd ch) : dn.length ≤ K.length := nodup_le h.nd h.sub
theorem P1b.start (h : P1 pa K dn L rd ch) (hi : i ∉ dn) : P1b pa K dn i 0 0 ch := by
  refine ⟨rfl, fun p k => ?_, fun p => h.chl p⟩
  rw [h.chi]
  by_cases hp : p ∈ K <;> by_cases hk : k ∈ dn <;> simp [hp, hk]
theorem P1b.yes (h : P1b pa K dn i q cn ch) (hi : i ∉ dn) (hq : q < (pa i).length) (hk : (pa i)[q] ∈ K) : P1b pa K dn i (q + 1) (cn + 1) (fun p => if p = (pa i)[q] then ch (pa i)[q] ++ [i] else ch p) := by
  have hts := List.take_succ_eq_append_getElem hq
  refine ⟨?_, fun p k => ?_, fun p => ?_⟩
  · rw [hts, cntI_snoc, if_pos ⟨hk, by simp⟩, h.cn_]
  · have h0 := h.chi p k
    by_cases hp : p = (pa i)[q]
    · subst hp
      rw [if_pos rfl, List.count_append, h0, hts, if_pos hk, if_pos hk]
      by_cases hkd : k ∈ dn
      · have : k ≠ i := fun e => hi (e ▸ hkd)
        rw [if_pos hkd, if_pos hkd, List.count_cons_of_ne (fun e => this e.symm)]; rfl
      · rw [if_neg hkd, if_neg hkd]
        by_cases hki : k = i
        · subst hki
          rw [if_pos rfl, if_pos rfl, List.count_append, List.count_cons_self, List.count_cons_self]; rfl
        · rw [if_neg hki, if_neg hki, List.count_cons_of_ne (fun e => hki e.symm)]; rfl
    · rw [if_neg hp, h0, hts, List.count_append, List.count_cons_of_ne (fun e => hp e.symm)]; rfl
  · have h0 := h.chl p
    have h1 := h.chl (pa i)[q]
    split
    · rw [List.length_append, List.length_singleton]; omega
    · omega
theorem P1b.no (h : P1b pa K dn i q cn ch) (hq : q < (pa i).length) (hk : (pa i)[q] ∉ K) : P1b pa K dn i (q + 1) cn ch := by
  have hts := List.take_succ_eq_append_getElem hq
  refine ⟨?_, fun p k => ?_, fun p => by have := h.chl p; omega⟩
  · rw [hts, cntI_snoc, if_neg (fun h => hk h.1), h.cn_]; rfl
  · rw [h.chi, hts, List.count_append]
    by_cases hp : p ∈ K
    · have : p ≠ (pa i)[q] := fun e => hk (e ▸ hp)
      rw [List.count_cons_of_ne (fun e => this e.symm)]; rfl
    · rw [if_neg hp, if_neg hp]
theorem P1.next (h : P1 pa K dn L rd ch) (hi : i ∉ dn) (hik : i ∈ K) {ch2 : Ide → List Ide} (h2 : P1b pa K dn i (pa i).length cn ch2) (hpl : (pa i).length ≤ 1000) {rd2 : List Ide} (hr : rd2 = if cn = 0 then rd ++ [i] else rd) : P1 pa K (dn ++ [i]) (mput L i (cn : Int)) rd2 ch2 := by
  have hcn : cn = cntI K [] (pa i) := by rw [h2.cn_, List.take_length]
  refine ⟨?_, fun k hk => ?_, fun k => ?_, fun p k => ?_, fun p => ?_, ?_, fun k => ?_⟩
  · rw [List.nodup_append]
    exact ⟨h.nd, by simp, fun a ha b hb e => by simp only [List.mem_singleton] at hb; subst hb; subst e; exact hi ha⟩
  · rcases List.mem_append.1 hk with hk | hk
    · exact h.sub k hk
    · simp only [List.mem_singleton] at hk; subst hk; exact hik
  · rw [mget_put, h.left]
    by_cases hk : k = i
    · subst hk; rw [if_pos rfl, if_pos (by simp), hcn]
    · rw [if_neg hk]
      have : k ∈ dn ++ [i] ↔ k ∈ dn := by simp [hk]
      by_cases hd : k ∈ dn
      · rw [if_pos hd, if_pos (this.2 hd)]
      · rw [if_neg hd, if_neg (fun q => hd (this.1 q))]
  · rw [h2.chi]
    by_cases hp : p ∈ K
    · rw [if_pos hp, List.take_length]
      by_cases hd : k ∈ dn
      · rw [if_pos hd, if_pos ⟨hp, List.mem_append_left _ hd⟩]
      · rw [if_neg hd]
        by_cases hk : k = i
        · subst hk; rw [if_pos rfl, if_pos ⟨hp, by simp⟩]
        · rw [if_neg hk, if_neg (fun q => by have := q.2; simp [hd, hk] at this)]
    · rw [if_neg hp, if_neg (fun q => hp q.1)]
  · have := h2.chl p
    rw [List.length_append, List.length_singleton, Nat.add_mul]; omega
  · subst hr
    split
    · rw [List.nodup_append]
      exact ⟨h.rdn, by simp, fun a ha b hb e => by simp only [List.mem_singleton] at hb; subst hb; subst e; exact hi ((h.rdm a).1 ha).1⟩
    · exact h.rdn
  · subst hr
    have h0 := h.rdm k
    by_cases hk : k = i
    · subst hk
      constructor
      · intro hm
        refine ⟨by simp, ?_⟩
        split at hm
        · rw [← hcn]; assumption
        · exact absurd (h0.1 hm).1 hi
      · rintro ⟨_, hz⟩
        rw [if_pos (by rw [hcn]; exact hz)]; simp
    · have e1 : k ∈ (if cn = 0 then rd ++ [i] else rd) ↔ k ∈ rd := by split <;> simp [hk]
      have e2 : k ∈ dn ++ [i] ↔ k ∈ dn := by simp [hk]
      rw [e1, e2]; exact h0
end
/-- done so far: each behind its parents, the lowest that is ready first -/
structure P2 (pa : Ide → List Ide) (K D : List Ide) : Prop where
  dnd : D.Nodup
  dsub : ∀ k ∈ D, k ∈ K
  par : ∀ j (h : j < D.length), ∀ p ∈ pa D[j], p ∈ K → p ∈ D.take j
  low : ∀ j (h : j < D.length), ∀ y ∈ K, y ∉ D.take j → (∀ p ∈ pa y, p ∈ K → p ∈ D.take j) → ¬ ltA y D[j]
structure P3 (pa : Ide → List Ide) (K D c : List Ide) (L : List (Ide × Int)) (rd : List Ide) : Prop where
  left : ∀ k ∈ K, mget L k = some ((cntI K D (pa k) + c.count k : Nat) : Int)
  ris : Ris rd
  rdm : ∀ k, k ∈ rd ↔ k ∈ K ∧ k ∉ D ∧ cntI K D (pa k) + c.count k = 0
section
variable {pa : Ide → List Ide} {K D c rd : List Ide} {L : List (Ide × Int)} {ch : Ide → List Ide} {i : Ide} {rk : Ide → Nat}
theorem P2.start : P2 pa K [] := ⟨List.nodup_nil, by simp, fun j h => by simp at h, fun j h => by simp at h⟩
theorem ris_of {l l2 : List Ide} (hn : l.Nodup) (hp : l2.Perm l) (hs : l2.Pairwise (fun x y => ¬ cA y x < 0)) : Ris l2 := by
  have hn2 : l2.Nodup := hp.nodup_iff.2 hn
  rw [List.nodup_iff_pairwise_ne] at hn2
  unfold Ris
  refine (hs.and hn2).imp ?_
  rintro a b ⟨h1, h2⟩
  by_cases h : ltA a b
  · exact h
  · exact absurd (ltA_tot h (fun q => h1 (cA_neg.2 q))) h2
theorem P3.start {dn rd2 : List Ide} (h : P1 pa K dn L rd ch) (hall : ∀ k ∈ K, k ∈ dn) (hp : rd2.Perm rd) (hs : rd2.Pairwise (fun x y => ¬ cA y x < 0)) : P3 pa K [] [] L rd2 := by
  refine ⟨fun k hk => ?_, ris_of h.rdn hp hs, fun k => ?_⟩
  · rw [h.left, if_pos (hall k hk)]; rfl
  · rw [hp.mem_iff, h.rdm]
    constructor
    · rintro ⟨h1, h2⟩; exact ⟨h.sub k h1, by simp, by simpa using h2⟩
    · rintro ⟨h1, _, h2⟩; exact ⟨hall k h1, by simpa using h2⟩
theorem P3.pop {r2 : List Ide} (h : P3 pa K D [] L (i :: r2)) (hc : ∀ k, c.count k = if k ∈ K then (pa k).count i else 0) : P3 pa K (D ++ [i]) c L r2 := by
  have hi := (h.rdm i).1 List.mem_cons_self
  have hr : Ris (i :: r2) := h.ris
  have hn := ris_nodup hr
  rw [List.nodup_cons] at hn
  have e : ∀ k ∈ K, cntI K D (pa k) + ([] : List Ide).count k = cntI K (D ++ [i]) (pa k) + c.count k := fun k hk => by
    rw [cntI_split hi.1 hi.2.1, hc, if_pos hk]; rfl
  refine ⟨fun k hk => by rw [h.left k hk, e k hk], by unfold Ris at hr ⊢; exact (List.pairwise_cons.1 hr).2, fun k => ?_⟩
  have h0 := h.rdm k
  constructor
  · intro hk
    have h1 := h0.1 (List.mem_cons_of_mem _ hk)
    refine ⟨h1.1, ?_, by rw [← e k h1.1]; exact h1.2.2⟩
    intro hd
    rcases List.mem_append.1 hd with hd | hd
    · exact h1.2.1 hd
    · simp only [List.mem_singleton] at hd; subst hd; exact hn.1 hk
  · rintro ⟨h1, h2, h3⟩
    have h4 := h0.2 ⟨h1, fun hd => h2 (List.mem_append_left _ hd), by rw [e k h1]; exact h3⟩
    rcases List.mem_cons.1 h4 with h4 | h4
    · subst h4; exact absurd (by simp) h2
    · exact h4
theorem P2.next {r2 : List Ide} (h : P2 pa K D) (h3 : P3 pa K D [] L (i :: r2)) : P2 pa K (D ++ [i]) := by
  have hi := (h3.rdm i).1 List.mem_cons_self
  have hcz : ∀ p ∈ pa i, p ∈ K → p ∈ D := cntI_zero.1 (by have := hi.2.2; omega)
  refine ⟨?_, fun k hk => ?_, fun j hj p hp hk => ?_, fun j hj y hy hyd hyp hl => ?_⟩
  · rw [List.nodup_append]
    exact ⟨h.dnd, by simp, fun a ha b hb e => by simp only [List.mem_singleton] at hb; subst hb; subst e; exact hi.2.1 ha⟩
  · rcases List.mem_append.1 hk with hk | hk
    · exact h.dsub k hk
    · simp only [List.mem_singleton] at hk; subst hk; exact hi.1
  · by_cases hjd : j < D.length
    · rw [List.getElem_append_left hjd] at hp
      rw [List.take_append_of_le_length (by omega)]
      exact h.par j hjd p hp hk
    · have hje : j = D.length := by simp at hj; omega
      subst hje
      rw [List.getElem_concat_length rfl] at hp
      rw [List.take_left' rfl]
      exact hcz p hp hk
  · by_cases hjd : j < D.length
    · rw [List.getElem_append_left hjd] at hl
      rw [List.take_append_of_le_length (by omega)] at hyd hyp
      exact h.low j hjd y hy hyd hyp hl
    · have hje : j = D.length := by simp at hj; omega
      subst hje
      rw [List.getElem_concat_length rfl] at hl
      rw [List.take_left' rfl] at hyd hyp
      have hyr : y ∈ i :: r2 := (h3.rdm y).2 ⟨hy, hyd, by rw [cntI_zero.2 hyp]; rfl⟩
      rcases List.mem_cons.1 hyr with e | e
      · subst e; exact ltA_irr _ hl
      · have hr : Ris (i :: r2) := h3.ris
        unfold Ris at hr
        exact ltA_asym hl ((List.pairwise_cons.1 hr).1 y e)
theorem kid_fresh {k : Ide} (h : P2 pa K D) (hi : i ∈ K) (hid : i ∉ D) (hac : ∀ k, ∀ p ∈ pa k, rk p < rk k) (hk : i ∈ pa k) : k ∉ D ++ [i] := by
  intro hd
  rcases List.mem_append.1 hd with hd | hd
  · obtain ⟨j, hj, rfl⟩ := List.getElem_of_mem hd
    exact hid (List.mem_of_mem_take (h.par j hj i hk hi))
  · simp only [List.mem_singleton] at hd; subst hd
    have := hac k k hk; omega
theorem P3.less {k : Ide} {c : List Ide} {n : Nat} (h : P3 pa K D (k :: c) L rd) (hk : k ∈ K) (hn : cntI K D (pa k) + c.count k = n) (hn0 : n ≠ 0) : P3 pa K D c (mput L k (n : Int)) rd := by
  have hc : ∀ y, y ≠ k → (k :: c).count y = c.count y := fun y hy => List.count_cons_of_ne (fun e => hy e.symm)
  refine ⟨fun y hy => ?_, h.ris, fun y => ?_⟩
  · rw [mget_put]
    by_cases e : y = k
    · subst e; rw [if_pos rfl, hn]
    · rw [if_neg e, h.left y hy, hc y e]
  · rw [h.rdm]
    by_cases e : y = k
    · subst e
      rw [List.count_cons_self]
      constructor
      · rintro ⟨_, _, h3⟩; omega
      · rintro ⟨_, _, h3⟩; omega
    · rw [hc y e]
theorem P3.zero {k : Ide} {c : List Ide} {at_ : Nat} (h : P3 pa K D (k :: c) L rd) (hk : k ∈ K) (hkd : k ∉ D) (hn : cntI K D (pa k) + c.count k = 0) (ha : at_ ≤ rd.length ∧ (∀ j (h : j < rd.length), j < at_ → ltA rd[j] k) ∧ (∀ j (h : j < rd.length), at_ ≤ j → ¬ ltA rd[j] k)) : P3 pa K D c (mput L k 0) (rd.take at_ ++ k :: rd.drop at_) := by
  have hc : ∀ y, y ≠ k → (k :: c).count y = c.count y := fun y hy => List.count_cons_of_ne (fun e => hy e.symm)
  have hkr : k ∉ rd := fun hm => by
    have := ((h.rdm k).1 hm).2.2
    rw [List.count_cons_self] at this; omega
  have hris := h.ris
  refine ⟨fun y hy => ?_, ?_, fun y => ?_⟩
  · rw [mget_put]
    by_cases e : y = k
    · subst e; rw [if_pos rfl, hn]; rfl
    · rw [if_neg e, h.left y hy, hc y e]
  · unfold Ris at hris ⊢
    rw [List.pairwise_append]
    refine ⟨hris.sublist (List.take_sublist _ _), ?_, ?_⟩
    · rw [List.pairwise_cons]
      refine ⟨fun y hy => ?_, hris.sublist (List.drop_sublist _ _)⟩
      obtain ⟨j, hj, rfl⟩ := List.getElem_of_mem hy
      rw [List.getElem_drop]
      rw [List.length_drop] at hj
      by_cases h1 : ltA k rd[at_ + j]
      · exact h1
      · exact absurd (ltA_tot h1 (ha.2.2 (at_ + j) (by omega) (by omega))) (fun e => hkr (e ▸ List.getElem_mem _))
    · intro a hm b hb
      have hak : ltA a k := by
        obtain ⟨j, hj, rfl⟩ := List.getElem_of_mem hm
        rw [List.getElem_take]
        rw [List.length_take] at hj
        exact ha.2.1 j (by omega) (by omega)
      rcases List.mem_cons.1 hb with e | e
      · subst e; exact hak
      · rw [← List.take_append_drop at_ rd, List.pairwise_append] at hris
        exact hris.2.2 a hm b e
  · have hm : y ∈ rd.take at_ ++ k :: rd.drop at_ ↔ y = k ∨ y ∈ rd := by
      conv => rhs; rw [← List.take_append_drop at_ rd]
      simp only [List.mem_append, List.mem_cons]
      constructor
      · rintro (h | h | h)
        · exact .inr (.inl h)
        · exact .inl h
        · exact .inr (.inr h)
      · rintro (h | h | h)
        · exact .inr (.inl h)
        · exact .inl h
        · exact .inr (.inr h)
    rw [hm]
    by_cases e : y = k
    · subst e
      exact ⟨fun _ => ⟨hk, hkd, hn⟩, fun _ => .inl rfl⟩
    · rw [← hc y e, ← h.rdm]
      exact ⟨fun q => q.resolve_left e, .inr⟩
/-- the order of commits -/
structure Topo (pa : Ide → List Ide) (K out : List Ide) : Prop extends P2 pa K out where
  all : ∀ k ∈ K, k ∈ out
theorem P2.done (h : P2 pa K D) (h3 : P3 pa K D [] L []) (hac : ∀ k, ∀ p ∈ pa k, rk p < rk k) : Topo pa K D := by
  refine ⟨h, ?_⟩
  have key : ∀ n k, rk k < n → k ∈ K → k ∈ D := by
    intro n
    induction n with
    | zero => intro k hk; omega
    | succ n ih =>
      intro k hk hkK
      by_cases hd : k ∈ D
      · exact hd
      · have hz := cntI_zero (K := K) (D := D) (ps := pa k)
        have : cntI K D (pa k) = 0 := hz.2 (fun p hp hpK => ih p (by have := hac k p hp; omega) hpK)
        have := (h3.rdm k).2 ⟨hkK, hd, by rw [this]; rfl⟩
        cases this
  exact fun k hk => key (rk k + 1) k (by omega) hk
end

end Go.Proofs.Ytepdhokpfecdnaa.GraG
