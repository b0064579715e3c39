/-
  Chunks compared; texts merged.
-/
import Derived.Test.YtegfnfhdgbcjbaaMerF
import Derived.Test.YtegfnfhdgbcjbaaClo
namespace Go.Proofs.Ytegfnfhdgbcjbaa.MerG
open Go.Proofs.Ytegfnfhdgbcjbaa.E Go.RowKit Go.Proofs.Ytegfnfhdgbcjbaa.LinM Go.Proofs.Ytegfnfhdgbcjbaa.LinA Go.Proofs.Ytegfnfhdgbcjbaa.LinC Go.Proofs.Ytegfnfhdgbcjbaa.LinF Go.Proofs.Ytegfnfhdgbcjbaa.LinL Go.Proofs.Ytegfnfhdgbcjbaa.LinN Go.Proofs.Ytegfnfhdgbcjbaa.MerA Go.Proofs.Ytegfnfhdgbcjbaa.MerB Go.Proofs.Ytegfnfhdgbcjbaa.MerC Go.Proofs.Ytegfnfhdgbcjbaa.MerD Go.Proofs.Ytegfnfhdgbcjbaa.MerE Go.Proofs.Ytegfnfhdgbcjbaa.MerF
set_option linter.unusedVariables false
set_option linter.unusedSimpArgs false
set_option linter.unusedSectionVars false

theorem getc {l1 l2 : List Ck} (e : l1.map Ck.c = l2.map Ck.c) (i : Nat) (h1 : i < l1.length) (h2 : i < l2.length) : l1[i].k = l2[i].k ∧ l1[i].b = l2[i].b ∧ l1[i].o = l2[i].o ∧ l1[i].t = l2[i].t := by
  have h : (l1.map Ck.c)[i]'(by simpa using h1) = (l2.map Ck.c)[i]'(by simpa using h2) := by simp only [e]
  simp only [List.getElem_map, Ck.c, Prod.mk.injEq] at h
  exact h
theorem few3 (v : Value) (l : List (List UInt8)) (w0 : World) (H0 : Heap) (hv : RdT H0 fS 1 v l) (hs : ∀ s ∈ l, s.length ≤ 1048576) (hl : l.length ≤ 1048576) : Ct Try.prog w0 10 #[v] H0 (fun r H2 => r = .bool (decide (Few l)) ∧ Nw H0 H2) :=
  (few_ct v l w0 H0 hv hs hl).mono (fun r H2 ⟨h1, h2⟩ => ⟨h1, h2 ▸ Nw.refl _⟩)
theorem Few.flat {l : List (List UInt8)} (h : Few l) : l.length < 120 ∧ l.flatten.length ≤ 2400 := by
  have h0 := h.len
  refine ⟨h0, ?_⟩
  unfold Few few at h
  rw [List.take_of_length_le (by omega)] at h
  have : ∀ l : List (List UInt8), l.flatten.length ≤ 20 * (l.map (fun s => s.length / 20)).sum + 20 * l.length := by
    intro l
    induction l with
    | nil => simp
    | cons x t ih => simp only [List.flatten_cons, List.length_append, List.map_cons, List.sum_cons, List.length_cons]; omega
  have := this l
  omega
theorem part_le {g : Cn → List (List UInt8)} : ∀ (cs : List Cn) (c : Cn), c ∈ cs → (g c).flatten.length ≤ ((cs.map g).flatten).flatten.length
  | x :: cs, c, h => by
    rw [List.map_cons, List.flatten_cons, List.flatten_append, List.length_append]
    rcases List.mem_cons.1 h with rfl | h
    · omega
    · have := part_le (g := g) cs c h; omega
theorem chunks_cat (a o t : List (List UInt8)) : ((chunksL a o t).map (fun c => c.2.1)).flatten = a ∧ ((chunksL a o t).map (fun c => c.2.2.1)).flatten = o ∧ ((chunksL a o t).map (fun c => c.2.2.2)).flatten = t := by
  have u := chS_ups (parts_al a o) (parts_al a t) a.length (Nat.le_refl _)
  obtain ⟨c1, c2, c3⟩ := u.cat
  rw [chunksL, chF, (addG_cat _ _ _ _).1, (addG_cat _ _ _ _).2.1, (addG_cat _ _ _ _).2.2, c1, c2, c3]
  exact ⟨List.take_append_drop _ _, List.take_append_drop _ _, List.take_append_drop _ _⟩
theorem chunks_bd {a o t : List (List UInt8)} (ha : a.flatten.length ≤ 1048576) (ho : o.flatten.length ≤ 1048576) (ht : t.flatten.length ≤ 1048576) : ∀ c ∈ chunksL a o t, BdC c := by
  obtain ⟨c1, c2, c3⟩ := chunks_cat a o t
  intro c hc
  have h1 := part_le (g := fun c => c.2.1) _ c hc
  have h2 := part_le (g := fun c => c.2.2.1) _ c hc
  have h3 := part_le (g := fun c => c.2.2.2) _ c hc
  rw [c1] at h1
  rw [c2] at h2
  rw [c3] at h3
  exact ⟨Nat.le_trans h1 ha, Nat.le_trans h2 ho, Nat.le_trans h3 ht⟩
theorem chunks_len (a o t : List (List UInt8)) : (chunksL a o t).length ≤ 2 * a.length + 1 := by
  have u := (chS_ups (parts_al a o) (parts_al a t) a.length (Nat.le_refl _)).n
  rw [chunksL, chF]
  have := addG_len (chS a o t (parts a o) (parts a t) a.length).1 (a.drop (chS a o t (parts a o) (parts a t) a.length).2.1) (o.drop (chS a o t (parts a o) (parts a t) a.length).2.2.1) (t.drop (chS a o t (parts a o) (parts a t) a.length).2.2.2)
  omega
/-- no clash -/
def cleanL (cs : List Cn) : Bool := cs.all (fun c => decide (c.1 ≠ 4))
def mchL (a o t : List UInt8) : List Cn := chunksL (splitL [] a) (splitL [] o) (splitL [] t)
theorem any_k {l : List Ck} : l.any (fun x => decide (x.k = 4)) = !cleanL (l.map Ck.c) := by
  simp only [cleanL, List.all_map, List.any_eq_not_all_not, Bool.not_not]
  congr 1
  apply List.all_congr rfl
  intro x
  simp
theorem any_take {α : Type} {l : List α} {p : α → Bool} {j : Nat} (h : (l.take j).any p = false) (hj : j < l.length) (hp : p l[j] = false) : (l.take (j + 1)).any p = false := by
  rw [List.take_succ_eq_append_getElem hj, List.any_append, h]
  simp [hp]
theorem any_at {α : Type} {l : List α} {p : α → Bool} {j : Nat} (hj : j < l.length) (hp : p l[j] = true) : l.any p = true := List.any_eq_true.2 ⟨l[j], List.getElem_mem hj, hp⟩

end Go.Proofs.Ytegfnfhdgbcjbaa.MerG
