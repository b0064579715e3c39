/-
  The pairs of some changes, as the program tells them.
-/
import Derived.Test.YtclhnkmkejijjaaRenD
import Derived.Test.YtclhnkmkejijjaaSrt
import Derived.Test.YtclhnkmkejijjaaSort
namespace Go.Proofs.Ytclhnkmkejijjaa.RenE
open Go.Proofs.Ytclhnkmkejijjaa.E Go.RowKit Go.Proofs.Ytclhnkmkejijjaa.RenA Go.Proofs.Ytclhnkmkejijjaa.RenB Go.Proofs.Ytclhnkmkejijjaa.RenC Go.Proofs.Ytclhnkmkejijjaa.RenD
set_option maxRecDepth 20000
set_option linter.unusedVariables false
set_option linter.unusedSimpArgs false
set_option linter.unusedSectionVars false

theorem bl_refl : ∀ a : List UInt8, Op.bytesLess a a = false
  | [] => rfl
  | x :: a => by simp [Op.bytesLess, bl_refl a]
theorem bl_total : ∀ a b : List UInt8, Op.bytesLess a b = false → Op.bytesLess b a = false → a = b
  | [], [], _, _ => rfl
  | [], _ :: _, h, _ => by simp [Op.bytesLess] at h
  | _ :: _, [], _, h => by simp [Op.bytesLess] at h
  | x :: a, y :: b, h1, h2 => by
    simp only [Op.bytesLess] at h1 h2
    by_cases e1 : x < y
    · simp [e1] at h1
    · by_cases e2 : y < x
      · simp [e2] at h2
      · have : x = y := by apply UInt8.toNat.inj; rw [UInt8.lt_iff_toNat_lt] at e1 e2; omega
        subst this
        rw [bl_total a b (by simpa using h1) (by simpa using h2)]
theorem bl_trans : ∀ {a b c : List UInt8}, Op.bytesLess a b = true → Op.bytesLess b c = true → Op.bytesLess a c = true
  | [], [], _, h, _ => by simp [Op.bytesLess] at h
  | _ :: _, [], _, h, _ => by simp [Op.bytesLess] at h
  | _, _ :: _, [], _, h => by simp [Op.bytesLess] at h
  | [], _ :: _, _ :: _, _, _ => by simp [Op.bytesLess]
  | x :: a, y :: b, z :: c, h1, h2 => by
    simp only [Op.bytesLess, Bool.or_eq_true, decide_eq_true_eq, Bool.and_eq_true, beq_iff_eq] at h1 h2 ⊢
    rcases h1 with h1 | ⟨rfl, h1⟩
    · rcases h2 with h2 | ⟨rfl, h2⟩
      · left; rw [UInt8.lt_iff_toNat_lt] at *; omega
      · exact .inl h1
    · rcases h2 with h2 | ⟨rfl, h2⟩
      · exact .inl h2
      · exact .inr ⟨rfl, bl_trans h1 h2⟩

open Go.Sort
/-- a comparison is an order -/
structure CO {α : Type} (c : α → α → Int) : Prop where
  sw : ∀ x y, c x y < 0 ↔ 0 < c y x
  tr : ∀ x y z, c x y ≤ 0 → c y z ≤ 0 → c x z ≤ 0
def lexC {α : Type} (c d : α → α → Int) (x y : α) : Int := if c x y ≠ 0 then c x y else d x y
section
variable {α β : Type} {c d : α → α → Int}
theorem CO.z (h : CO c) {x y : α} : c x y = 0 ↔ c y x = 0 := by have h1 := h.sw x y; have h2 := h.sw y x; omega
theorem CO.tr0 (h : CO c) {x y z : α} (h1 : c x y ≤ 0) (h2 : c y z ≤ 0) (h3 : c x z = 0) : c x y = 0 ∧ c y z = 0 := by
  have a1 := h.tr z x y (by have := h.z.1 h3; omega) h1
  have a2 := h.tr y z x h2 (by have := h.z.1 h3; omega)
  have b1 := h.sw z y; have b2 := h.sw y z; have b3 := h.sw x y; have b4 := h.sw y x
  omega
theorem CO.lex (h : CO c) (k : CO d) : CO (lexC c d) := by
  refine ⟨fun x y => ?_, fun x y z => ?_⟩
  · unfold lexC
    have h1 := h.sw x y; have h2 := h.sw y x; have h3 := k.sw x y
    by_cases e : c x y = 0
    · rw [if_neg (by omega), if_neg (by omega)]; exact h3
    · rw [if_pos e, if_pos (by omega)]; exact h1
  · unfold lexC
    intro h1 h2
    have hxy : c x y ≤ 0 := by split at h1 <;> omega
    have hyz : c y z ≤ 0 := by split at h2 <;> omega
    have hxz := h.tr x y z hxy hyz
    by_cases e3 : c x z = 0
    · obtain ⟨e1, e2⟩ := h.tr0 hxy hyz e3
      rw [if_neg (by omega)] at h1 h2 ⊢
      exact k.tr _ _ _ h1 h2
    · rw [if_pos e3]; exact hxz
theorem CO.on (h : CO c) (g : β → α) : CO (fun x y => c (g x) (g y)) := ⟨fun x y => h.sw _ _, fun x y z => h.tr _ _ _⟩
theorem CO.flip (h : CO c) : CO (fun x y => c y x) := ⟨fun x y => h.sw _ _, fun x y z h1 h2 => h.tr _ _ _ h2 h1⟩
theorem CO.swo (h : CO c) : Sort.SWO (ltOf c) := by
  refine ⟨fun x => ?_, fun x y z h1 h2 => ?_, fun x y z h1 h2 => ?_⟩
  · have := h.sw x x
    simp only [ltOf, decide_eq_false_iff_not]; omega
  · simp only [ltOf, decide_eq_true_eq] at *
    have a := h.tr x y z (by omega) (by omega)
    have b := h.tr0 (x := x) (y := y) (z := z) (by omega) (by omega)
    omega
  · simp only [ltOf, decide_eq_false_iff_not] at *
    have a := h.tr z y x; have b1 := h.sw x y; have b2 := h.sw y z; have b3 := h.sw x z
    have c1 := h.sw y x; have c2 := h.sw z y
    omega
end
theorem cmpI_co : CO cmpI := by
  refine ⟨fun x y => ?_, fun x y z => ?_⟩ <;> unfold cmpI <;> (repeat' split) <;> omega
theorem cmpI_z {a b : Int} : cmpI a b = 0 ↔ a = b := by unfold cmpI; (repeat' split) <;> omega
theorem cmpS_lt {a b : List UInt8} : cmpS a b < 0 ↔ Op.bytesLess a b = true := by
  unfold cmpS
  split
  · rename_i h; simp [h]
  · rename_i h
    split <;> simp [h]
theorem cmpS_gt {a b : List UInt8} : 0 < cmpS a b ↔ Op.bytesLess b a = true := by
  unfold cmpS
  by_cases h1 : Op.bytesLess a b = true
  · rw [if_pos h1]
    have : ¬ Op.bytesLess b a = true := fun h2 => by have := bl_trans h1 h2; rw [bl_refl] at this; cases this
    simp [this]
  · rw [if_neg h1]
    have h1' : Op.bytesLess a b = false := by simpa using h1
    by_cases h2 : a = b
    · subst h2; simp [bl_refl]
    · have h3 : Op.bytesLess b a = true := by
        cases h3 : Op.bytesLess b a with
        | true => rfl
        | false => exact absurd (bl_total _ _ h1' h3) h2
      simp [h1', h2, h3]
theorem cmpS_z {a b : List UInt8} : cmpS a b = 0 ↔ a = b := by
  constructor
  · intro h
    have h1 : Op.bytesLess a b = false := by
      cases h1 : Op.bytesLess a b with
      | false => rfl
      | true => have := cmpS_lt.2 h1; omega
    have h2 : Op.bytesLess b a = false := by
      cases h2 : Op.bytesLess b a with
      | false => rfl
      | true => have := cmpS_gt.2 h2; omega
    exact bl_total _ _ h1 h2
  · rintro rfl
    have h1 : ¬ cmpS a a < 0 := fun h => by have := cmpS_lt.1 h; rw [bl_refl] at this; cases this
    have h2 : ¬ 0 < cmpS a a := fun h => by have := cmpS_gt.1 h; rw [bl_refl] at this; cases this
    omega
theorem cmpS_co : CO cmpS := by
  refine ⟨fun x y => by rw [cmpS_lt, cmpS_gt], fun x y z h1 h2 => ?_⟩
  by_cases e1 : cmpS x y = 0
  · rw [cmpS_z.1 e1]; exact h2
  · by_cases e2 : cmpS y z = 0
    · rw [← cmpS_z.1 e2]; exact h1
    · have := cmpS_lt.2 (bl_trans (cmpS_lt.1 (show cmpS x y < 0 by omega)) (cmpS_lt.1 (show cmpS y z < 0 by omega)))
      omega
def lkC : Lk → Lk → Int := lexC (fun x y => cmpI y.p.s x.p.s) (lexC (fun x y => cmpI x.r y.r) (lexC (fun x y => cmpS x.p.o y.p.o) (fun x y => cmpS x.p.n y.p.n)))
theorem lkC_co : CO lkC := ((cmpI_co.flip).on (fun x : Lk => x.p.s)).lex ((cmpI_co.on (fun x : Lk => x.r)).lex ((cmpS_co.on (fun x : Lk => x.p.o)).lex (cmpS_co.on (fun x : Lk => x.p.n))))
theorem orL4 (a b c d : Int) : orL [a, b, c, d] = if a ≠ 0 then a else if b ≠ 0 then b else if c ≠ 0 then c else d := by
  simp only [orL]
  (repeat' split) <;> omega
theorem lkCmp_eq (a b : Lk) : lkCmp a b = lkC a b := by
  unfold lkCmp
  split
  · rename_i h
    subst h
    simp [lkC, lexC, cmpI_z.2, cmpS_z.2]
  · rw [orL4]; rfl
theorem lkC_z {a b : Lk} : lkC a b = 0 ↔ a = b := by
  constructor
  · intro h
    unfold lkC lexC at h
    obtain ⟨⟨o, n, s⟩, r⟩ := a
    obtain ⟨⟨o2, n2, s2⟩, r2⟩ := b
    simp only at h
    (repeat' split at h) <;> first | omega | skip
    rename_i h1 h2 h3
    have h1' : cmpI s2 s = 0 := by simpa using h1
    have h2' : cmpI r r2 = 0 := by simpa using h2
    have h3' : cmpS o o2 = 0 := by simpa using h3
    rw [cmpI_z.1 h1', cmpI_z.1 h2', cmpS_z.1 h3', cmpS_z.1 h]
  · rintro rfl
    simp [lkC, lexC, cmpI_z.2, cmpS_z.2]
/-- a change -/
structure Ch where
  o : Fl
  n : Fl
abbrev fCh (x : Ch) : List Value := [Str x.o.p, .int .i64 x.o.k, x.o.v.v, Str x.n.p, .int .i64 x.n.k, x.n.v.v]
theorem fCh_len (x : Ch) : (fCh x).length = 6 := rfl
theorem fCh_one (x : Ch) : ∀ u ∈ fCh x, u.oneCell' = true := by
  intro u hu; simp only [List.mem_cons, List.not_mem_nil, or_false] at hu; rcases hu with rfl | rfl | rfl | rfl | rfl | rfl <;> rfl
def goneL (cs : List Ch) : List Fl := cs.filterMap (fun c => if c.n.k = 0 ∧ cntF c.o.c = true then some c.o else none)
def comeL (cs : List Ch) : List Fl := cs.filterMap (fun c => if c.o.k = 0 ∧ cntF c.n.c = true then some c.n else none)
theorem goneL_step {cs : List Ch} {i : Nat} (hi : i < cs.length) : goneL (cs.take (i + 1)) = if cs[i].n.k = 0 ∧ cntF cs[i].o.c = true then goneL (cs.take i) ++ [cs[i].o] else goneL (cs.take i) := by
  unfold goneL
  rw [List.take_succ_eq_append_getElem hi, List.filterMap_append]
  split <;> rename_i h <;> simp [List.filterMap_cons, h]
theorem comeL_step {cs : List Ch} {i : Nat} (hi : i < cs.length) : comeL (cs.take (i + 1)) = if cs[i].o.k = 0 ∧ cntF cs[i].n.c = true then comeL (cs.take i) ++ [cs[i].n] else comeL (cs.take i) := by
  unfold comeL
  rw [List.take_succ_eq_append_getElem hi, List.filterMap_append]
  split <;> rename_i h <;> simp [List.filterMap_cons, h]
theorem goneL_mem {cs : List Ch} {x : Fl} (h : x ∈ goneL cs) : ∃ c ∈ cs, x = c.o ∧ c.n.k = 0 ∧ cntF c.o.c = true := by
  obtain ⟨c, hc, h1⟩ := List.mem_filterMap.1 h
  split at h1
  · rename_i h2; simp only [Option.some.injEq] at h1; exact ⟨c, hc, h1.symm, h2.1, h2.2⟩
  · cases h1
theorem comeL_mem {cs : List Ch} {x : Fl} (h : x ∈ comeL cs) : ∃ c ∈ cs, x = c.n ∧ c.o.k = 0 ∧ cntF c.n.c = true := by
  obtain ⟨c, hc, h1⟩ := List.mem_filterMap.1 h
  split at h1
  · rename_i h2; simp only [Option.some.injEq] at h1; exact ⟨c, hc, h1.symm, h2.1, h2.2⟩
  · cases h1
theorem goneL_len (cs : List Ch) : (goneL cs).length ≤ cs.length := List.length_filterMap_le _ _
theorem comeL_len (cs : List Ch) : (comeL cs).length ≤ cs.length := List.length_filterMap_le _ _
theorem cntF_k {x : Fl} (h : cntF x.c = true) : x.k ≠ 0 := by
  intro e
  simp [cntF, Fl.c, e] at h
/-- the pairs that may be, of one that is gone -/
def cand1 (f : Fl) (rest : List Fl) : List Lk := rest.filterMap (fun g => if 50 ≤ scoreB f.d g.d then some ⟨⟨f.p, g.p, scoreB f.d g.d⟩, nearL f.p g.p⟩ else none)
def candL (left rest : List Fl) : List Lk := left.flatMap (fun f => cand1 f rest)
def candG (left rest : List Fl) : List Lk := if left.length ≤ 100 ∧ rest.length ≤ 100 then candL left rest else []
theorem cand1_step {f : Fl} {rest : List Fl} {j : Nat} (hj : j < rest.length) : cand1 f (rest.take (j + 1)) = if 50 ≤ scoreB f.d rest[j].d then cand1 f (rest.take j) ++ [⟨⟨f.p, rest[j].p, scoreB f.d rest[j].d⟩, nearL f.p rest[j].p⟩] else cand1 f (rest.take j) := by
  unfold cand1
  rw [List.take_succ_eq_append_getElem hj, List.filterMap_append]
  split <;> rename_i h <;> simp [List.filterMap_cons, h]
theorem candL_step {left rest : List Fl} {i : Nat} (hi : i < left.length) : candL (left.take (i + 1)) rest = candL (left.take i) rest ++ cand1 left[i] rest := by
  unfold candL
  rw [List.take_succ_eq_append_getElem hi, List.flatMap_append]; simp
/-- each that still can is a pair -/
def grd : List (List UInt8) → List (List UInt8) → List Lk → List Pr
  | _, _, [] => []
  | F, T, x :: L => if ¬ x.p.o ∈ F ∧ ¬ x.p.n ∈ T then x.p :: grd (x.p.o :: F) (x.p.n :: T) L else grd F T L
theorem grd_yes {F T : List (List UInt8)} {L : List Lk} {i : Nat} (hi : i < L.length) (h1 : ¬ L[i].p.o ∈ F) (h2 : ¬ L[i].p.n ∈ T) : grd F T (L.drop i) = L[i].p :: grd (L[i].p.o :: F) (L[i].p.n :: T) (L.drop (i + 1)) := by
  rw [List.drop_eq_getElem_cons hi, grd, if_pos ⟨h1, h2⟩]
theorem grd_no {F T : List (List UInt8)} {L : List Lk} {i : Nat} (hi : i < L.length) (h : L[i].p.o ∈ F ∨ L[i].p.n ∈ T) : grd F T (L.drop i) = grd F T (L.drop (i + 1)) := by
  rw [List.drop_eq_getElem_cons hi, grd, if_neg]
  rintro ⟨h1, h2⟩
  rcases h with h | h
  · exact h1 h
  · exact h2 h
/-- what Detect tells -/
def DetP (cs : List Ch) (out : List Pr) : Prop :=
  ∃ L, L.Perm (candG (exL (goneL cs) (comeL cs)).2.1 (exL (goneL cs) (comeL cs)).2.2) ∧ L.Pairwise (fun x y => ¬ lkCmp y x < 0) ∧ out.Perm ((exL (goneL cs) (comeL cs)).1 ++ grd [] [] L) ∧ out.Pairwise (fun x y => ¬ cmpS y.o x.o < 0)


instance : Inhabited Pr := ⟨⟨[], [], 0⟩⟩
instance : Inhabited Lk := ⟨⟨default, 0⟩⟩
theorem lkCmp_co : CO lkCmp := by
  have : lkCmp = lkC := funext fun a => funext fun b => lkCmp_eq a b
  rw [this]; exact lkC_co
theorem sortLk_ct (k : Nat) (v : Value) (l : List Lk) (w0 : World) (H : Heap) (h : Ow k 61 H fLk 4 v l) (hl : l.length < 4611686018427387904) :
    Ct Try.prog w0 32 #[v, .func (.func 33) #[] #[]] H (fun r H2 => ∃ l2 k2, r = .tuple #[] ∧ Ow k2 61 H2 fLk 4 v l2 ∧ Nx k H.size k2 ∧ (l2.Perm l ∧ l2.Pairwise (fun x y => ¬ lkCmp y x < 0)) ∧ Mo (Ms [k]) H H2) := by
  have h0 := Ct.sortf (w0 := w0) Try.sort32 Try.isAgg61 Try.sizeOf61 lkCmp lkCmp_co.swo 33 (enters_of Try.func33 (by kernel_rfl) rfl) (fun w0 H0 x y => order_ct x y w0 H0) h hl
  exact h0.mono (fun r H2 ⟨l2, h1, h2, h3, h4, h5⟩ => ⟨l2, k, h1, h2, h3, h4, h5⟩)
theorem sortPr_ct (k : Nat) (v : Value) (l : List Pr) (w0 : World) (H : Heap) (h : Ow k 38 H fPr 3 v l) (hl : l.length < 4611686018427387904) :
    Ct Try.prog w0 34 #[v, .func (.func 35) #[] #[]] H (fun r H2 => ∃ l2 k2, r = .tuple #[] ∧ Ow k2 38 H2 fPr 3 v l2 ∧ Nx k H.size k2 ∧ (l2.Perm l ∧ l2.Pairwise (fun x y => ¬ cmpS y.o x.o < 0)) ∧ Mo (Ms [k]) H H2) := by
  have h0 := Ct.sortf (w0 := w0) Try.sort34 Try.isAgg38 Try.sizeOf38 (fun x y : Pr => cmpS x.o y.o) (cmpS_co.on (fun x : Pr => x.o)).swo 35 (enters_of Try.func35 (by kernel_rfl) rfl) (fun w0 H0 x y => dcmp_ct x y w0 H0) h hl
  exact h0.mono (fun r H2 ⟨l2, h1, h2, h3, h4, h5⟩ => ⟨l2, k, h1, h2, h3, h4, h5⟩)

end Go.Proofs.Ytclhnkmkejijjaa.RenE
