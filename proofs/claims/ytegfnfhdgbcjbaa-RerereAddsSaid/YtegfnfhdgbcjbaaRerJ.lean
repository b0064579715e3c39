/-
  Memories added: the plain law.
-/
import Derived.Test.YtegfnfhdgbcjbaaRerI
namespace Go.Proofs.Ytegfnfhdgbcjbaa.RerJ
open Go.Proofs.Ytegfnfhdgbcjbaa.E Go.RowKit Go.Proofs.Ytegfnfhdgbcjbaa.LinM Go.Proofs.Ytegfnfhdgbcjbaa.LinC Go.Proofs.Ytegfnfhdgbcjbaa.LinL Go.Proofs.Ytegfnfhdgbcjbaa.LinN Go.Proofs.Ytegfnfhdgbcjbaa.MerA Go.Proofs.Ytegfnfhdgbcjbaa.MerB Go.Proofs.Ytegfnfhdgbcjbaa.MerC Go.Proofs.Ytegfnfhdgbcjbaa.MerD Go.Proofs.Ytegfnfhdgbcjbaa.MerE Go.Proofs.Ytegfnfhdgbcjbaa.MerF Go.Proofs.Ytegfnfhdgbcjbaa.MerH Go.Proofs.Ytegfnfhdgbcjbaa.MerL Go.Proofs.Ytegfnfhdgbcjbaa.MerM Go.Proofs.Ytegfnfhdgbcjbaa.MerN Go.Proofs.Ytegfnfhdgbcjbaa.SumA Go.Proofs.Ytegfnfhdgbcjbaa.SumB Go.Proofs.Ytegfnfhdgbcjbaa.SumC Go.Proofs.Ytegfnfhdgbcjbaa.SumD Go.Proofs.Ytegfnfhdgbcjbaa.SumE Go.Proofs.Ytegfnfhdgbcjbaa.SumF Go.Proofs.Ytegfnfhdgbcjbaa.SumG Go.Proofs.Ytegfnfhdgbcjbaa.SumK Go.Proofs.Ytegfnfhdgbcjbaa.SumL Go.Proofs.Ytegfnfhdgbcjbaa.SumM Go.Proofs.Ytegfnfhdgbcjbaa.DelA Go.Proofs.Ytegfnfhdgbcjbaa.RerA Go.Proofs.Ytegfnfhdgbcjbaa.RerB Go.Proofs.Ytegfnfhdgbcjbaa.RerF Go.Proofs.Ytegfnfhdgbcjbaa.RerG Go.Proofs.Ytegfnfhdgbcjbaa.RerH Go.Proofs.Ytegfnfhdgbcjbaa.RerI
set_option maxRecDepth 20000
set_option linter.unusedVariables false
set_option linter.unusedSimpArgs false
set_option linter.unusedSectionVars false

/-- one memory more, where its key stands, or would -/
def ins : List Mn → Mn → List Mn
  | [], x => [x]
  | y :: l, x => if y.1 = x.1 then x :: l else if Op.bytesLess x.1 y.1 = true then x :: y :: l else y :: ins l x
theorem ins_hit : ∀ {l : List Mn} {x : Mn}, (placeL l x.1).2 = true → l.set (placeL l x.1).1 x = ins l x
  | [], _, h => by simp [placeL] at h
  | y :: l, x, h => by
    rw [placeL] at h ⊢
    rw [ins]
    by_cases h1 : y.1 = x.1
    · rw [if_pos h1, if_pos h1]; rfl
    · rw [if_neg h1] at h ⊢
      rw [if_neg h1]
      by_cases h2 : Op.bytesLess x.1 y.1 = true
      · rw [if_pos h2] at h; cases h
      · rw [if_neg h2] at h ⊢
        rw [if_neg h2, ← ins_hit h]; rfl
theorem ins_miss : ∀ {l : List Mn} {x : Mn}, (placeL l x.1).2 = false → l.take (placeL l x.1).1 ++ x :: l.drop (placeL l x.1).1 = ins l x
  | [], _, _ => by simp [placeL, ins]
  | y :: l, x, h => by
    rw [placeL] at h ⊢
    rw [ins]
    by_cases h1 : y.1 = x.1
    · rw [if_pos h1] at h; cases h
    · rw [if_neg h1] at h ⊢
      rw [if_neg h1]
      by_cases h2 : Op.bytesLess x.1 y.1 = true
      · rw [if_pos h2, if_pos h2]; rfl
      · rw [if_neg h2] at h ⊢
        rw [if_neg h2, ← ins_miss h]; rfl
def adM1 (out : List Mn) (x : Mn) : List Mn := if x.1 = Z32 then out else ins out x
def adM (out m : List Mn) : List Mn := m.foldl adM1 out
theorem ins_find_same : ∀ (l : List Mn) (x : Mn), (∀ y ∈ l, Op.bytesLess x.1 y.1 = true → y.1 ≠ x.1) → rfindL (ins l x) x.1 = some x.2
  | [], x, _ => by simp [ins, rfindL]
  | y :: l, x, h => by
    rw [ins]
    by_cases h1 : y.1 = x.1
    · rw [if_pos h1]; simp [rfindL]
    · rw [if_neg h1]
      by_cases h2 : Op.bytesLess x.1 y.1 = true
      · rw [if_pos h2]; simp [rfindL]
      · rw [if_neg h2]
        have ih := ins_find_same l x (fun z hz => h z (List.mem_cons_of_mem _ hz))
        unfold rfindL at ih ⊢
        rw [List.find?_cons_of_neg (by simpa using h1)]; exact ih
theorem ins_find_other : ∀ (l : List Mn) (x : Mn) (k : List UInt8), k ≠ x.1 → rfindL (ins l x) k = rfindL l k
  | [], x, k, h => by
    have hx : ¬ x.1 = k := fun e => h e.symm
    simp [ins, rfindL, hx]
  | y :: l, x, k, h => by
    have hx : ¬ x.1 = k := fun e => h e.symm
    rw [ins]
    by_cases h1 : y.1 = x.1
    · rw [if_pos h1]
      unfold rfindL
      rw [List.find?_cons_of_neg (by simpa using hx), List.find?_cons_of_neg (by simpa [h1] using hx)]
    · rw [if_neg h1]
      by_cases h2 : Op.bytesLess x.1 y.1 = true
      · rw [if_pos h2]
        unfold rfindL
        rw [List.find?_cons_of_neg (by simpa using hx)]
      · rw [if_neg h2]
        have ih := ins_find_other l x k h
        unfold rfindL at ih ⊢
        by_cases hy : y.1 = k
        · rw [List.find?_cons_of_pos (by simpa using hy), List.find?_cons_of_pos (by simpa using hy)]
        · rw [List.find?_cons_of_neg (by simpa using hy), List.find?_cons_of_neg (by simpa using hy)]; exact ih
theorem ins_mem : ∀ {l : List Mn} {x z : Mn}, z ∈ ins l x → z = x ∨ z ∈ l
  | [], x, z, h => by simp [ins] at h; exact .inl h
  | y :: l, x, z, h => by
    rw [ins] at h
    split at h
    · rcases List.mem_cons.1 h with h | h
      · exact .inl h
      · exact .inr (List.mem_cons_of_mem _ h)
    · split at h
      · rcases List.mem_cons.1 h with h | h
        · exact .inl h
        · exact .inr h
      · rcases List.mem_cons.1 h with h | h
        · exact .inr (by rw [h]; exact List.mem_cons_self)
        · rcases ins_mem h with h | h
          · exact .inl h
          · exact .inr (List.mem_cons_of_mem _ h)
theorem bl_total : ∀ a b : List UInt8, Op.bytesLess a b = false → Op.bytesLess b a = false → a = b
  | [], [], _, _ => rfl
  | [], _ :: _, h, _ => by simp [Op.bytesLess] at h
  | _ :: _, [], _, h => by simp [Op.bytesLess] at h
  | x :: a, y :: b, h1, h2 => by
    simp only [Op.bytesLess] at h1 h2
    by_cases e1 : x < y
    · simp [e1] at h1
    · by_cases e2 : y < x
      · simp [e2] at h2
      · have : x = y := by apply UInt8.toNat.inj; rw [UInt8.lt_iff_toNat_lt] at e1 e2; omega
        subst this
        rw [bl_total a b (by simpa using h1) (by simpa using h2)]
/-- the keys rise -/
def Srt (l : List Mn) : Prop := l.Pairwise (fun a b => Op.bytesLess a.1 b.1 = true)
theorem bl_trans : ∀ {a b c : List UInt8}, Op.bytesLess a b = true → Op.bytesLess b c = true → Op.bytesLess a c = true
  | [], [], _, h, _ => by simp [Op.bytesLess] at h
  | _ :: _, [], _, h, _ => by simp [Op.bytesLess] at h
  | _, _ :: _, [], _, h => by simp [Op.bytesLess] at h
  | [], _ :: _, _ :: _, _, _ => by simp [Op.bytesLess]
  | x :: a, y :: b, z :: c, h1, h2 => by
    simp only [Op.bytesLess, Bool.or_eq_true, decide_eq_true_eq, Bool.and_eq_true, beq_iff_eq] at h1 h2 ⊢
    rcases h1 with h1 | ⟨rfl, h1⟩
    · rcases h2 with h2 | ⟨rfl, h2⟩
      · left; rw [UInt8.lt_iff_toNat_lt] at *; omega
      · exact .inl h1
    · rcases h2 with h2 | ⟨rfl, h2⟩
      · exact .inl h2
      · exact .inr ⟨rfl, bl_trans h1 h2⟩
theorem ins_srt : ∀ {l : List Mn} {x : Mn}, Srt l → Srt (ins l x)
  | [], x, _ => by simp [ins, Srt]
  | y :: l, x, h => by
    obtain ⟨h1, h2⟩ := List.pairwise_cons.1 h
    rw [ins]
    by_cases e1 : y.1 = x.1
    · rw [if_pos e1]
      exact List.pairwise_cons.2 ⟨fun z hz => by rw [← e1]; exact h1 z hz, h2⟩
    · rw [if_neg e1]
      by_cases e2 : Op.bytesLess x.1 y.1 = true
      · rw [if_pos e2]
        refine List.pairwise_cons.2 ⟨fun z hz => ?_, h⟩
        rcases List.mem_cons.1 hz with rfl | hz
        · exact e2
        · exact bl_trans e2 (h1 z hz)
      · rw [if_neg e2]
        refine List.pairwise_cons.2 ⟨fun z hz => ?_, ins_srt h2⟩
        rcases ins_mem hz with rfl | hz
        · cases h9 : Op.bytesLess y.1 z.1 with
          | true => rfl
          | false => exact absurd (bl_total _ _ h9 (by simpa using e2)) e1
        · exact h1 z hz
theorem bl_ne {a b : List UInt8} (h : Op.bytesLess a b = true) : b ≠ a := by
  intro e
  rw [e, bl_refl] at h
  cases h
theorem find_place : ∀ {l : List Mn} {k : List UInt8}, Srt l → (placeL l k).2 = (rfindL l k).isSome ∧ findL l k = (rfindL l k).getD []
  | [], k, _ => by simp [placeL, rfindL, findL]
  | y :: l, k, h => by
    obtain ⟨h1, h2⟩ := List.pairwise_cons.1 h
    have ih := find_place (k := k) h2
    by_cases e1 : y.1 = k
    · have e : rfindL (y :: l) k = some y.2 := by unfold rfindL; rw [List.find?_cons_of_pos (by simpa using e1)]; rfl
      rw [e, findL, placeL, if_pos e1]
      exact ⟨rfl, rfl⟩
    · have e : rfindL (y :: l) k = rfindL l k := by unfold rfindL; rw [List.find?_cons_of_neg (by simpa using e1)]
      by_cases e2 : Op.bytesLess k y.1 = true
      · have e3 : rfindL l k = none := find_no (fun z hz => bl_ne (bl_trans e2 (h1 z hz)))
        rw [e, e3, findL, placeL, if_neg e1, if_pos e2]
        exact ⟨rfl, rfl⟩
      · rw [e, ← ih.1, ← ih.2, findL, findL, placeL, if_neg e1, if_neg e2]
        exact ⟨rfl, by simp only [List.getD_cons_succ]⟩
theorem adM_srt : ∀ {m out : List Mn}, Srt out → Srt (adM out m)
  | [], _, h => h
  | x :: m, out, h => by
    show Srt (adM (adM1 out x) m)
    refine adM_srt ?_
    unfold adM1
    split
    · exact h
    · exact ins_srt h
theorem adM_other : ∀ {m out : List Mn} {k : List UInt8}, (∀ x ∈ m, x.1 ≠ k) → rfindL (adM out m) k = rfindL out k
  | [], _, _, _ => rfl
  | x :: m, out, k, h => by
    show rfindL (adM (adM1 out x) m) k = _
    rw [adM_other (fun z hz => h z (List.mem_cons_of_mem _ hz)), adM1]
    split
    · rfl
    · exact ins_find_other out x k (fun e => h x (List.mem_cons_self) e.symm)
/-- what was added last is found -/
theorem adM_last {a b out : List Mn} {x : Mn} (h0 : x.1 ≠ Z32) (h : ∀ z ∈ b, z.1 ≠ x.1) : rfindL (adM out (a ++ x :: b)) x.1 = some x.2 := by
  have e : adM out (a ++ x :: b) = adM (adM1 (adM out a) x) b := by simp [adM]
  rw [e, adM_other h, adM1, if_neg h0]
  exact ins_find_same _ x (fun y _ h => bl_ne h)

end Go.Proofs.Ytegfnfhdgbcjbaa.RerJ
