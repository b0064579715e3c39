/-
  No path is in two pairs; each Old is gone, each New come; each has its Score.
-/
import Derived.Test.YtclhnkmkejijjaaRenN
namespace Go.Proofs.Ytclhnkmkejijjaa.RenO
open Go.Proofs.Ytclhnkmkejijjaa.E Go.RowKit Go.Proofs.Ytclhnkmkejijjaa.RenA Go.Proofs.Ytclhnkmkejijjaa.RenB Go.Proofs.Ytclhnkmkejijjaa.RenC Go.Proofs.Ytclhnkmkejijjaa.RenD Go.Proofs.Ytclhnkmkejijjaa.RenE Go.Proofs.Ytclhnkmkejijjaa.RenF Go.Proofs.Ytclhnkmkejijjaa.RenG Go.Proofs.Ytclhnkmkejijjaa.RenH Go.Proofs.Ytclhnkmkejijjaa.RenI Go.Proofs.Ytclhnkmkejijjaa.RenL Go.Proofs.Ytclhnkmkejijjaa.RenM Go.Proofs.Ytclhnkmkejijjaa.RenN
set_option maxRecDepth 20000
set_option linter.unusedVariables false
set_option linter.unusedSimpArgs false
set_option linter.unusedSectionVars false

section
variable {P : Program} {w0 : World} {n : Nat} {l : FL} {H : Heap} {o : Oper}
theorem _root_.Go.Proofs.Ytclhnkmkejijjaa.E.Y.field {x : Operand} {s : TypeId} {k off : Nat} {vs : Array Value} {fs : Array Field} {fd : Field} {u : Value} (ho : o.op = .field s x k) (hu : ∀ w, (underlying s).run P w = .ok (.struct fs) w) (hk : fs[k]? = some fd) (hof : fd.offset = off)
    (ha : ∀ w, (isAgg fd.type).run P w = .ok false w) (hx : opv l x = some (.agg vs)) (hv : vs[off]? = some u) : Y P w0 n l H o u := by
  intro ac w hf hat
  simp [execOp, ho, hf.eval hx, Instr.field, hu, hk, hof, asAgg, part, ha, hv]
end
/-- what Good makes -/
def GoodL (l : List Fl) : Prop := Asc l ∧ l.length ≤ 40 ∧ ∀ x ∈ l, (1 ≤ x.k ∧ x.k ≤ 3) ∧ x.d.length ≤ 2000 ∧ x.p.length ≤ 1099511627776
theorem placeC_lt (p : List UInt8) : ∀ (l : List Fc), (∀ x ∈ l.take (placeC p l), Op.bytesLess x.1 p = true) ∧ ∀ h : placeC p l < l.length, Op.bytesLess l[placeC p l].1 p = false
  | [] => ⟨by simp, fun h => by simp at h⟩
  | y :: l => by
    obtain ⟨h1, h2⟩ := placeC_lt p l
    by_cases hy : Op.bytesLess y.1 p = true
    · have e : placeC p (y :: l) = placeC p l + 1 := by rw [placeC, if_pos hy]
      refine ⟨fun x hx => ?_, fun h => ?_⟩
      · rw [e, List.take_succ_cons] at hx
        rcases List.mem_cons.1 hx with rfl | hx
        · exact hy
        · exact h1 x hx
      · simp only [e, List.getElem_cons_succ]
        exact h2 (by rw [e] at h; simpa using h)
    · have e : placeC p (y :: l) = 0 := by rw [placeC, if_neg hy]
      refine ⟨fun x hx => by rw [e] at hx; simp at hx, fun h => ?_⟩
      simp only [e, List.getElem_cons_zero]
      simpa using hy
theorem goodC_props (P : Fc → Prop) : ∀ (l out : List Fc), (∀ x ∈ l, P (gf x)) → (out.Pairwise (fun x y => Op.bytesLess x.1 y.1 = true) ∧ ∀ x ∈ out, P x) → ((l.foldl goodStep out).Pairwise (fun x y => Op.bytesLess x.1 y.1 = true) ∧ ∀ x ∈ l.foldl goodStep out, P x)
  | [], out, _, h => h
  | x :: l, out, hl, h => by
    rw [List.foldl_cons]
    refine goodC_props P l _ (fun y hy => hl y (by simp [hy])) ?_
    unfold goodStep
    split
    · exact h
    · split
      · rename_i hf
        obtain ⟨h1, h2⟩ := placeC_lt x.1 out
        have hfit : ∀ y ∈ out, y.1 ≠ x.1 := fun y hy => by
          have := List.all_eq_true.1 hf y hy
          simp at this
          exact this.1.1
        have hge : ∀ y ∈ out.drop (placeC x.1 out), Op.bytesLess x.1 y.1 = true := by
          intro y hy
          have hk : placeC x.1 out < out.length := by
            rcases Nat.lt_or_ge (placeC x.1 out) out.length with h9 | h9
            · exact h9
            · rw [List.drop_of_length_le h9] at hy; cases hy
          have hm := h2 hk
          have hk1 : Op.bytesLess x.1 out[placeC x.1 out].1 = true := by
            cases h9 : Op.bytesLess x.1 out[placeC x.1 out].1 with
            | true => rfl
            | false => exact absurd (bl_total _ _ hm h9) (hfit _ (List.getElem_mem hk))
          have hp := h.1.sublist (List.drop_sublist (placeC x.1 out) out)
          rw [List.drop_eq_getElem_cons hk] at hy hp
          rcases List.mem_cons.1 hy with rfl | hy
          · exact hk1
          · exact bl_trans hk1 ((List.pairwise_cons.1 hp).1 y hy)
        refine ⟨?_, fun y hy => ?_⟩
        · rw [List.pairwise_append, List.pairwise_cons]
          refine ⟨h.1.sublist (List.take_sublist _ _), ⟨hge, h.1.sublist (List.drop_sublist _ _)⟩, fun a ha b hb => ?_⟩
          rcases List.mem_cons.1 hb with rfl | hb
          · exact h1 a ha
          · exact bl_trans (h1 a ha) (hge b hb)
        · rcases List.mem_append.1 hy with hy | hy
          · exact h.2 y (List.mem_of_mem_take hy)
          · rcases List.mem_cons.1 hy with rfl | hy
            · exact hl x (by simp)
            · exact h.2 y (List.mem_of_mem_drop hy)
      · exact h
theorem good_of {l gl : List Fl} (h : gl.map Fl.c = goodC (l.map Fl.c)) (hb : ∀ x ∈ l, x.p.length ≤ 1099511627776) : GoodL gl := by
  have hp := goodC_props (fun x => (1 ≤ x.2.1 ∧ x.2.1 ≤ 3) ∧ x.2.2.length ≤ 2000 ∧ x.1.length ≤ 1099511627776) ((l.map Fl.c).take 40) [] (fun x hx => by
    obtain ⟨y, hy, rfl⟩ := List.mem_map.1 (List.mem_of_mem_take hx)
    exact ⟨gk_rng _, by simp only [gf, List.length_take]; omega, hb y hy⟩) ⟨List.Pairwise.nil, fun x hx => by cases hx⟩
  have hl := goodC_len ((l.map Fl.c).take 40) []
  change (goodC (l.map Fl.c)).Pairwise _ ∧ _ at hp
  change (goodC (l.map Fl.c)).length ≤ _ at hl
  obtain ⟨hp1, hp2⟩ := hp
  change ∀ x ∈ goodC (l.map Fl.c), _ at hp2
  rw [← h] at hp1 hp2 hl
  refine ⟨?_, by simp at hl; omega, fun x hx => hp2 x.c (List.mem_map.2 ⟨x, hx, rfl⟩)⟩
  have := hp1
  rw [List.pairwise_map] at this
  exact this
structure Vxy (H : Heap) (bx by_ : Nat) (x y : Fl) : Prop where
  x : Var 35 H bx (fFl x)
  y : Var 35 H by_ (fFl y)
theorem Vxy.nw {H H' : Heap} {bx by_ : Nat} {x y : Fl} (h : Vxy H bx by_ x y) (s : Nw H H') : Vxy H' bx by_ x y := ⟨h.x.nw s, h.y.nw s⟩

end Go.Proofs.Ytclhnkmkejijjaa.RenO
