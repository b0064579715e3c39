/-
  How the arguments of a statement read, with what their reach says of their sizes: no condition.
-/
import Derived.Test.YtfbfjhppppoilaaDoorRead
import Derived.SizedLaws
namespace Go.Proofs.YtfbfjhppppoilaaDoor.E
set_option linter.unusedVariables false
set_option linter.unusedSimpArgs false
set_option linter.unusedSectionVars false
open Go.ChangeShapes Go.WideShapes Go.ChangeAt Go.RowKit Go.Deep
section
variable {H : Type} {enc : TypeId × Value → H} {P : Program} {W : World} {base : Nat} {sp : Nat → Bool} {held : Bool}
theorem mem_weightsAll {e : TypeId} {d : DataW H} : ∀ {ds : List (DataW H)}, d ∈ ds → ∀ n ∈ d.weights P e, n ∈ DataW.weightsAll P e ds
  | x :: ds, h, n, hn => by
    simp only [DataW.weightsAll, List.mem_append]
    rcases List.mem_cons.1 h with rfl | h
    · exact .inl hn
    · exact .inr (mem_weightsAll h n hn)
/-- what a datum weighs lies within the reach -/
def Wt (P : Program) (t : TypeId) (d : DataW H) : Prop := ∀ n ∈ d.weights P t, n ≤ reachBytes
theorem Wt.of {ts : List TypeId} {ds : List (DataW H)} {j : Nat} {t : TypeId} {d : DataW H} (h : (DataW.weightsEach P ts ds).all (· ≤ reachBytes) = true) (ht : ts[j]? = some t) (hd : ds[j]? = some d) : Wt P t d := fun n hn => by
  have := List.all_eq_true.1 h _ (DataW.weights_mem_each ht hd n hn)
  simpa using this
theorem Wt.slice {t e : TypeId} {els spr : List (DataW H)} (hu : P.underlying t = some (.slice e)) (h : Wt P t (.slice els spr)) : (els.length + spr.length) * P.bytesOf e ≤ reachBytes ∧ ∀ x ∈ els, Wt P e x :=
  ⟨h _ (by simp [DataW.weights, hu]), fun x hx n hn => h n (by simp only [DataW.weights, hu, List.mem_cons, List.mem_append]; exact .inr (.inl (mem_weightsAll hx n hn)))⟩
theorem Wt.each {t : TypeId} {fs : Array Field} {ds : List (DataW H)} {j : Nat} {f : TypeId} {d : DataW H} (hu : P.underlying t = some (.struct fs)) (h : Wt P t (.agg ds)) (hf : (fs.toList.map (·.type))[j]? = some f) (hd : ds[j]? = some d) : Wt P f d := fun n hn =>
  h n (by simp only [DataW.weights, hu]; exact DataW.weights_mem_each hf hd n hn)
end
end Go.Proofs.YtfbfjhppppoilaaDoor.E
