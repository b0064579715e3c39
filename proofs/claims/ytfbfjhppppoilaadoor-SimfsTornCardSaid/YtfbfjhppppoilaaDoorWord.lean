/-
  Rules for words (numbers of fixed width, without sign), arrays, copies: no condition.
-/
import Derived.Test.YtfbfjhppppoilaaDoorExt
namespace Go.Proofs.YtfbfjhppppoilaaDoor.E
set_option linter.unusedVariables false
set_option linter.unusedSimpArgs false
set_option linter.unusedSectionVars false
section
variable {P : Program} {w0 : World} {n : Nat} {l : FL} {H : Heap} {o : Oper}

/-! arrays -/
theorem Pt.at {ad : Addr} {cs : List Value} {c : Value} (h : Pt H ad cs) (j : Nat) (hc : cs[j]? = some c) : Pt H ⟨ad.block, ad.off + j, none⟩ [c] :=
  ⟨rfl, fun i d hd => by
    match i, hd with
    | 0, hd => simp only [List.getElem?_cons_zero, Option.some.injEq] at hd; subst hd; exact h.cells j _ hc⟩
end
/-! copies -/
section
variable {P : Program} {w0 : World} {n : Nat} {l : FL} {H : Heap} {o : Oper}
end
/-! results in variables -/
section
variable {P : Program} {w0 : World} {H : Heap} {n : Nat} {l : FL}
end
end Go.Proofs.YtfbfjhppppoilaaDoor.E
