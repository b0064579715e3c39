/-
  Rules for words (numbers of fixed width, without sign), arrays, copies: no condition.
-/
import Derived.Test.YtclhnkmkejijjaaExt
namespace Go.Proofs.Ytclhnkmkejijjaa.E
set_option linter.unusedVariables false
set_option linter.unusedSimpArgs false
set_option linter.unusedSectionVars false
section
variable {P : Program} {w0 : World} {n : Nat} {l : FL} {H : Heap} {o : Oper}

/-! arrays -/
theorem Pt.at {ad : Addr} {cs : List Value} {c : Value} (h : Pt H ad cs) (j : Nat) (hc : cs[j]? = some c) : Pt H ⟨ad.block, ad.off + j, none⟩ [c] :=
  ⟨rfl, fun i d hd => by
    match i, hd with
    | 0, hd => simp only [List.getElem?_cons_zero, Option.some.injEq] at hd; subst hd; exact h.cells j _ hc⟩
end
/-! copies -/
section
variable {P : Program} {w0 : World} {n : Nat} {l : FL} {H : Heap} {o : Oper}
end
/-! results in variables -/
section
variable {P : Program} {w0 : World} {H : Heap} {n : Nat} {l : FL}
theorem run_loadPt {ty : TypeId} {ad : Addr} {cs : List Value} {k : Nat} {w : World} (ha : At w0 H w) (h : Pt H ad cs) (ht : ∀ w, (isAgg ty).run P w = .ok true w) (hs : ∀ w, (sizeOf ty).run P w = .ok k w) (hk : cs.length = k) : (loadVar ty ad).run P w = .ok (.agg cs.toArray) w := by
  have := run_loadCellsFrom (P := P) (w := w) h.spot k 0 cs #[] hk (fun j c e => by rw [ha.cell]; simpa using h.cells j c e)
  simp [loadVar, ht, hs, loadCells, this]
theorem resC {fn : Func} {p : Nat} {ty : TypeId} {ad : Addr} {cs : List Value} {k : Nat} (h : fn.results = #[.cell p ty]) (e : lk l p = some (.pointer (some ad))) (hp : Pt H ad cs) (ht : ∀ w, (isAgg ty).run P w = .ok true w) (hs : ∀ w, (sizeOf ty).run P w = .ok k w) (hk : cs.length = k) :
    ∀ a w, Fr n l a → At w0 H w → (results fn a.tmps).run P w = .ok (.agg cs.toArray) w := by
  intro a w hf ha
  have h1 := hf.get p _ e
  have h2 := run_loadPt (P := P) ha hp ht hs hk
  simp only [results, h]
  simp [h1, asAddr, h2]
end
end Go.Proofs.Ytclhnkmkejijjaa.E
