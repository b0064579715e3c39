/-
  Which line of a side each line of base is kept as.
-/
import Derived.Test.YtegfnfhdgbcjbaaMerC
import Derived.Test.YtegfnfhdgbcjbaaLinC
import Derived.Test.YtegfnfhdgbcjbaaLinD
import Derived.Test.YtegfnfhdgbcjbaaLinL
import Derived.Test.YtegfnfhdgbcjbaaLinN
namespace Go.Proofs.Ytegfnfhdgbcjbaa.MerD
open Go.Proofs.Ytegfnfhdgbcjbaa.E Go.RowKit Go.Proofs.Ytegfnfhdgbcjbaa.LinM Go.Proofs.Ytegfnfhdgbcjbaa.LinB Go.Proofs.Ytegfnfhdgbcjbaa.LinC Go.Proofs.Ytegfnfhdgbcjbaa.LinD Go.Proofs.Ytegfnfhdgbcjbaa.LinL Go.Proofs.Ytegfnfhdgbcjbaa.LinN Go.Proofs.Ytegfnfhdgbcjbaa.MerA Go.Proofs.Ytegfnfhdgbcjbaa.MerB Go.Proofs.Ytegfnfhdgbcjbaa.MerC
set_option maxRecDepth 20000
set_option linter.unusedVariables false
set_option linter.unusedSimpArgs false
set_option linter.unusedSectionVars false
theorem Ct.ow {P : Program} {w0 : World} {f : FuncId} {args : Array Value} {H0 : Heap} {α : Type} {e : TypeId} {g : α → List Value} {sz : Nat} {L : List α} (h : Ct P w0 f args H0 (fun r H2 => Own (fun b => H0.size ≤ b) e H2 g sz r L ∧ Nw H0 H2)) :
    Ct P w0 f args H0 (fun r H2 => ∃ v, ∃ k, r = v ∧ Ow k e H2 g sz v L ∧ Nx 0 H0.size k ∧ Nw H0 H2) := by
  refine h.mono ?_
  rintro r H2 ⟨h1, h2⟩
  obtain ⟨k, h3, h4⟩ := Ow.of h1
  refine ⟨r, k, rfl, h3, ?_, h2⟩
  rcases h4 with rfl | ⟨g, rfl, h5⟩
  · exact .inl rfl
  · exact .inr (.inr (by omega))
theorem split3 (v : Value) (b : List UInt8) (w0 : World) (H0 : Heap) (hv : RdT H0 fB 1 v b) (hl : b.length ≤ 1048576) : Ct Try.prog w0 39 #[v] H0 (fun r H2 => ∃ v, ∃ k, r = v ∧ Ow k 9 H2 fS 1 v (splitL [] b) ∧ Nx 0 H0.size k ∧ Nw H0 H2) := Ct.ow (split_ct v b w0 H0 hv hl)
theorem join3 (v : Value) (b : List (List UInt8)) (w0 : World) (H0 : Heap) (hv : RdT H0 fS 1 v b) (hl : b.flatten.length ≤ 1073741824) : Ct Try.prog w0 24 #[v] H0 (fun r H2 => ∃ v, ∃ k, r = v ∧ Ow k 5 H2 fB 1 v (b.flatten) ∧ Nx 0 H0.size k ∧ Nw H0 H2) := Ct.ow (join_ct v b w0 H0 hv hl)
/-- one step more of a script: the partners so far, the next line of the side -/
def pst (s : List Int × Nat) (op : Int) : List Int × Nat := if op = 0 then (s.1 ++ [(s.2 : Int)], s.2 + 1) else if op = 2 then (s.1, s.2 + 1) else (s.1 ++ [-1], s.2)
def pfold (ops : List Int) : List Int × Nat := ops.foldl pst ([], 0)
/-- the partners of a's lines in b -/
def parts (a b : List (List UInt8)) : List Int := (pfold (W a b)).1
end Go.Proofs.Ytegfnfhdgbcjbaa.MerD
