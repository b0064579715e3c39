/-
  Contracts of functions of the program
-/
import Derived.Test.YtegfnfhdgbcjbaaRows
import Derived.Test.YtegfnfhdgbcjbaaMap
import Derived.Test.YtegfnfhdgbcjbaaLinM
namespace Go.Proofs.Ytegfnfhdgbcjbaa.LinB
open Go.Proofs.Ytegfnfhdgbcjbaa.E Go.RowKit Go.Proofs.Ytegfnfhdgbcjbaa.LinM
set_option maxRecDepth 20000
set_option linter.unusedVariables false
set_option linter.unusedSimpArgs false
set_option linter.unusedSectionVars false

def row (a b : List Int) (i : Nat) : List Nat := (List.range (b.length + 1)).map (fun j => lcs (a.drop i) (b.drop j))
theorem row_length (a b : List Int) (i : Nat) : (row a b i).length = b.length + 1 := by simp [row]
theorem row_get (a b : List Int) (i j : Nat) (h : j < (row a b i).length) : (row a b i)[j] = lcs (a.drop i) (b.drop j) := by simp [row]
/-- row i, from place j on -/
def Part (a b : List Int) (i : Nat) (r : List Nat) (j : Int) : Prop := r.length = b.length + 1 ∧ r[b.length]? = some 0 ∧ ∀ q : Nat, j < q → q < b.length → r[q]? = some (lcs (a.drop i) (b.drop q))
theorem Part.set {a b : List Int} {i : Nat} {r : List Nat} {j : Int} {q x : Nat} (h : Part a b i r j) (hq : j = q) (hj : q < b.length) (hx : x = lcs (a.drop i) (b.drop q)) : Part a b i (r.set q x) (j - 1) := by
  refine ⟨by simp [h.1], ?_, ?_⟩
  · rw [List.getElem?_set, if_neg (by omega)]; exact h.2.1
  · intro p hp hpb
    rw [List.getElem?_set]
    by_cases e : q = p
    · subst e; rw [if_pos rfl, if_pos (by rw [h.1]; omega), hx]
    · rw [if_neg e]; exact h.2.2 p (by omega) hpb
theorem Part.done {a b : List Int} {i : Nat} {r : List Nat} {j : Int} (h : Part a b i r j) (hj : j < 0) : r = row a b i := by
  apply List.ext_getElem
  · rw [h.1, row_length]
  · intro q h1 h2
    rw [row_get]
    rw [row_length] at h2
    by_cases hq : q = b.length
    · subst hq
      have := h.2.1
      rw [List.getElem?_eq_getElem h1] at this
      rw [Option.some.inj this, List.drop_length, lcs_nil_right]
    · have := h.2.2 q (by omega) (by omega)
      rw [List.getElem?_eq_getElem h1] at this
      exact Option.some.inj this
theorem Part.get {a b : List Int} {i : Nat} {r : List Nat} {j : Int} (h : Part a b i r j) (q : Nat) (h1 : j < q) (h2 : q < r.length) : r[q] = lcs (a.drop i) (b.drop q) := by
  have hl := h.1
  by_cases hq : q = b.length
  · subst hq
    have := h.2.1
    rw [List.getElem?_eq_getElem h2] at this
    rw [Option.some.inj this, List.drop_length, lcs_nil_right]
  · have := h.2.2 q (by omega) (by omega)
    rw [List.getElem?_eq_getElem h2] at this
    exact Option.some.inj this
/-- the rows behind i are laid -/
def Rows (F : Nat → Prop) (H : Heap) (a b : List Int) (rows : List SV) (i : Int) : Prop := rows.length = a.length + 1 ∧ ∀ q : Nat, i < q → ∀ x, rows[q]? = some x → Rd F H (fN .u16) 1 x.v (row a b q)
theorem Rows.up {F : Nat → Prop} {H H' : Heap} {a b : List Int} {rows : List SV} {i : Int} {S : Nat → Prop} (h : Rows F H a b rows i) (s : Mo S H H') (hS : ∀ b, b < H.size → F b → ¬ S b) : Rows F H' a b rows i :=
  ⟨h.1, fun q hq x hx => (h.2 q hq x hx).up s hS⟩
theorem Rows.imp {F F' : Nat → Prop} {H : Heap} {a b : List Int} {rows : List SV} {i : Int} (h : Rows F H a b rows i) (hF : ∀ b, b < H.size → F b → F' b) : Rows F' H a b rows i :=
  ⟨h.1, fun q hq x hx => (h.2 q hq x hx).imp hF⟩
theorem Rows.put {F : Nat → Prop} {H : Heap} {a b : List Int} {rows : List SV} {i : Int} {v : Value} (h : Rows F H a b rows i) (q0 : Nat) (hi : i = q0) (hv : Rd F H (fN .u16) 1 v (row a b q0)) : Rows F H a b (rows.set q0 (toSV v)) (i - 1) := by
  refine ⟨by simp [h.1], fun q hq x hx => ?_⟩
  rw [List.getElem?_set] at hx
  by_cases e : q0 = q
  · subst e
    rw [if_pos rfl] at hx
    split at hx
    · simp only [Option.some.injEq] at hx
      subst hx
      rw [hv.sv]; exact hv
    · cases hx
  · rw [if_neg e] at hx
    exact h.2 q (by omega) x hx
end Go.Proofs.Ytegfnfhdgbcjbaa.LinB
