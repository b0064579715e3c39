/-
  Rules for words (numbers of fixed width, without sign), arrays, copies: no condition.
-/
import Derived.Test.YtclhnkmkejijjaaExt
namespace Go.Proofs.Ytclhnkmkejijjaa.E
set_option linter.unusedVariables false
set_option linter.unusedSimpArgs false
set_option linter.unusedSectionVars false
section
variable {P : Program} {w0 : World} {n : Nat} {l : FL} {H : Heap} {o : Oper}

theorem wrap_u8 (n : Int) : IntKind.u8.wrap n = n % 256 := by
  have h1 : IntKind.u8.signed = false := rfl
  have h2 : (2 ^ IntKind.u8.bits : Int) = 256 := by decide
  simp only [IntKind.wrap, h1, h2, Bool.false_and, Bool.false_eq_true, if_false]
theorem wnat_u8 (a : Nat) : IntKind.u8.wrap (a : Int) = ((UInt8.ofNat a).toNat : Int) := by
  rw [wrap_u8, UInt8.toNat_ofNat']; omega
theorem Y.conv_u8 {x : Operand} {s d : TypeId} {k : IntKind} {a : Nat} {ds : TypeDesc} (ho : o.op = .convert s d x) (hs : ∀ w, (underlying s).run P w = .ok ds w) (hd : ∀ w, (underlying d).run P w = .ok (.int .u8) w) (hx : opv l x = some (.int k a)) : Y P w0 n l H o (.int .u8 (UInt8.ofNat a).toNat) := by
  have h := Y.conv (P := P) (w0 := w0) (n := n) (H := H) ho hs hd hx
  rwa [wnat_u8] at h

/-! arrays -/
theorem Pt.at {ad : Addr} {cs : List Value} {c : Value} (h : Pt H ad cs) (j : Nat) (hc : cs[j]? = some c) : Pt H ⟨ad.block, ad.off + j, none⟩ [c] :=
  ⟨rfl, fun i d hd => by
    match i, hd with
    | 0, hd => simp only [List.getElem?_cons_zero, Option.some.injEq] at hd; subst hd; exact h.cells j _ hc⟩
end
/-! copies -/
section
variable {P : Program} {w0 : World} {n : Nat} {l : FL} {H : Heap} {o : Oper}
end
/-! results in variables -/
section
variable {P : Program} {w0 : World} {H : Heap} {n : Nat} {l : FL}
end
end Go.Proofs.Ytclhnkmkejijjaa.E
