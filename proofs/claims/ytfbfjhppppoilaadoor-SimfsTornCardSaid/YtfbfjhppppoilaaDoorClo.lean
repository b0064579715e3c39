/-
  Function values, and numbers that are not below 0: no condition.
-/
import Derived.Test.YtfbfjhppppoilaaDoorOw
import Derived.Test.YtfbfjhppppoilaaDoorAny
import Derived.Test.YtfbfjhppppoilaaDoorWord
namespace Go.Proofs.YtfbfjhppppoilaaDoor.E
set_option linter.unusedVariables false
set_option linter.unusedSimpArgs false
set_option linter.unusedSectionVars false
/-- called with these arguments, the function value does this -/
def Clo (P : Program) (w0 : World) (v : Value) (args : List Value) (H : Heap) (R : Value → Heap → Prop) : Prop :=
  ∃ f caps, v = .func (.func f) #[] caps ∧ (∀ (vs : Array Value) (w : World), (callFunc f vs).run P w = .ok (.enter f vs) w) ∧ Ct P w0 f (args.toArray ++ caps) H R
section
variable {P : Program} {w0 : World} {Q : Exit → Act → World → Prop} {n : Nat} {l : FL} {H : Heap} {ops : Array Oper} {rest : List Oper} {o : Oper}
theorem Clo.of {f : FuncId} {caps : List Value} {args : List Value} {R : Value → Heap → Prop} (hcall : ∀ (vs : Array Value) (w : World), (callFunc f vs).run P w = .ok (.enter f vs) w) (h : Ct P w0 f (args ++ caps).toArray H R) : Clo P w0 (.func (.func f) #[] caps.toArray) args H R :=
  ⟨f, caps.toArray, rfl, hcall, by simpa using h⟩
theorem Y.makeFunc {f : FuncId} {caps : List Operand} {vs : List Value} (ho : o.op = .makeFunc (.func f) #[] caps.toArray) (hv : opvs l caps = some vs) : Y P w0 n l H o (.func (.func f) #[] vs.toArray) := by
  intro a w hf ha
  have h2 := hf.evals hv
  simp [execOp, ho, Instr.makeFunc, h2]
end
end Go.Proofs.YtfbfjhppppoilaaDoor.E
