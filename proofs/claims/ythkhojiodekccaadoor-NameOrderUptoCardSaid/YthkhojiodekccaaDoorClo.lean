/-
  Function values, and numbers that are not below 0: no condition.
-/
import Derived.Test.YthkhojiodekccaaDoorOw
import Derived.Test.YthkhojiodekccaaDoorAny
import Derived.Test.YthkhojiodekccaaDoorWord
namespace Go.Proofs.YthkhojiodekccaaDoor.E
set_option linter.unusedVariables false
set_option linter.unusedSimpArgs false
set_option linter.unusedSectionVars false
/-- called with these arguments, the function value does this -/
def Clo (P : Program) (w0 : World) (v : Value) (args : List Value) (H : Heap) (R : Value → Heap → Prop) : Prop :=
  ∃ f caps, v = .func (.func f) #[] caps ∧ (∀ (vs : Array Value) (w : World), (callFunc f vs).run P w = .ok (.enter f vs) w) ∧ Ct P w0 f (args.toArray ++ caps) H R
section
variable {P : Program} {w0 : World} {Q : Exit → Act → World → Prop} {n : Nat} {l : FL} {H : Heap} {ops : Array Oper} {rest : List Oper} {o : Oper}
theorem Clo.of {f : FuncId} {caps : List Value} {args : List Value} {R : Value → Heap → Prop} (hcall : ∀ (vs : Array Value) (w : World), (callFunc f vs).run P w = .ok (.enter f vs) w) (h : Ct P w0 f (args ++ caps).toArray H R) : Clo P w0 (.func (.func f) #[] caps.toArray) args H R :=
  ⟨f, caps.toArray, rfl, hcall, by simpa using h⟩
theorem LR.calld {R : Value → Heap → Prop} {d : Nat} {c : Operand} {cv : Value} {args : List Operand} {ats : Array TypeId} {vs : List Value} (ho : o.op = .call { callee := .value c, args := args.toArray, argTypes := ats })
    (hcv : opv l c = some cv) (hv : opvs l args = some vs) (hw : Wd ops l o) (hd : o.dst = some d) (hn : Nat.blt d n = true) (hc : Clo P w0 cv vs H R)
    (h : ∀ v H', R v H' → LR false P w0 ops Q n ((d, v) :: l) rest H') : LR false P w0 ops Q n l (o :: rest) H := by
  intro a w hf ha
  simp only [Md]
  obtain ⟨f, caps, rfl, hcall, hct⟩ := hc
  have hr : (execOp a.eval o).run P w = .ok (.enter f (vs.toArray ++ caps)) w := by
    have h2 := hf.evals hv
    have h3 : (args.toArray.map a.eval) = vs.toArray := by rw [List.map_toArray, h2]
    simp [execOp, ho, resolve, Deferred.ofValue, hf.eval hcv, invoke, hcall, h2]
  unfold wpList
  rw [if_pos (hw n a hf)]
  refine .inl ?_
  unfold Oper.wp
  rw [hr]
  show Calls P f (vs.toArray ++ caps) w _
  refine (hct w ha).mono ?_
  rintro e w' ⟨r, H', rfl, ha', hR⟩
  have hp := hf.put hn r
  rw [← hd] at hp
  exact h r H' hR _ w' hp ha'
end
end Go.Proofs.YthkhojiodekccaaDoor.E
