/-
  Function values, and numbers that are not below 0: no condition.
-/
import Derived.Test.YtfbfjhppppoilaaDoorOw
import Derived.Test.YtfbfjhppppoilaaDoorAny
import Derived.Test.YtfbfjhppppoilaaDoorWord
namespace Go.Proofs.YtfbfjhppppoilaaDoor.E
set_option linter.unusedVariables false
set_option linter.unusedSimpArgs false
set_option linter.unusedSectionVars false
/-- called with these arguments, the function value does this -/
def Clo (P : Program) (w0 : World) (v : Value) (args : List Value) (H : Heap) (R : Value → Heap → Prop) : Prop :=
  ∃ f caps, v = .func (.func f) #[] caps ∧ (∀ (vs : Array Value) (w : World), (callFunc f vs).run P w = .ok (.enter f vs) w) ∧ Ct P w0 f (args.toArray ++ caps) H R
section
variable {P : Program} {w0 : World} {Q : Exit → Act → World → Prop} {n : Nat} {l : FL} {H : Heap} {ops : Array Oper} {rest : List Oper} {o : Oper}
theorem Clo.of {f : FuncId} {caps : List Value} {args : List Value} {R : Value → Heap → Prop} (hcall : ∀ (vs : Array Value) (w : World), (callFunc f vs).run P w = .ok (.enter f vs) w) (h : Ct P w0 f (args ++ caps).toArray H R) : Clo P w0 (.func (.func f) #[] caps.toArray) args H R :=
  ⟨f, caps.toArray, rfl, hcall, by simpa using h⟩
theorem LR.calld {R : Value → Heap → Prop} {d : Nat} {c : Operand} {cv : Value} {args : List Operand} {ats : Array TypeId} {vs : List Value} (ho : o.op = .call { callee := .value c, args := args.toArray, argTypes := ats })
    (hcv : opv l c = some cv) (hv : opvs l args = some vs) (hw : Wd ops l o) (hd : o.dst = some d) (hn : Nat.blt d n = true) (hc : Clo P w0 cv vs H R)
    (h : ∀ v H', R v H' → LR false P w0 ops Q n ((d, v) :: l) rest H') : LR false P w0 ops Q n l (o :: rest) H := by
  intro a w hf ha
  simp only [Md]
  obtain ⟨f, caps, rfl, hcall, hct⟩ := hc
  have hr : (execOp a.eval o).run P w = .ok (.enter f (vs.toArray ++ caps)) w := by
    have h2 := hf.evals hv
    have h3 : (args.toArray.map a.eval) = vs.toArray := by rw [List.map_toArray, h2]
    simp [execOp, ho, resolve, Deferred.ofValue, hf.eval hcv, invoke, hcall, h2]
  unfold wpList
  rw [if_pos (hw n a hf)]
  refine .inl ?_
  unfold Oper.wp
  rw [hr]
  show Calls P f (vs.toArray ++ caps) w _
  refine (hct w ha).mono ?_
  rintro e w' ⟨r, H', rfl, ha', hR⟩
  have hp := hf.put hn r
  rw [← hd] at hp
  exact h r H' hR _ w' hp ha'
theorem Y.makeFunc {f : FuncId} {caps : List Operand} {vs : List Value} (ho : o.op = .makeFunc (.func f) #[] caps.toArray) (hv : opvs l caps = some vs) : Y P w0 n l H o (.func (.func f) #[] vs.toArray) := by
  intro a w hf ha
  have h2 := hf.evals hv
  simp [execOp, ho, Instr.makeFunc, h2]
theorem Y.shrn {x y : Operand} {t u : TypeId} {k2 : IntKind} {a : Nat} {iv : Int} (j : Nat) (ho : o.op = .binOp .shr t x y u) (hx : opv l x = some (.int .i64 a)) (hy : opv l y = some (.int k2 iv)) (hj : iv = j) (hlt : j ≤ 64) : Y P w0 n l H o (.int .i64 ((a / 2 ^ j : Nat) : Int)) := by
  have h := Y.shr (P := P) (w0 := w0) (n := n) (H := H) ho hx hy (by omega)
  rw [hj, Int.toNat_natCast, show min j IntKind.i64.bits = j from Nat.min_eq_left hlt] at h
  rw [show (a : Int).fdiv (2 ^ j) = ((a / 2 ^ j : Nat) : Int) by
    rw [Int.fdiv_eq_ediv_of_nonneg _ (by exact Int.le_of_lt (Int.pow_pos (by decide)))]; simp] at h
  exact h
theorem Y.shln {x y : Operand} {t u : TypeId} {k2 : IntKind} {a : Nat} {iv : Int} (j : Nat) (ho : o.op = .binOp .shl t x y u) (hx : opv l x = some (.int .i64 a)) (hy : opv l y = some (.int k2 iv)) (hj : iv = j) (hlt : j ≤ 64) (hb : a * 2 ^ j ≤ 9223372036854775807) : Y P w0 n l H o (.int .i64 ((a * 2 ^ j : Nat) : Int)) := by
  have h := Y.shl (P := P) (w0 := w0) (n := n) (H := H) ho hx hy (by omega)
  rw [hj, Int.toNat_natCast, show min j IntKind.i64.bits = j from Nat.min_eq_left hlt] at h
  rw [show ((a : Int) * 2 ^ j) = ((a * 2 ^ j : Nat) : Int) by simp, IntWalk.i64_in _ (by omega)] at h
  exact h
theorem Y.conv8i {x : Operand} {s d : TypeId} {b : UInt8} {ds : TypeDesc} (ho : o.op = .convert s d x) (hs : ∀ w, (underlying s).run P w = .ok ds w) (hd : ∀ w, (underlying d).run P w = .ok (.int .i64) w) (hx : opv l x = some (.int .u8 b.toNat)) : Y P w0 n l H o (.int .i64 (b.toNat : Nat)) :=
  Y.convi ho hs hd hx (IntWalk.i64_in _ (by have := b.toNat_lt; omega))
theorem ofInt_nat {a : Nat} (h : a ≤ 9223372036854775807) : (BitVec.ofInt IntKind.i64.bits (a : Int)).toNat = a := by
  show (BitVec.ofInt 64 (a : Int)).toNat = a
  rw [BitVec.toNat_ofInt]
  omega
theorem Y.orn {x y : Operand} {t u : TypeId} {a b : Nat} (ho : o.op = .binOp .or t x y u) (hx : opv l x = some (.int .i64 a)) (hy : opv l y = some (.int .i64 b)) (h1 : a ≤ 9223372036854775807) (h2 : b ≤ 9223372036854775807) : Y P w0 n l H o (.int .i64 ((a ||| b : Nat) : Int)) := by
  refine Y.bits .or _ ho hx hy (by simp) (fun w => ?_)
  have h3 : a ||| b < 2 ^ 63 := Nat.or_lt_two_pow (by omega) (by omega)
  have e : (BitVec.ofInt IntKind.i64.bits (a : Int) ||| BitVec.ofInt IntKind.i64.bits (b : Int)).toNat = a ||| b := by
    rw [BitVec.toNat_or, ofInt_nat h1, ofInt_nat h2]
  show (pure (Value.int .i64 (IntKind.i64.wrap ((BitVec.ofInt IntKind.i64.bits (a : Int) ||| BitVec.ofInt IntKind.i64.bits (b : Int)).toNat : Int))) : Sem Value).run P w = _
  rw [e, IntWalk.i64_in _ (by omega)]
  rfl
theorem Y.andn {x y : Operand} {t u : TypeId} {a b : Nat} (ho : o.op = .binOp .and t x y u) (hx : opv l x = some (.int .i64 a)) (hy : opv l y = some (.int .i64 b)) (h1 : a ≤ 9223372036854775807) (h2 : b ≤ 9223372036854775807) : Y P w0 n l H o (.int .i64 ((a &&& b : Nat) : Int)) := by
  refine Y.bits .and _ ho hx hy (by simp) (fun w => ?_)
  have h3 : a &&& b < 2 ^ 63 := Nat.and_lt_two_pow _ (by omega)
  have e : (BitVec.ofInt IntKind.i64.bits (a : Int) &&& BitVec.ofInt IntKind.i64.bits (b : Int)).toNat = a &&& b := by
    rw [BitVec.toNat_and, ofInt_nat h1, ofInt_nat h2]
  show (pure (Value.int .i64 (IntKind.i64.wrap ((BitVec.ofInt IntKind.i64.bits (a : Int) &&& BitVec.ofInt IntKind.i64.bits (b : Int)).toNat : Int))) : Sem Value).run P w = _
  rw [e, IntWalk.i64_in _ (by omega)]
  rfl
end
end Go.Proofs.YtfbfjhppppoilaaDoor.E
