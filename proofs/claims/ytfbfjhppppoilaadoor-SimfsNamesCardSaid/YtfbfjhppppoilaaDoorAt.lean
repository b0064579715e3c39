/-
  Numbers that are read and raised at once: no condition.
-/
import Derived.Test.YtfbfjhppppoilaaDoorOw
import Derived.Test.YtfbfjhppppoilaaDoorExt
namespace Go.Proofs.YtfbfjhppppoilaaDoor.E
set_option linter.unusedVariables false
set_option linter.unusedSimpArgs false
section
variable {P : Program} {w0 : World} {n : Nat} {l : FL} {H : Heap} {o : Oper}
theorem Z.ext {f : FuncId} {fn : Func} {e : Array Value → Sem Value} {args : List Operand} {ats : Array TypeId} {vs : List Value} {R : Value → Heap → Prop} (ho : o.op = .call { callee := .value (.func f), args := args.toArray, argTypes := ats }) (hf : P.funcs[f]? = some fn)
    (hname : (fn.name == "runtime.NumGoroutine") = false) (hb : fn.body.isNone = true) (hn : Extern.findNext fn = none) (he : Extern.find fn = some e) (hv : opvs l args = some vs) (hr : ∀ w, At w0 H w → ∃ v H' w', (e vs.toArray).run P w = .ok v w' ∧ At w0 H' w' ∧ R v H') : Z P w0 n l H o R := by
  intro a w hfr ha
  have h1 : a.eval (.func f) = .func (.func f) #[] #[] := rfl
  have h2 := hfr.evals hv
  have h3 := run_callFunc_extern (P := P) hf hname hb hn he vs.toArray w
  obtain ⟨v, H', w', q1, q2, q3⟩ := hr w ha
  rw [q1] at h3
  simp only [Result.andThen] at h3
  exact ⟨v, H', w', by simp [execOp, ho, resolve, Deferred.ofValue, h1, invoke, h2, h3], q2, q3⟩
theorem Var.cell {e : TypeId} {b : Nat} {cs : List Value} (h : Var e H b cs) {w : World} (ha : At w0 H w) {i : Nat} {c : Value} (hc : cs[i]? = some c) : w.cell? ⟨b, i, none⟩ = some c ∧ w.frozen? ⟨b, i, none⟩ = false ∧ ∃ fz, w.heap[b]? = some (.cells cs.toArray e fz) := by
  obtain ⟨fz, h1, h2⟩ := id h.row
  have hi := (List.getElem?_eq_some_iff.1 hc).1
  have h1' : w.heap[b]? = some (.cells cs.toArray e fz) := by rw [ha.heap]; exact h1
  refine ⟨by simp [World.cell?, h1', hc], ?_, fz, h1'⟩
  obtain ⟨lo, hi'⟩ := fz
  have := h2.2 i (by simpa using hi)
  simp only at this
  simp [World.frozen?, h1']; omega
theorem Z.add64 {f : FuncId} {fn : Func} {args : List Operand} {ats : Array TypeId} {e : TypeId} {b i : Nat} {cs : List Value} {x y : Int} (h : Var e H b cs) (hc : cs[i]? = some (.int .i64 x)) (ho : o.op = .call { callee := .value (.func f), args := args.toArray, argTypes := ats }) (hf : P.funcs[f]? = some fn)
    (hname : (fn.name == "runtime.NumGoroutine") = false) (hb : fn.body.isNone = true) (hn : Extern.findNext fn = none) (he : Extern.find fn = some (Extern.Atomic.update (Op.intArith .add) .i64 true)) (hv : opvs l args = some [.pointer (some ⟨b, i, none⟩), .int .i64 y]) (hxy : -9223372036854775808 ≤ x + y ∧ x + y ≤ 9223372036854775807) :
    Z P w0 n l H o (fun r H' => r = .int .i64 (x + y) ∧ Var e H' b (cs.set i (.int .i64 (x + y))) ∧ Mo (fun c => c = b) H H') := by
  refine Z.ext ho hf hname hb hn he hv (fun w ha => ?_)
  obtain ⟨h1, h2, fz, h3⟩ := h.cell ha hc
  have hw : IntKind.i64.wrap (x + y) = x + y := by rw [IntKind.wrap_i64]; omega
  have hi := (List.getElem?_eq_some_iff.1 hc).1
  refine ⟨.int .i64 (x + y), _, w.setRow b (cs.toArray.setIfInBounds i (.int .i64 (x + y))), ?_, ha.row _ _, rfl, ?_, setRow_mo ha _ _⟩
  · have hs : (store ⟨b, i, none⟩ (.int .i64 (x + y)) .atomic).run P w = .ok () (w.setRow b (cs.toArray.setIfInBounds i (.int .i64 (x + y)))) := by
      rw [Go.run_store P w _ _ _ rfl, h1]
      simp only [h2, Bool.false_eq_true, if_false]
      rw [setCell_eq_setRow w b i cs.toArray e fz _ h3]
    have e1 : Extern.Atomic.update (Op.intArith .add) .i64 true #[.pointer (some ⟨b, i, none⟩), .int .i64 y] = (asAddr (.pointer (some ⟨b, i, none⟩)) >>= fun a => Extern.Atomic.read (.int .i64) a >>= fun old => asInt old >>= fun p => asInt (.int .i64 y) >>= fun q => Op.intArith .add .i64 p q >>= fun new => store a new .atomic >>= fun _ => pure (if true then new else old)) := rfl
    show (Extern.Atomic.update (Op.intArith .add) .i64 true #[.pointer (some ⟨b, i, none⟩), .int .i64 y]).run P w = _
    rw [e1]
    simp [Extern.Atomic.read, asAddr, h1, asInt, asIntOf, Op.intArith, hw, hs]
  · have := setRow_row ha h.row (c := cs.toArray.setIfInBounds i (.int .i64 (x + y))) (by simp)
    exact ⟨by simpa using this⟩
theorem Y.load64 {f : FuncId} {fn : Func} {args : List Operand} {ats : Array TypeId} {e : TypeId} {b i : Nat} {cs : List Value} {x : Int} (h : Var e H b cs) (hc : cs[i]? = some (.int .i64 x)) (ho : o.op = .call { callee := .value (.func f), args := args.toArray, argTypes := ats }) (hf : P.funcs[f]? = some fn)
    (hname : (fn.name == "runtime.NumGoroutine") = false) (hb : fn.body.isNone = true) (hn : Extern.findNext fn = none) (he : Extern.find fn = some (Extern.Atomic.loadT (.int .i64))) (hv : opvs l args = some [.pointer (some ⟨b, i, none⟩)]) : Y P w0 n l H o (.int .i64 x) := by
  refine Y.ext ho hf hname hb hn he hv (fun w ha => ?_)
  obtain ⟨h1, _⟩ := h.cell ha hc
  have e1 : Extern.Atomic.loadT (.int .i64) #[.pointer (some ⟨b, i, none⟩)] = (asAddr (.pointer (some ⟨b, i, none⟩)) >>= fun a => Extern.Atomic.read (.int .i64) a) := rfl
  show (Extern.Atomic.loadT (.int .i64) #[.pointer (some ⟨b, i, none⟩)]).run P w = _
  rw [e1]
  simp [Extern.Atomic.read, asAddr, h1]
end
end Go.Proofs.YtfbfjhppppoilaaDoor.E
