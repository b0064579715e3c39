/-
  Rules for calls of functions for which the model stands in: no condition.
-/
import Derived.Test.YtepdhokpfecdnaaVar
import Derived.Lib.BytesEntry
namespace Go.Proofs.Ytepdhokpfecdnaa.E
set_option linter.unusedVariables false
set_option linter.unusedSimpArgs false
set_option linter.unusedSectionVars false
section
variable {P : Program} {w0 : World} {n : Nat} {l : FL} {H : Heap} {o : Oper}

theorem Y.ext {f : FuncId} {fn : Func} {e : Array Value → Sem Value} {args : List Operand} {ats : Array TypeId} {vs : List Value} {v : Value} (ho : o.op = .call { callee := .value (.func f), args := args.toArray, argTypes := ats }) (hf : P.funcs[f]? = some fn)
    (hname : (fn.name == "runtime.NumGoroutine") = false) (hb : fn.body.isNone = true) (hn : Extern.findNext fn = none) (he : Extern.find fn = some e) (hv : opvs l args = some vs) (hr : ∀ w, At w0 H w → (e vs.toArray).run P w = .ok v w) : Y P w0 n l H o v := by
  intro a w hfr ha
  have h1 : a.eval (.func f) = .func (.func f) #[] #[] := rfl
  have h2 := hfr.evals hv
  have h3 := run_callFunc_extern (P := P) hf hname hb hn he vs.toArray w
  rw [hr w ha] at h3
  simp only [Result.andThen] at h3
  simp [execOp, ho, resolve, Deferred.ofValue, h1, invoke, h2, h3]

theorem bytesOf_map (xs : List UInt8) : Lib.bytesOf (xs.map (fun b => (b.toNat : Int))) = xs := by
  induction xs with
  | nil => rfl
  | cons b xs ih => simp only [Lib.bytesOf, List.map_cons, List.map_map] at ih ⊢; rw [ih]; simp

end
end Go.Proofs.Ytepdhokpfecdnaa.E
