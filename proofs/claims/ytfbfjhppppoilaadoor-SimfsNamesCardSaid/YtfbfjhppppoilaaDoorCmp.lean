/-
  Comparing rows of bytes: no condition.
-/
import Derived.Test.YtfbfjhppppoilaaDoorExt
import Derived.Test.YtfbfjhppppoilaaDoorOw
import Derived.Lib.Bytealg
namespace Go.Proofs.YtfbfjhppppoilaaDoor.E
set_option linter.unusedVariables false
set_option linter.unusedSimpArgs false
set_option linter.unusedSectionVars false
section
variable {P : Program} {w0 : World} {n : Nat} {l : FL} {H : Heap} {o : Oper}
theorem run_bytesOf_rd {F : Nat → Prop} {v : Value} {xs : List UInt8} (h : Rd F H fB 1 v xs) {w : World} (ha : At w0 H w) : (Extern.Bytes.bytesOf v).run P w = .ok ⟨xs.toArray⟩ w := by
  obtain ⟨ad, cap, rfl, _, _, h3⟩ := id h.ex
  cases ad with
  | none =>
    have hxs : xs = [] := by
      apply Decidable.byContradiction; intro hne
      obtain ⟨ad, hn, _⟩ := h3 hne
      cases hn
    subst hxs
    rfl
  | some ad =>
    have hnews := h.pts fB_len rfl ha
    have hl := Lib.run_loadBytesX (P := P) w (xs.map (fun b => (b.toNat : Int))) ad .empty (fun j x hj => by
      apply hnews
      rw [flatMap_fB]
      rw [List.getElem?_map] at hj ⊢
      cases hx : xs[j]? with
      | none => simp [hx] at hj
      | some y => simp [hx] at hj ⊢; exact hj)
    rw [bytesOf_map, List.length_map] at hl
    have he : (⟨ByteArray.empty.data ++ xs.toArray⟩ : ByteArray) = ⟨xs.toArray⟩ := by
      apply ByteArray.ext
      show (#[] : Array UInt8) ++ xs.toArray = xs.toArray
      simp
    rw [he] at hl
    exact hl
theorem Y.compare {F G : Nat → Prop} {f : FuncId} {fn : Func} {args : List Operand} {ats : Array TypeId} {u v : Value} {xs ys : List UInt8} (h : Rd F H fB 1 u xs) (h2 : Rd G H fB 1 v ys) (ho : o.op = .call { callee := .value (.func f), args := args.toArray, argTypes := ats }) (hf : P.funcs[f]? = some fn)
    (hname : (fn.name == "runtime.NumGoroutine") = false) (hb : fn.body.isNone = true) (hn : Extern.findNext fn = none) (he : Extern.find fn = some Extern.BytealgCompare.compare) (hv : opvs l args = some [u, v]) : Y P w0 n l H o (.int .i64 (Lib.compareBytes xs ys)) := by
  refine Y.ext ho hf hname hb hn he hv (fun w ha => ?_)
  have e1 := run_bytesOf_rd (P := P) h ha
  have e2 := run_bytesOf_rd (P := P) h2 ha
  change Sem.run P (do pure (goInt (Extern.BytealgCompare.cmp (← Extern.Bytes.bytesOf u) (← Extern.Bytes.bytesOf v)))) w = _
  simp only [Sem.run_bind, e1, e2, Sem.run_pure, Result.andThen]
  rw [Lib.cmp_eq]
  rfl
end
end Go.Proofs.YtfbfjhppppoilaaDoor.E
