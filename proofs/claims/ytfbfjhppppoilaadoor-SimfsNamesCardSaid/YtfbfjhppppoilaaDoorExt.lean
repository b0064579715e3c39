/-
  Rules for calls of functions for which the model stands in: no condition.
-/
import Derived.Test.YtfbfjhppppoilaaDoorVar
import Derived.Lib.BytesEntry
namespace Go.Proofs.YtfbfjhppppoilaaDoor.E
set_option linter.unusedVariables false
set_option linter.unusedSimpArgs false
set_option linter.unusedSectionVars false
section
variable {P : Program} {w0 : World} {n : Nat} {l : FL} {H : Heap} {o : Oper}

theorem Y.ext {f : FuncId} {fn : Func} {e : Array Value → Sem Value} {args : List Operand} {ats : Array TypeId} {vs : List Value} {v : Value} (ho : o.op = .call { callee := .value (.func f), args := args.toArray, argTypes := ats }) (hf : P.funcs[f]? = some fn)
    (hname : (fn.name == "runtime.NumGoroutine") = false) (hb : fn.body.isNone = true) (hn : Extern.findNext fn = none) (he : Extern.find fn = some e) (hv : opvs l args = some vs) (hr : ∀ w, At w0 H w → (e vs.toArray).run P w = .ok v w) : Y P w0 n l H o v := by
  intro a w hfr ha
  have h1 : a.eval (.func f) = .func (.func f) #[] #[] := rfl
  have h2 := hfr.evals hv
  have h3 := run_callFunc_extern (P := P) hf hname hb hn he vs.toArray w
  rw [hr w ha] at h3
  simp only [Result.andThen] at h3
  simp [execOp, ho, resolve, Deferred.ofValue, h1, invoke, h2, h3]

theorem bytesOf_map (xs : List UInt8) : Lib.bytesOf (xs.map (fun b => (b.toNat : Int))) = xs := by
  induction xs with
  | nil => rfl
  | cons b xs ih => simp only [Lib.bytesOf, List.map_cons, List.map_map] at ih ⊢; rw [ih]; simp

theorem Y.indexByte {F : Nat → Prop} {f : FuncId} {fn : Func} {args : List Operand} {ats : Array TypeId} {v : Value} {xs : List UInt8} {c : UInt8} (h : Rd F H fB 1 v xs) (ho : o.op = .call { callee := .value (.func f), args := args.toArray, argTypes := ats }) (hf : P.funcs[f]? = some fn)
    (hname : (fn.name == "runtime.NumGoroutine") = false) (hb : fn.body.isNone = true) (hn : Extern.findNext fn = none) (he : Extern.find fn = some Extern.BytealgIndexByte.indexByte) (hv : opvs l args = some [v, .int .u8 c.toNat]) : Y P w0 n l H o (.int .i64 (Lib.indexByte xs c)) := by
  refine Y.ext ho hf hname hb hn he hv (fun w ha => ?_)
  obtain ⟨ad, cap, rfl, _, _, h3⟩ := id h.ex
  cases ad with
  | none =>
    have hxs : xs = [] := by
      apply Decidable.byContradiction; intro hne
      obtain ⟨ad, hn, _⟩ := h3 hne
      cases hn
    subst hxs
    exact Lib.run_indexByteNil w _ _ _
  | some ad =>
    have hsp : ad.spot = none ∨ xs = [] := by
      by_cases hx : xs = []
      · exact .inr hx
      · obtain ⟨ad', e1, e2, _⟩ := h3 hx; exact .inl (by rw [Option.some.inj e1]; exact e2)
    have hnews := h.pts fB_len rfl ha
    rcases hsp with hsp | rfl
    · have hr := Lib.run_indexByteSlice (P := P) w ad.block ad.off xs.length cap (xs.map (fun b => (b.toNat : Int))) (by simp) (fun i hi => by
        have := hnews i (.int .u8 (xs[i]).toNat) (by rw [flatMap_fB]; simp [hi])
        rw [add_eq hsp] at this
        rw [this]; simp [List.getD, hi]) c.toNat
      rw [bytesOf_map] at hr
      have hc : ((c.toNat : Int)).toNat.toUInt8 = c := by simp
      rw [hc] at hr
      have had : (⟨ad.block, ad.off, none⟩ : Addr) = ad := by obtain ⟨b, o, s⟩ := ad; simp at hsp; subst hsp; rfl
      rw [had] at hr
      exact hr
    · have hc : ((c.toNat : Int)).toNat.toUInt8 = c := by simp
      rfl
end
end Go.Proofs.YtfbfjhppppoilaaDoor.E
