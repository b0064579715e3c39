/-
  Rules for maps whose keys are texts, numbers or bools: no condition.
-/
import Derived.Test.YtabopjdbgkhacaaDoorOwn
import Derived.MapKept
namespace Go.Proofs.YtabopjdbgkhacaaDoor.E
set_option linter.unusedSectionVars false
open Go.MapKept

/-- a map's block reads as the list m of keys and values, in the order in which they came -/
structure MapOf {κ β : Type} (G : Nat → Prop) (H : Heap) (fk : κ → Value) (fv : β → Value) (v : Value) (m : List (κ × β)) : Prop where
  ex : ∃ r es clock, v = .map (some r) ∧ G r ∧ H[r]? = some (.map es clock) ∧ Stamped es clock ∧ es.toList.map (fun e => (e.key, e.val)) = m.map (fun p => (fk p.1, fv p.2))

section
variable {κ β : Type} {G : Nat → Prop} {H H' : Heap} {fk : κ → Value} {fv : β → Value} {v : Value} {m : List (κ × β)}
theorem MapOf.up {S : Nat → Prop} (h : MapOf G H fk fv v m) (s : Mo S H H') (hS : ∀ b, b < H.size → G b → ¬ S b) : MapOf G H' fk fv v m := by
  obtain ⟨r, es, clock, h1, h2, h3, h4⟩ := h.ex
  have hlt := (Array.getElem?_eq_some_iff.1 h3).1
  exact ⟨r, es, clock, h1, h2, by rw [s.same r hlt (hS r hlt h2)]; exact h3, h4⟩
theorem MapOf.nw (h : MapOf G H fk fv v m) (s : Nw H H') : MapOf G H' fk fv v m := h.up s (fun _ _ _ e => e)
theorem MapOf.imp {G' : Nat → Prop} (h : MapOf G H fk fv v m) (hG : ∀ b, b < H.size → G b → G' b) : MapOf G' H fk fv v m := by
  obtain ⟨r, es, clock, h1, h2, h3, h4⟩ := h.ex
  exact ⟨r, es, clock, h1, hG r (Array.getElem?_eq_some_iff.1 h3).1 h2, h3, h4⟩
theorem MapOf.size (h : MapOf G H fk fv v m) : ∃ r es clock, v = .map (some r) ∧ H[r]? = some (.map es clock) ∧ es.size = m.length := by
  obtain ⟨r, es, clock, h1, h2, h3, h4, h5⟩ := h.ex
  refine ⟨r, es, clock, h1, h3, ?_⟩
  have := congrArg List.length h5
  simpa using this
theorem MapOf.keys (h : MapOf G H fk fv v m) {r : Nat} {es : Array MapEntry} {clock : Nat} (hv : v = .map (some r)) (hb : H[r]? = some (.map es clock)) : es.toList.map (fun e => (e.key, e.val)) = m.map (fun p => (fk p.1, fv p.2)) ∧ Stamped es clock := by
  obtain ⟨r', es', clock', h1, h2, h3, h4, h5⟩ := h.ex
  rw [hv] at h1
  simp only [Value.map.injEq, Option.some.injEq] at h1
  subst h1
  rw [hb] at h3
  simp only [Option.some.injEq, Obj.map.injEq] at h3
  obtain ⟨rfl, rfl⟩ := h3
  exact ⟨h5, h4⟩
end

theorem MapOf.lt {κ β : Type} {G : Nat → Prop} {H : Heap} {fk : κ → Value} {fv : β → Value} {v : Value} {m : List (κ × β)} (h : MapOf G H fk fv v m) : MapOf (fun b => b = blk v ∧ b < H.size) H fk fv v m := by
  obtain ⟨r, es, clock, h1, h2, h3, h4⟩ := h.ex
  exact ⟨r, es, clock, h1, ⟨by rw [h1]; rfl, (Array.getElem?_eq_some_iff.1 h3).1⟩, h3, h4⟩
section
variable {P : Program} {w0 : World} {n : Nat} {l : FL} {H : Heap} {o : Oper}
variable {κ β : Type} [DecidableEq κ] {G : Nat → Prop} {fk : κ → Value} {fv : β → Value} {v : Value} {m : List (κ × β)} {d : TypeDesc}

theorem Z.makeMap {t : TypeId} (ho : o.op = .makeMap t none) : Z P w0 n l H o (fun r H' => MapOf (fun b => b = H.size) H' fk fv r ([] : List (κ × β)) ∧ Nw H H') := by
  intro a w hf ha
  refine ⟨.map (some w.heap.size), H.push (.map #[] 0), w.alloc (.map #[] 0), ?_, ha.alloc _, ⟨w.heap.size, #[], 0, rfl, by rw [ha.heap], ?_, stamped_empty 0, rfl⟩, Nw.pu _ _⟩
  · simp [execOp, ho, Instr.makeMap]
  · rw [ha.heap]; simp

theorem Y.mlen {x : Operand} {t kt et : TypeId} (h : MapOf G H fk fv v m) (ho : o.op = .call { callee := .builtin .len, args := #[x], argTypes := #[t] }) (ht : ∀ w, (underlying t).run P w = .ok (.map kt et) w) (hx : opv l x = some v) : Y P w0 n l H o (.int .i64 m.length) := by
  obtain ⟨r, es, clock, rfl, h2, h3⟩ := h.size
  intro ac w hf ha
  have h2' : w.heap[r]? = some (.map es clock) := by rw [ha.heap]; exact h2
  simp [execOp, ho, hf.eval hx, resolve, invoke, builtin, Builtin.len_, ht, goInt, MapKept.run_getObj_map h2', h3]

/-! new rows of a size -/
end
end Go.Proofs.YtabopjdbgkhacaaDoor.E
