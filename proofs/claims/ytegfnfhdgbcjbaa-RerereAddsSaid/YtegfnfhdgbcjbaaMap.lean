/-
  Rules for maps whose keys are texts, numbers or bools: no condition.
-/
import Derived.Test.YtegfnfhdgbcjbaaOwn
import Derived.MapKept
namespace Go.Proofs.Ytegfnfhdgbcjbaa.E
set_option linter.unusedSectionVars false
open Go.MapKept

/-- a map's block reads as the list m of keys and values, in the order in which they came -/
structure MapOf {κ β : Type} (G : Nat → Prop) (H : Heap) (fk : κ → Value) (fv : β → Value) (v : Value) (m : List (κ × β)) : Prop where
  ex : ∃ r es clock, v = .map (some r) ∧ G r ∧ H[r]? = some (.map es clock) ∧ Stamped es clock ∧ es.toList.map (fun e => (e.key, e.val)) = m.map (fun p => (fk p.1, fv p.2))

section
variable {κ β : Type} {G : Nat → Prop} {H H' : Heap} {fk : κ → Value} {fv : β → Value} {v : Value} {m : List (κ × β)}
theorem MapOf.up {S : Nat → Prop} (h : MapOf G H fk fv v m) (s : Mo S H H') (hS : ∀ b, b < H.size → G b → ¬ S b) : MapOf G H' fk fv v m := by
  obtain ⟨r, es, clock, h1, h2, h3, h4⟩ := h.ex
  have hlt := (Array.getElem?_eq_some_iff.1 h3).1
  exact ⟨r, es, clock, h1, h2, by rw [s.same r hlt (hS r hlt h2)]; exact h3, h4⟩
theorem MapOf.nw (h : MapOf G H fk fv v m) (s : Nw H H') : MapOf G H' fk fv v m := h.up s (fun _ _ _ e => e)
theorem MapOf.imp {G' : Nat → Prop} (h : MapOf G H fk fv v m) (hG : ∀ b, b < H.size → G b → G' b) : MapOf G' H fk fv v m := by
  obtain ⟨r, es, clock, h1, h2, h3, h4⟩ := h.ex
  exact ⟨r, es, clock, h1, hG r (Array.getElem?_eq_some_iff.1 h3).1 h2, h3, h4⟩
theorem MapOf.size (h : MapOf G H fk fv v m) : ∃ r es clock, v = .map (some r) ∧ H[r]? = some (.map es clock) ∧ es.size = m.length := by
  obtain ⟨r, es, clock, h1, h2, h3, h4, h5⟩ := h.ex
  refine ⟨r, es, clock, h1, h3, ?_⟩
  have := congrArg List.length h5
  simpa using this
theorem MapOf.keys (h : MapOf G H fk fv v m) {r : Nat} {es : Array MapEntry} {clock : Nat} (hv : v = .map (some r)) (hb : H[r]? = some (.map es clock)) : es.toList.map (fun e => (e.key, e.val)) = m.map (fun p => (fk p.1, fv p.2)) ∧ Stamped es clock := by
  obtain ⟨r', es', clock', h1, h2, h3, h4, h5⟩ := h.ex
  rw [hv] at h1
  simp only [Value.map.injEq, Option.some.injEq] at h1
  subst h1
  rw [hb] at h3
  simp only [Option.some.injEq, Obj.map.injEq] at h3
  obtain ⟨rfl, rfl⟩ := h3
  exact ⟨h5, h4⟩
end

theorem MapOf.lt {κ β : Type} {G : Nat → Prop} {H : Heap} {fk : κ → Value} {fv : β → Value} {v : Value} {m : List (κ × β)} (h : MapOf G H fk fv v m) : MapOf (fun b => b = blk v ∧ b < H.size) H fk fv v m := by
  obtain ⟨r, es, clock, h1, h2, h3, h4⟩ := h.ex
  exact ⟨r, es, clock, h1, ⟨by rw [h1]; rfl, (Array.getElem?_eq_some_iff.1 h3).1⟩, h3, h4⟩
section
variable {P : Program} {w0 : World} {n : Nat} {l : FL} {H : Heap} {o : Oper}
variable {κ β : Type} [DecidableEq κ] {G : Nat → Prop} {fk : κ → Value} {fv : β → Value} {v : Value} {m : List (κ × β)} {d : TypeDesc}

/-! new rows of a size -/
theorem Z.makeSlice {α : Type} {f : α → List Value} {sz bytes : Nat} {t e : TypeId} {x c : Operand} {kl kc : IntKind} {lv : Int} {z : Value} (k : Nat) (z0 : α) (ho : o.op = .makeSlice t x c) (hinf : Inf P t e sz bytes) (hz : ∀ w, (zeroValue e).run P w = .ok z w) (hz0 : f z0 = z.cells.toList)
    (hc : ∀ x, (f x).length = sz) (h1 : ∀ x, ∀ u ∈ f x, u.oneCell' = true) (hx : opv l x = some (.int kl lv)) (hcc : opv l c = some (.int kc lv)) (hk : lv = k) (hb : (bytes : Int) * k ≤ 281474976710656) (hk2 : k ≤ 9223372036854775807) :
    Z P w0 n l H o (fun r H' => Own (fun b => b = H.size) e H' f sz r (List.replicate k z0) ∧ Nw H H' ∧ ∃ ob, H' = H.push ob) := by
  obtain ⟨ht, i, z', hi, hz', hsz, hby, hzs⟩ := hinf
  intro ac w hf ha
  subst hk
  have hzz : z' = z := by
    have h1 := hz w
    simp [zeroValue, typeInfo, hi, hz'] at h1
    exact h1
  subst hzz
  have hr := run_make (P := P) w t e i z' ht hi hz' kl kc (k : Int) k (by omega) (by omega) (by rw [hby]; exact hb) (by omega)
  simp only [Int.toNat_natCast, hsz] at hr
  refine ⟨.slice (some ⟨w.heap.size, 0, none⟩) k k, H.push (.cells (madeCells z'.cells (k * sz)) e), w.alloc (.cells (madeCells z'.cells (k * sz)) e), ?_, ha.alloc _, ⟨hc, h1, .inr ⟨w.heap.size, k, madeCells z'.cells (k * sz), by simp, ha.heap ▸ rfl, .of (by rw [ha.heap]; simp), by simp, by unfold maxLen; omega, size_madeCells _ _, ?_⟩⟩, Nw.pu _ _, _, rfl⟩
  · simp [execOp, ho, hf.eval hx, hf.eval hcc, hr]
  · rw [List.length_replicate, List.take_of_length_le (by simp [size_madeCells])]
    apply List.ext_getElem?
    intro q
    by_cases hq : q < k * sz
    · have hszp : 0 < sz := by rcases Nat.eq_zero_or_pos sz with h | h; · subst h; simp at hq
                               · exact h
      have hdiv : q / sz < k := Nat.div_lt_of_lt_mul (by rw [Nat.mul_comm]; exact hq)
      have hmod := Nat.mod_lt q hszp
      have hg := get_flatMap hc (List.replicate k z0) (q / sz) (q % sz) z0 (z'.cells[q % sz]'(by rw [hzs]; exact hmod)) (by simp [hdiv]) (by rw [hz0]; simp [hzs, hmod])
      have hqq : q / sz * sz + q % sz = q := by rw [Nat.mul_comm]; exact Nat.div_add_mod q sz
      rw [hqq] at hg
      rw [hg]
      simp only [madeCells, hzs, Array.getElem?_toList]
      rw [Array.getElem?_map, Array.getElem?_range, if_pos hq]
      simp [hzs, hmod]
    · rw [List.getElem?_eq_none (by simp [size_madeCells]; omega), List.getElem?_eq_none (by rw [length_flatMap hc, List.length_replicate]; omega)]
end
end Go.Proofs.Ytegfnfhdgbcjbaa.E
