/-
  Zeros put behind a row that is ours; values of slices of slices: no condition.
-/
import Derived.Test.YtfbfjhppppoilaaDoorOw
import Derived.Test.YtfbfjhppppoilaaDoorVar
import Derived.Test.YtfbfjhppppoilaaDoorRead
import Derived.Lib.AppendZerosOnto
namespace Go.Proofs.YtfbfjhppppoilaaDoor.E
open Go.Lib
set_option linter.unusedVariables false
set_option linter.unusedSimpArgs false
set_option linter.unusedSectionVars false
section
variable {P : Program} {w0 : World} {n : Nat} {l : FL} {H : Heap} {o : Oper} {α : Type} {f : α → List Value} {sz : Nat} {v : Value} {e : TypeId}
theorem zeroCells_rep' {z : Value} {z0 : α} (h : z.cells.toList = f z0) : ∀ m, (Builtin.zeroCells z.cells m).toList = (List.replicate m z0).flatMap f := by
  have hl : (f z0).length = z.cells.size := by rw [← h, Array.length_toList]
  have e0 : ∀ m, (Builtin.zeroCells z.cells m).toList = (List.range (m * z.cells.size)).map (fun i => z.cells[i % z.cells.size]!) := fun m => by
    unfold Builtin.zeroCells
    rw [Array.toList_map, Array.toList_range]
  have e1 : (List.range z.cells.size).map (fun i => z.cells[i % z.cells.size]!) = f z0 := by
    rw [← h]
    apply List.ext_getElem
    · simp
    · intro j h1 h2
      have hj : j < z.cells.size := by simpa using h1
      simp [Nat.mod_eq_of_lt hj, getElem!_pos z.cells j hj]
  intro m
  rw [e0]
  induction m with
  | zero => simp
  | succ m ih =>
    rw [Nat.succ_mul, Nat.add_comm, List.range_add, List.map_append, List.map_map, e1, List.replicate_succ, List.flatMap_cons, ← ih]
    congr 1
    apply List.map_congr_left
    intro j _
    simp
theorem Z.apzOwn {G : Nat → Prop} {xs : List α} {s x : Operand} {t tn : TypeId} {kn kq : IntKind} {bytes m : Nat} {zv : Value} (h : Own G e H f sz v xs) (z0 : α) (ho : o.op = .call { callee := .builtin .append, args := #[s, x], argTypes := #[t, tn] })
    (hinf : Inf P t e sz bytes) (htn : P.underlying tn = some (.int kn)) (hzv : ∀ w, (zeroValue e).run P w = .ok zv w) (hz0 : zv.cells.toList = f z0) (hs0 : 0 < sz) (hs : opv l s = some v) (hx : opv l x = some (.int kq (m : Nat)))
    (hb : (xs.length + m) * bytes ≤ 140737488355328) (hm : xs.length + m ≤ 9223372036854775807) :
    Z P w0 n l H o (fun r H' => Own (fun b => G b ∨ H.size ≤ b) e H' f sz r (xs ++ List.replicate m z0) ∧ Mo G H H') := by
  obtain ⟨ht, i, z, hi, hz, hsz, hby, hzs⟩ := hinf
  subst hsz
  subst hby
  intro a w hf ha
  have hzz : z = zv := by
    have h1 := hzv w
    simp [zeroValue, typeInfo, hi, hz] at h1
    exact h1
  subst hzz
  have hl : ((List.replicate m z0).flatMap f).length = m * i.size := by rw [length_flatMap h.cells, List.length_replicate]
  have h1 : ∀ c ∈ (List.replicate m z0).flatMap f, c.oneCell' = true := by
    intro c hc
    obtain ⟨y, hy, hc⟩ := List.mem_flatMap.1 hc
    exact h.one y c hc
  have hzc : Builtin.zeroCells z.cells m = ((List.replicate m z0).flatMap f).toArray := by apply Array.ext'; rw [zeroCells_rep' hz0]
  have hw : IntKind.i64.wrap (m : Int) = m := by rw [IntKind.wrap_i64]; omega
  have hneg : ¬ ((m : Int) < 0) := by omega
  have h48i : ¬ (281474976710656 < (m : Int) * (i.bytes : Int)) := by
    have : m * i.bytes ≤ (xs.length + m) * i.bytes := Nat.mul_le_mul_right _ (by omega)
    rw [← Int.natCast_mul]
    omega
  have grown : ∀ (old : Nat) (r : Value), old < xs.length + m → r = .slice (some ⟨w.heap.size, 0, none⟩) (xs.length + m) (grownCap w (xs.length + m) old e) → ∀ ob, ob = Obj.cells ((xs.flatMap f).toArray ++ Builtin.zeroCells z.cells m ++ Builtin.zeroCells z.cells (grownCap w (xs.length + m) old e - (xs.length + m))) e →
      At w0 (w.drew.alloc ob).heap (w.drew.alloc ob) ∧ Own (fun b => G b ∨ H.size ≤ b) e (w.drew.alloc ob).heap f i.size r (xs ++ List.replicate m z0) ∧ Mo G H (w.drew.alloc ob).heap := by
    rintro old r ho' rfl ob rfl
    have hge := grownCap_ge w (xs.length + m) old e
    have hcm : grownCap w (xs.length + m) old e ≤ maxLen := grownCap_le_maxLen w (xs.length + m) old e (by unfold maxLen; omega)
    have ha2 : At w0 H w.drew := ha.drew
    refine ⟨⟨rfl, ha.os, ha.tape, ha.output, ha2.dr⟩, ?_, ?_⟩
    · have := Own.new (e := e) (G' := fun b => G b ∨ H.size ≤ b) (w := w.drew) (z := z) (cap := grownCap w (xs.length + m) old e) (zs := xs ++ List.replicate m z0) h.cells h.one hzs (.inr (by rw [ha2.heap]; exact Nat.le_refl _)) (by simpa using hge) hcm
      rw [hzc]
      simpa using this
    · rw [(ha2.alloc _).heap]; exact Mo.push _ _ _
  rcases h.ex with ⟨rfl, rfl⟩ | ⟨g, cap', cur, rfl, hg, hh, r1, r2, r3, r4⟩
  · by_cases hm0 : m = 0
    · subst hm0
      refine ⟨.slice none 0 0, H, w, ?_, ha, by simpa using h.imp (fun b _ hg => .inl hg), Mo.refl _ _⟩
      simp [execOp, ho, resolve, invoke, builtin, hf.eval hs, hf.eval hx, Builtin.append_, run_underlying ht, run_underlying htn, sizeOf, typeInfo, hi, asInt, asIntOf, IntKind.wrap_i64]
    · simp only [List.length_nil, Nat.zero_add] at hb hm
      have hrun := run_append_nil_zeros (P := P) w t tn o.type e i z kq kn ht htn hi hz m (by omega) hs0 (by omega) (by omega)
      have := grown 0 _ (by simp; omega) rfl _ rfl
      simp only [List.length_nil, Nat.zero_add, List.flatMap_nil, List.nil_append, Array.empty_append] at this
      exact ⟨_, _, _, by simp [execOp, ho, resolve, invoke, builtin, hf.eval hs, hf.eval hx, hrun], this.1, this.2.1, this.2.2⟩
  · obtain ⟨fz, hh0, hsf⟩ := id hh
    have hg' : w.heap[g]? = some (.cells cur e fz) := by rw [ha.heap]; exact hh0
    by_cases hroom : xs.length + m ≤ cap'
    · have hfit : xs.length * i.size + ((List.replicate m z0).flatMap f).length ≤ cur.size := by rw [hl, r3, ← Nat.add_mul]; exact Nat.mul_le_mul_right _ hroom
      have hst := run_storeCells_soft P g (xs.length * i.size) e fz ((List.replicate m z0).flatMap f) 0 cur w hg' hsf (by simpa using hfit) h1
      simp only [Nat.add_zero] at hst
      have hrun : (Builtin.append_ #[t, tn] o.type #[.slice (some ⟨g, 0, none⟩) xs.length cap', .int kq m]).run P w = .ok (.slice (some ⟨g, 0, none⟩) (xs.length + m) cap') (w.setRow g (cur.toList.take (xs.length * i.size) ++ (List.replicate m z0).flatMap f ++ cur.toList.drop (xs.length * i.size + ((List.replicate m z0).flatMap f).length)).toArray) := by
        by_cases hm0 : m = 0
        · subst hm0
          simp only [List.replicate_zero, List.flatMap_nil] at hst
          simp [Builtin.append_, run_underlying ht, run_underlying htn, sizeOf, typeInfo, hi, asInt, asIntOf, IntKind.wrap_i64, r1, Addr.add_lit, hst]
        · have hns : ¬ (m * i.size = 0) := Nat.mul_ne_zero hm0 (by omega)
          simp [Builtin.append_, run_underlying ht, run_underlying htn, sizeOf, typeInfo, zeroValue, hi, hz, asInt, asIntOf, hw, hneg, h48i, hns, hroom, hzc, Addr.add_lit, hst]
      refine ⟨.slice (some ⟨g, 0, none⟩) (xs.length + m) cap', (w.setRow g (cur.toList.take (xs.length * i.size) ++ (List.replicate m z0).flatMap f ++ cur.toList.drop (xs.length * i.size + ((List.replicate m z0).flatMap f).length)).toArray).heap, w.setRow g (cur.toList.take (xs.length * i.size) ++ (List.replicate m z0).flatMap f ++ cur.toList.drop (xs.length * i.size + ((List.replicate m z0).flatMap f).length)).toArray, by simp [execOp, ho, resolve, invoke, builtin, hf.eval hs, hf.eval hx, hrun], ⟨rfl, ha.os, ha.tape, ha.output, ha.dr⟩, ⟨h.cells, h.one, .inr ⟨g, cap', _, by rw [List.length_append, List.length_replicate], .inl hg, ⟨fz, setRow_heap w g cur _ e _ hg', hsf.1, fun i hi => hsf.2 i (by simp only [List.size_toArray, List.length_append, List.length_take, List.length_drop, Array.length_toList] at hi; omega)⟩, by rw [List.length_append, List.length_replicate]; exact hroom, r2, ?_, ?_⟩⟩, ?_⟩
      · simp only [List.size_toArray, List.length_append, List.length_take, List.length_drop, Array.length_toList]
        omega
      · have hlx := length_flatMap h.cells xs
        rw [r4, ← List.flatMap_append, List.length_append, Nat.add_mul, List.length_replicate, ← hl, ← hlx, ← List.length_append, ← List.flatMap_append]
        exact List.take_left
      · exact (setRow_mo ha g _).weaken (fun b _ e => by rw [e]; exact hg)
    · have holds : ∀ j c, (xs.flatMap f)[j]? = some c → w.drew.cell? ((⟨g, 0, none⟩ : Addr).add j) = some c := h.rd.pts h.cells rfl ha.drew
      have hold : (Builtin.firstCells i.size xs.length (.slice (some ⟨g, 0, none⟩) xs.length cap')).run P w.drew = .ok (xs.flatMap f).toArray w.drew := run_firstCells_some (P := P) w.drew i.size xs.length ⟨g, 0, none⟩ xs.length cap' _ (length_flatMap h.cells xs) holds
      have hrun := Lib.run_append_grow_zeros (P := P) w t tn o.type e i z kq kn ht htn hi hz (some ⟨g, 0, none⟩) xs.length cap' (xs.flatMap f) hold m (by omega) hs0 (by omega) (by omega) (by
        have : m * i.bytes ≤ (xs.length + m) * i.bytes := Nat.mul_le_mul_right _ (by omega)
        omega) (growslice_fits (by omega) hb)
      have := grown cap' _ (by omega) rfl _ rfl
      exact ⟨_, _, _, by simp [execOp, ho, resolve, invoke, builtin, hf.eval hs, hf.eval hx, hrun], this.1, this.2.1, this.2.2⟩
theorem Z.apz {k : Nat} {xs : List α} {s x : Operand} {t tn : TypeId} {kn kq : IntKind} {bytes m : Nat} {zv : Value} (h : Ow k e H f sz v xs) (z0 : α) (ho : o.op = .call { callee := .builtin .append, args := #[s, x], argTypes := #[t, tn] })
    (hinf : Inf P t e sz bytes) (htn : P.underlying tn = some (.int kn)) (hzv : ∀ w, (zeroValue e).run P w = .ok zv w) (hz0 : zv.cells.toList = f z0) (hs0 : 0 < sz) (hs : opv l s = some v) (hx : opv l x = some (.int kq (m : Nat)))
    (hb : (xs.length + m) * bytes ≤ 140737488355328) (hm : xs.length + m ≤ 9223372036854775807) :
    Z P w0 n l H o (fun r H' => ∃ k', Ow k' e H' f sz r (xs ++ List.replicate m z0) ∧ (k' = 0 ∨ k' = k ∨ H.size < k') ∧ Mo (fun b => b + 1 = k) H H') :=
  (Z.apzOwn h.own z0 ho hinf htn hzv hz0 hs0 hs hx hb hm).mono fun r H' ⟨h1, h2⟩ => by
    obtain ⟨k', h3, h4⟩ := Ow.of h1
    refine ⟨k', h3, ?_, h2⟩
    rcases h4 with rfl | ⟨g, rfl, h5⟩
    · exact .inl rfl
    · omega
theorem Y.sliceV' {x : Operand} {lo hi : Option Operand} {t e : TypeId} {a : Option Addr} {len cap sz : Nat} (i j : Nat) (ho : o.op = .slice t x lo hi none) (ht : ∀ w, (underlying t).run P w = .ok (.slice e) w) (hs : ∀ w, (sizeOf e).run P w = .ok sz w) (hx : opv l x = some (.slice a len cap))
    (hlo : lo = none ∧ i = 0 ∨ ∃ p k iv, lo = some p ∧ opv l p = some (.int k iv) ∧ iv = (i : Int)) (hhi : hi = none ∧ j = len ∨ ∃ p k iv, hi = some p ∧ opv l p = some (.int k iv) ∧ iv = (j : Int)) (hij : i ≤ j) (hj : j ≤ cap) :
    Y P w0 n l H o (.slice (if cap = i then a else a.map (·.add (i * sz))) (j - i) (cap - i)) := by
  intro ac w hf ha
  have e1 : ∀ w, (Instr.sliceBounds true len cap (lo.map ac.eval) (hi.map ac.eval) none).run P w = .ok (i, j, cap) w := by
    intro w
    rcases hlo with ⟨rfl, rfl⟩ | ⟨p, k, iv, rfl, h1, rfl⟩ <;> rcases hhi with ⟨rfl, rfl⟩ | ⟨p2, k2, iv2, rfl, h3, rfl⟩ <;>
      simp [Instr.sliceBounds, Instr.sliceBound, asIntOf, hf.eval, *]
  have hu : ∀ w, (underlying t).run P w = .ok (.slice e) w := ht
  simp [execOp, ho, hf.eval hx, Instr.sliceAt, Instr.slice, hu, hs, e1]
theorem Y.capV' {x : Operand} {t e : TypeId} {a : Option Addr} {len cap : Nat} (ho : o.op = .call { callee := .builtin .cap, args := #[x], argTypes := #[t] }) (ht : ∀ w, (underlying t).run P w = .ok (.slice e) w) (hx : opv l x = some (.slice a len cap)) : Y P w0 n l H o (.int .i64 cap) := by
  intro ac w hf ha
  simp [execOp, ho, hf.eval hx, resolve, invoke, builtin, Builtin.cap_, ht, goInt]
end
end Go.Proofs.YtfbfjhppppoilaaDoor.E
