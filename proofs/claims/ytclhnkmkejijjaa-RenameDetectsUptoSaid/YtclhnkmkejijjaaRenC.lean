/-
  One taken out of a row, in place.
-/
import Derived.Test.YtclhnkmkejijjaaRenB
namespace Go.Proofs.Ytclhnkmkejijjaa.RenC
open Go.Proofs.Ytclhnkmkejijjaa.E Go.RowKit Go.Proofs.Ytclhnkmkejijjaa.RenA Go.Proofs.Ytclhnkmkejijjaa.RenB
set_option maxRecDepth 20000
set_option linter.unusedVariables false
set_option linter.unusedSimpArgs false
set_option linter.unusedSectionVars false
set_option maxRecDepth 100000 in
theorem inf26 : Inf Try.prog 26 35 3 48 := ⟨Try.underlying26, _, _, rfl, rfl, rfl, rfl, rfl⟩
section
variable {P : Program} {w0 : World} {n : Nat} {l : FL} {H : Heap} {o : Oper}
/-- a slice of a slice, as a value -/
theorem Y.sliceV {x : Operand} {lo hi : Option Operand} {t e : TypeId} {a : Option Addr} {len cap sz : Nat} (i j : Nat) (ho : o.op = .slice t x lo hi none) (ht : ∀ w, (underlying t).run P w = .ok (.slice e) w) (hs : ∀ w, (sizeOf e).run P w = .ok sz w) (hx : opv l x = some (.slice a len cap))
    (hlo : lo = none ∧ i = 0 ∨ ∃ p k iv, lo = some p ∧ opv l p = some (.int k iv) ∧ iv = (i : Int)) (hhi : hi = none ∧ j = len ∨ ∃ p k iv, hi = some p ∧ opv l p = some (.int k iv) ∧ iv = (j : Int)) (hij : i ≤ j) (hj : j ≤ cap) :
    Y P w0 n l H o (.slice (if cap = i then a else a.map (·.add (i * sz))) (j - i) (cap - i)) := by
  intro ac w hf ha
  have e1 : ∀ w, (Instr.sliceBounds true len cap (lo.map ac.eval) (hi.map ac.eval) none).run P w = .ok (i, j, cap) w := by
    intro w
    rcases hlo with ⟨rfl, rfl⟩ | ⟨p, k, iv, rfl, h1, rfl⟩ <;> rcases hhi with ⟨rfl, rfl⟩ | ⟨p2, k2, iv2, rfl, h3, rfl⟩ <;>
      simp [Instr.sliceBounds, Instr.sliceBound, asIntOf, hf.eval, *]
  have hu : ∀ w, (underlying t).run P w = .ok (.slice e) w := ht
  simp [execOp, ho, hf.eval hx, Instr.sliceAt, Instr.slice, hu, hs, e1]
/-- an owned row's cells -/
theorem Ow.view {α : Type} {k : Nat} {e : TypeId} {f : α → List Value} {sz : Nat} {v : Value} {xs : List α} (h : Ow k e H f sz v xs) (hne : xs ≠ []) : ∃ g cap cs, v = .slice (some ⟨g, 0, none⟩) xs.length cap ∧ k = g + 1 ∧ Var e H g cs ∧ xs.length ≤ cap ∧ cap ≤ maxLen ∧ cs.length = cap * sz ∧ cs.take (xs.length * sz) = xs.flatMap f := by
  rcases h.own.ex with ⟨_, hx⟩ | ⟨g, cap, cur, hv, hg, hr, h1, h2, h3, h4⟩
  · exact absurd hx hne
  · exact ⟨g, cap, cur.toList, hv, hg.symm, ⟨hr⟩, h1, h2, by rw [Array.length_toList]; exact h3, h4⟩
theorem Ow.back {α : Type} {g : Nat} {e : TypeId} {f : α → List Value} {sz cap : Nat} {cs : List Value} {xs : List α} (hc : ∀ x, (f x).length = sz) (h1 : ∀ x, ∀ u ∈ f x, u.oneCell' = true) (hv : Var e H g cs) (hl : xs.length ≤ cap) (hm : cap ≤ maxLen) (hs : cs.length = cap * sz) (ht : cs.take (xs.length * sz) = xs.flatMap f) : Ow (g + 1) e H f sz (.slice (some ⟨g, 0, none⟩) xs.length cap) xs :=
  ⟨⟨hc, h1, .inr ⟨g, cap, cs.toArray, rfl, rfl, hv.row, hl, hm, by simpa using hs, by simpa using ht⟩⟩, hv.lt⟩
end
section
variable {P : Program} {w0 : World} {n : Nat} {l : FL} {H : Heap} {o : Oper}
/-- the front, as a value -/
theorem Y.sl0 {x : Operand} {hi : Option Operand} {t e : TypeId} {g len cap sz : Nat} (j : Nat) (ho : o.op = .slice t x none hi none) (ht : ∀ w, (underlying t).run P w = .ok (.slice e) w) (hs : ∀ w, (sizeOf e).run P w = .ok sz w) (hx : opv l x = some (.slice (some ⟨g, 0, none⟩) len cap))
    (hhi : hi = none ∧ j = len ∨ ∃ p k iv, hi = some p ∧ opv l p = some (.int k iv) ∧ iv = (j : Int)) (hj : j ≤ cap) : Y P w0 n l H o (.slice (some ⟨g, 0, none⟩) j cap) := by
  have := Y.sliceV (P := P) (w0 := w0) (n := n) (H := H) 0 j ho ht hs hx (.inl ⟨rfl, rfl⟩) hhi (Nat.zero_le _) hj
  simpa [add_eq] using this
end


section
variable {P : Program} {w0 : World} {n : Nat} {l : FL} {H : Heap} {o : Oper} {α : Type} {k : Nat} {e : TypeId} {f : α → List Value} {sz : Nat} {v : Value} {xs ys : List α}
theorem Ow.view2 {g cap : Nat} (h : Ow k e H f sz v xs) (hve : v = .slice (some ⟨g, 0, none⟩) xs.length cap) : ∃ cs, k = g + 1 ∧ Var e H g cs ∧ xs.length ≤ cap ∧ cap ≤ maxLen ∧ cs.length = cap * sz ∧ cs.take (xs.length * sz) = xs.flatMap f := by
  rcases h.own.ex with ⟨hx, _⟩ | ⟨g2, cap2, cur, hv, hg, hr, h1, h2, h3, h4⟩
  · rw [hve] at hx; cases hx
  · rw [hve] at hv
    simp only [Value.slice.injEq, Option.some.injEq, Addr.mk.injEq, true_and, and_true] at hv
    obtain ⟨rfl, rfl⟩ := hv
    exact ⟨cur.toList, hg.symm, ⟨hr⟩, h1, h2, by rw [Array.length_toList]; exact h3, h4⟩
/-- a slice of a slice, both ends given -/
theorem Y.sl2 {x p q : Operand} {t : TypeId} {g len cap : Nat} {k1 k2 : IntKind} {iv jv : Int} (i j : Nat) (ho : o.op = .slice t x (some p) (some q) none) (ht : ∀ w, (underlying t).run P w = .ok (.slice e) w) (hs : ∀ w, (sizeOf e).run P w = .ok sz w) (hx : opv l x = some (.slice (some ⟨g, 0, none⟩) len cap))
    (hlo : opv l p = some (.int k1 iv)) (hiv : iv = (i : Int)) (hhi : opv l q = some (.int k2 jv)) (hjv : jv = (j : Int)) (hij : i ≤ j) (hi : i < cap) (hj : j ≤ cap) : Y P w0 n l H o (.slice (some ⟨g, i * sz, none⟩) (j - i) (cap - i)) := by
  have := Y.sliceV (P := P) (w0 := w0) (n := n) (H := H) i j ho ht hs hx (.inr ⟨_, _, _, rfl, hlo, hiv⟩) (.inr ⟨_, _, _, rfl, hhi, hjv⟩) hij hj
  rw [if_neg (by omega)] at this
  simpa [add_eq] using this
/-- elements put behind the front of a row, in place -/
theorem Z.apndIn {F : Nat → Prop} {s x : Operand} {t : TypeId} {u : Value} {bytes g cap i m : Nat} (h : Ow k e H f sz v xs) (hve : v = .slice (some ⟨g, 0, none⟩) xs.length cap) (hr : Rd F H f sz u ys) (ho : o.op = .call { callee := .builtin .append, args := #[s, x], argTypes := #[t, t] })
    (hinf : Inf P t e sz bytes) (hs : opv l s = some (.slice (some ⟨g, 0, none⟩) i cap)) (hx : opv l x = some u) (hi : i ≤ xs.length) (hm : m = i + ys.length) (hroom : m ≤ cap) (zs : List α) (hz : zs = xs.take i ++ ys) :
    Z P w0 n l H o (fun r H' => r = .slice (some ⟨g, 0, none⟩) m cap ∧ Ow k e H' f sz (.slice (some ⟨g, 0, none⟩) m cap) zs ∧ Mo (fun b => b + 1 = k) H H') := by
  obtain ⟨ht, ii, z, hi2, hz2, hsz, hby, hzs⟩ := hinf
  subst hsz
  subst hm
  subst hz
  obtain ⟨cs, hk, hv, h1, h2, h3, h4⟩ := Ow.view2 h hve
  have hc := h.own.cells
  have hlz : (xs.take i ++ ys).length = i + ys.length := by rw [List.length_append, List.length_take]; omega
  have hA : cs.take (i * ii.size) = (xs.take i).flatMap f := by
    have hm : i * ii.size ≤ xs.length * ii.size := Nat.mul_le_mul_right _ hi
    have := congrArg (List.take (i * ii.size)) h4
    rw [List.take_take, Nat.min_eq_left hm] at this
    rw [this]
    conv => lhs; rw [← List.take_append_drop i xs, List.flatMap_append]
    rw [List.take_left' (by rw [length_flatMap hc, List.length_take, Nat.min_eq_left hi])]
  have hroom2 : (i + ys.length) * ii.size ≤ cap * ii.size := Nat.mul_le_mul_right _ hroom
  rw [Nat.add_mul] at hroom2
  have hl : (ys.flatMap f).length = ys.length * ii.size := length_flatMap hc ys
  intro a w hf ha
  obtain ⟨ad, cap2, rfl, q1, q2, q3⟩ := id hr.ex
  by_cases hy : ys = []
  · subst hy
    refine ⟨.slice (some ⟨g, 0, none⟩) i cap, H, w, ?_, ha, by simp, ?_, Mo.refl _ _⟩
    · have hroom' : i ≤ cap := by simpa using hroom
      cases ad <;> simp [execOp, ho, resolve, invoke, builtin, hf.eval hs, hf.eval hx, Builtin.append_, run_underlying ht, sizeOf, typeInfo, hi2, Builtin.lenOf, Builtin.firstCells, storeCells, loadCells, loadCellsFrom, hroom']
    · rw [hk]
      have hb := Ow.back (xs := xs.take i ++ []) hc h.own.one hv (by rw [hlz]; exact hroom) h2 h3 (by rw [hlz]; simpa using hA)
      rw [hlz] at hb
      exact hb
  · obtain ⟨ad', e1, _⟩ := q3 hy
    subst e1
    have hnews := hr.pts hc rfl ha
    obtain ⟨fz, hh0, hsf⟩ := id hv.row
    have hg' : w.heap[g]? = some (.cells cs.toArray e fz) := by rw [ha.heap]; exact hh0
    have h1c : ∀ c ∈ ys.flatMap f, c.oneCell' = true := by
      intro c hc
      obtain ⟨y, hy, hc⟩ := List.mem_flatMap.1 hc
      exact h.own.one y c hc
    have hrun := run_append_soft (P := P) (w := w) t o.type e ii ht hi2 g i cap cs.toArray fz hg' hsf ad' ys.length cap2 (ys.flatMap f) hl hnews h1c hroom (by simp only [List.size_toArray]; omega)
    refine ⟨.slice (some ⟨g, 0, none⟩) (i + ys.length) cap, _, w.setRow g (cs.toArray.toList.take (i * ii.size) ++ ys.flatMap f ++ cs.toArray.toList.drop (i * ii.size + (ys.flatMap f).length)).toArray, by simp [execOp, ho, resolve, invoke, builtin, hf.eval hs, hf.eval hx, hrun], ha.row _ _, rfl, ?_, (setRow_mo ha _ _).weaken (fun b _ e => by omega)⟩
    have hsl : (splice cs (i * ii.size) (ys.flatMap f)).length = cs.length := splice_length (by omega)
    have hv' : Var e (w.setRow g (splice cs (i * ii.size) (ys.flatMap f)).toArray).heap g (splice cs (i * ii.size) (ys.flatMap f)) := ⟨setRow_row ha hv.row (by simp [hsl])⟩
    have hb := Ow.back (xs := xs.take i ++ ys) hc h.own.one hv' (by rw [hlz]; exact hroom) h2 (by rw [hsl, h3]) (by
      rw [hlz, splice, hA, ← List.flatMap_append, List.take_left' (by rw [length_flatMap hc, hlz])])
    rw [hlz] at hb
    rw [hk]
    exact hb
/-- what stands behind a row's elements is laid to zero -/
theorem Z.clearT {x : Operand} {t : TypeId} {bytes g cap m c2 : Nat} (h : Ow k e H f sz v xs) (hve : v = .slice (some ⟨g, 0, none⟩) xs.length cap) (ho : o.op = .call { callee := .builtin .clear, args := #[x], argTypes := #[t] })
    (hinf : Inf P t e sz bytes) (hz1 : ∀ z i, P.info? e = some i → i.zero = some z → ∀ u ∈ z.cells.toList, u.oneCell' = true) (hx : opv l x = some (.slice (some ⟨g, xs.length * sz, none⟩) m c2)) (hm : 0 < m) (hroom : xs.length + m ≤ cap) :
    Z P w0 n l H o (fun r H' => r = .tuple #[] ∧ Ow k e H' f sz v xs ∧ Mo (fun b => b + 1 = k) H H') := by
  obtain ⟨ht, ii, z, hi2, hz2, hsz, hby, hzs⟩ := hinf
  subst hsz
  obtain ⟨cs, hk, hv, h1, h2, h3, h4⟩ := Ow.view2 h hve
  have hc := h.own.cells
  obtain ⟨fz, hh0, hsf⟩ := id hv.row
  intro a w hf ha
  have hg' : w.heap[g]? = some (.cells cs.toArray e fz) := by rw [ha.heap]; exact hh0
  have hroom2 : (xs.length + m) * ii.size ≤ cap * ii.size := Nat.mul_le_mul_right _ hroom
  rw [Nat.add_mul] at hroom2
  have hzl : (Builtin.zeroCells z.cells m).toList.length = m * ii.size := by rw [Array.length_toList, size_zeroCells, hzs]
  have hz1c : ∀ u ∈ (Builtin.zeroCells z.cells m).toList, u.oneCell' = true := by
    intro u hu
    unfold Builtin.zeroCells at hu
    rw [Array.toList_map, List.mem_map] at hu
    obtain ⟨q, hq, rfl⟩ := hu
    have hq2 : q < m * z.cells.size := by simpa using hq
    have hpos : 0 < z.cells.size := by rcases Nat.eq_zero_or_pos z.cells.size with h0 | h0; rw [h0] at hq2; simp at hq2; exact h0
    have hlt := Nat.mod_lt q hpos
    rw [getElem!_pos z.cells _ hlt]
    exact hz1 z ii hi2 hz2 _ (by simp)
  have hst := run_storeCells_soft P g (xs.length * ii.size) e fz (Builtin.zeroCells z.cells m).toList 0 cs.toArray w hg' hsf (by rw [hzl]; simp; omega) hz1c
  simp only [Nat.add_zero] at hst
  obtain ⟨m', rfl⟩ : ∃ m', m = m' + 1 := ⟨m - 1, by omega⟩
  refine ⟨.tuple #[], _, w.setRow g (splice cs (xs.length * ii.size) (Builtin.zeroCells z.cells (m' + 1)).toList).toArray, ?_, ha.row _ _, rfl, ?_, (setRow_mo ha _ _).weaken (fun b _ e => by omega)⟩
  · have hz0 : (zeroValue e).run P w = .ok z w := by simp [zeroValue, typeInfo, hi2, hz2]
    simp [execOp, ho, hf.eval hx, resolve, invoke, builtin, Builtin.clear_, run_underlying ht, hz0, hst, splice]
  · have hsl : (splice cs (xs.length * ii.size) (Builtin.zeroCells z.cells (m' + 1)).toList).length = cs.length := splice_length (by omega)
    have hv' : Var e (w.setRow g (splice cs (xs.length * ii.size) (Builtin.zeroCells z.cells (m' + 1)).toList).toArray).heap g (splice cs (xs.length * ii.size) (Builtin.zeroCells z.cells (m' + 1)).toList) := ⟨setRow_row ha hv.row (by simp [hsl])⟩
    rw [hk, hve]
    have hle : xs.length * ii.size ≤ cs.length := by rw [h3]; exact Nat.mul_le_mul_right _ h1
    refine Ow.back hc h.own.one hv' h1 h2 (by rw [hsl, h3]) ?_
    rw [splice, List.append_assoc, List.take_append_of_le_length (by rw [List.length_take]; omega), List.take_take, Nat.min_self, h4]
end
theorem erase_split {α : Type} (l : List α) (i : Nat) : l.take i ++ (l.take l.length).drop (i + 1) = l.eraseIdx i := by
  rw [List.take_length, List.eraseIdx_eq_take_drop_succ]

theorem delete_ct (k : Nat) (v : Value) (l : List Fl) (i : Nat) (w0 : World) (H0 : Heap)
    (ow : Ow k 35 H0 fFl 3 v l) (hil : i < l.length) :
    Ct Try.prog w0 44 #[v, .int .i64 i, .int .i64 ((i : Int) + 1)] H0 (fun r H2 => ∃ vr : Value, ∃ k2 : Nat, r = vr ∧ (Ow k2 35 H2 fFl 3 vr (l.eraseIdx i)) ∧ (Nx k H0.size k2) ∧ Mo (Ms [k]) H0 H2) := by
  refine Ct.enter (args := [v, .int .i64 i, .int .i64 ((i : Int) + 1)]) Try.func44 rfl rfl rfl ?_
  intro Q0 hret
  have hm0 : Mo (Ms [k]) H0 H0 := Mo.refl _ _
  have nx_hm0_ow := Nx.refl k H0.size
  have hle_ow := ow.le
  have hlm := ow.len
  have hin := hil
  have hne : l ≠ [] := by intro e; rw [e] at hin; simp at hin
  obtain ⟨g, cap, cs, hve, hkg, hvg, hcap, hcm, hcl, _⟩ := Ow.view ow hne
  unfold maxLen at hcm
  subst hve
  have hel : (l.eraseIdx i).length = l.length - 1 := List.length_eraseIdx_of_lt hil
  refine CW.seq (fun K1 hK1 hE1 => ?_)
  refine CW.region ?_
  refine LR.v (Y.assign rfl rfl) (Wd.u rfl) rfl rfl ?_
  refine LR.nil ?_
  refine hK1 _ _ ?_
  refine CW.seq (fun K2 hK2 hE2 => ?_)
  refine CW.region ?_
  refine LR.v (Y.move rfl rfl) (Wd.u rfl) rfl rfl ?_
  refine LR.v (Y.move rfl rfl) (Wd.u rfl) rfl rfl ?_
  refine LR.v (Y.move rfl rfl) (Wd.u rfl) rfl rfl ?_
  refine LR.v (Y.move rfl rfl) (Wd.u rfl) rfl rfl ?_
  refine LR.v (Y.len ow.rd rfl Try.runUnderlying26 rfl) (Wd.u rfl) rfl rfl ?_
  refine LR.e (g := fun v => v) (Y.slice3 ow.rd (i) (i + 1) (l.length) rfl Try.runUnderlying26 Try.sizeOf35 rfl (.inr ⟨_, _, _, rfl, rfl, by first | rfl | omega⟩) ⟨_, _, _, rfl, rfl, by first | rfl | omega⟩ ⟨_, _, _, rfl, rfl, by first | rfl | omega⟩ (by omega) (by omega) (by omega)) (Wd.u rfl) rfl rfl (fun v13 rd13 => ?_)
  have bf_rd13 := BF.of ow.le
  refine LR.nil ?_
  refine hK2 _ _ ?_
  refine CW.seq (fun K3 hK3 hE3 => ?_)
  refine CW.seq (fun K4 hK4 hE4 => ?_)
  refine CW.region ?_
  refine LR.v (Y.move rfl rfl) (Wd.u rfl) rfl rfl ?_
  refine LR.v (Y.move rfl rfl) (Wd.u rfl) rfl rfl ?_
  refine LR.v ((Y.eql rfl rfl rfl).isF (by omega)) (Wd.u rfl) rfl rfl ?_
  refine LR.nil ?_
  refine hK4 _ _ ?_
  refine CW.cond_f rfl ?_
  refine CW.skip ?_
  refine hK3 _ _ ?_
  refine CW.seq (fun K5 hK5 hE5 => ?_)
  refine CW.region ?_
  refine LR.v (Y.move rfl rfl) (Wd.u rfl) rfl rfl ?_
  refine LR.v (Y.len ow.rd rfl Try.runUnderlying26 rfl) (Wd.u rfl) rfl rfl ?_
  refine LR.v (Y.assign rfl rfl) (Wd.u rfl) rfl rfl ?_
  refine LR.nil ?_
  refine hK5 _ _ ?_
  refine CW.seq (fun K6 hK6 hE6 => ?_)
  refine CW.region_tail 6 rfl (by kernel_rfl) (fun T5 hT5 => ?_)
  refine LR.v (Y.move rfl rfl) (Wd.u rfl) rfl rfl ?_
  refine LR.v (Y.move rfl rfl) (Wd.u rfl) rfl rfl ?_
  refine LR.v (Y.sl0 i rfl Try.runUnderlying26 Try.sizeOf35 rfl (.inr ⟨_, _, _, rfl, rfl, rfl⟩) (by omega)) (Wd.u rfl) rfl rfl ?_
  refine LR.v (Y.move rfl rfl) (Wd.u rfl) rfl rfl ?_
  refine LR.v (Y.move rfl rfl) (Wd.u rfl) rfl rfl ?_
  refine LR.e (g := fun v => v) (Y.slice ow.rd (i + 1) (l.length) rfl Try.runUnderlying26 Try.sizeOf35 rfl (.inr ⟨_, _, _, rfl, rfl, by first | rfl | omega⟩) (.inl ⟨rfl, rfl⟩) (by omega) (by omega)) (Wd.u rfl) rfl rfl (fun v25 rd25 => ?_)
  have bf_rd25 := BF.of ow.le
  refine LR.nil (hT5 _ ?_)
  refine LR.z (Z.apndIn (i := i) (m := l.length - 1) ow rfl rd25 rfl inf26 rfl rfl (by omega) (by rw [List.length_drop, List.length_take]; omega) (by omega) _ (erase_split l i).symm) (Wd.u rfl) rfl rfl (fun v26 H26 r26 => ?_)
  obtain ⟨rfl, ow, hs26⟩ := r26
  replace hs26 := hs26.md
  replace hm0 := hm0.trL hs26 (MIL.cons (MI.app (MI.root (by simp)) (nx_hm0_ow) (Nat.le_refl _)) MIL.nil)
  have hz1 := hs26.size
  refine LR.v (Y.assign rfl rfl) (Wd.u rfl) rfl rfl ?_
  refine LR.nil ?_
  refine hK6 _ _ ?_
  refine CW.seq (fun K7 hK7 hE7 => ?_)
  refine CW.region ?_
  refine LR.v (Y.move rfl rfl) (Wd.u rfl) rfl rfl ?_
  refine LR.v (Y.move rfl rfl) (Wd.u rfl) rfl rfl ?_
  refine LR.v (Y.len ow.rd rfl Try.runUnderlying26 rfl) (Wd.u rfl) rfl rfl ?_
  refine LR.v (Y.move rfl rfl) (Wd.u rfl) rfl rfl ?_
  refine LR.v (Y.sl2 (l.length - 1) l.length rfl Try.runUnderlying26 Try.sizeOf35 rfl rfl (by rw [hel]) rfl rfl (by omega) (by omega) (by omega)) (Wd.u rfl) rfl rfl ?_
  refine LR.zn (Z.clearT ow (by rw [hel]) rfl inf26 (by intro z i h1 h2; rw [show Try.prog.info? 35 = _ from rfl] at h1; cases h1; cases h2; decide) (by rw [hel]; exact rfl) (by omega) (by rw [hel]; omega)) (Wd.u rfl) rfl (fun v6_5 H6_5 r6_5 => ?_)
  obtain ⟨rfl, ow, hs6_5⟩ := r6_5
  replace hs6_5 := hs6_5.md
  replace hm0 := hm0.trL hs6_5 (MIL.cons (MI.app (MI.root (by simp)) (nx_hm0_ow) (Nat.le_refl _)) MIL.nil)
  have hz2 := hs6_5.size
  refine LR.nil ?_
  refine hK7 _ _ ?_
  refine CW.seq (fun K8 hK8 hE8 => ?_)
  refine CW.region ?_
  refine LR.v (Y.move rfl rfl) (Wd.u rfl) rfl rfl ?_
  refine LR.v (Y.assign rfl rfl) (Wd.u rfl) rfl rfl ?_
  refine LR.nil ?_
  refine hK8 _ _ ?_
  refine CW.ret (hret .ret (.inr rfl) _ _ _ (res1 rfl rfl) ?_)
  exact ⟨.slice (some ⟨g, 0, none⟩) (l.length - 1) cap, k, rfl, ow, Nx.refl _ _, hm0⟩

end Go.Proofs.Ytclhnkmkejijjaa.RenC
