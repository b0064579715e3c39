/-
  Rows of names sorted, searched, and one put in.
-/
import Derived.Lib.AppendZerosOnto
import Derived.Lib.Overlaps
import Derived.Test.YtepdhokpfecdnaaGraD
namespace Go.Proofs.Ytepdhokpfecdnaa.GraE
open Go.Proofs.Ytepdhokpfecdnaa.E Go.RowKit Go.Proofs.Ytepdhokpfecdnaa.GraA Go.Proofs.Ytepdhokpfecdnaa.GraB Go.Proofs.Ytepdhokpfecdnaa.GraC Go.Proofs.Ytepdhokpfecdnaa.GraD
set_option maxRecDepth 20000
set_option linter.unusedVariables false
set_option linter.unusedSimpArgs false
set_option linter.unusedSectionVars false
set_option maxRecDepth 100000 in
theorem inf28 : Inf Try.prog 28 30 32 32 := ⟨Try.underlying28, _, _, rfl, rfl, rfl, rfl, rfl⟩

section
variable {P : Program} {w0 : World} {n : Nat} {l : FL} {H : Heap} {o : Oper}
/-- a copy of elements of sz cells, from a place whose cells are known (the same block, too) -/
theorem Z.copyQ {d x : Operand} {t t2 e e' : TypeId} {b off dlen dcap slen scap sz k : Nat} {cs ys : List Value} {ad : Addr} (hv : Var e H b cs) (hp : ∀ w, At w0 H w → ∀ j v, ys[j]? = some v → w.cell? (ad.add j) = some v) (hy : ys.length = k * sz) (ho1 : ∀ u ∈ ys, u.oneCell' = true) (ho : o.op = .call { callee := .builtin .copy, args := #[d, x], argTypes := #[t, t2] })
    (ht : P.underlying t = some (.slice e')) (hs : ∀ w, (sizeOf e').run P w = .ok sz w) (hd : opv l d = some (.slice (some ⟨b, off, none⟩) dlen dcap)) (hx : opv l x = some (.slice (some ad) slen scap)) (hk : k = min slen dlen) (hfit : off + k * sz ≤ cs.length) :
    Z P w0 n l H o (fun r H' => r = .int .i64 k ∧ Var e H' b (splice cs off ys) ∧ Mo (fun g => g = b) H H') := by
  intro a w hf ha
  obtain ⟨fz, hb1, hb2⟩ := id hv.row
  have hkk : Nat.min slen dlen = k := hk.symm
  have hfc : (Builtin.firstCells sz k (.slice (some ad) slen scap)).run P w = .ok ys.toArray w :=
    run_firstCells_some (P := P) w sz k ad slen scap _ hy (fun j v hj => hp w ha j v hj)
  have hst := run_storeCells_soft P b off e fz ys 0 cs.toArray w (by rw [ha.heap]; exact hb1) hb2 (by simp; omega) ho1
  simp only [Nat.add_zero] at hst
  refine ⟨_, _, w.setRow b (splice cs off ys).toArray, ?_, ha.row _ _, rfl, ⟨setRow_row ha hv.row (by simp [splice]; omega)⟩, setRow_mo ha _ _⟩
  simp [execOp, ho, hf.eval hd, hf.eval hx, resolve, invoke, builtin, Builtin.copy_, run_underlying ht, Builtin.lenOf, hs, hkk, hfc, hst, splice, goInt]
theorem zeroCells_rep {z : Value} {α : Type} {f : α → List Value} {z0 : α} (h : z.cells.toList = f z0) : ∀ m, (Builtin.zeroCells z.cells m).toList = (List.replicate m z0).flatMap f := by
  have hl : (f z0).length = z.cells.size := by rw [← h, Array.length_toList]
  have e0 : ∀ m, (Builtin.zeroCells z.cells m).toList = (List.range (m * z.cells.size)).map (fun i => z.cells[i % z.cells.size]!) := fun m => by
    unfold Builtin.zeroCells
    rw [Array.toList_map, Array.toList_range]
  have e1 : (List.range z.cells.size).map (fun i => z.cells[i % z.cells.size]!) = f z0 := by
    rw [← h]
    apply List.ext_getElem
    · simp
    · intro j h1 h2
      have hj : j < z.cells.size := by simpa using h1
      simp [Nat.mod_eq_of_lt hj, getElem!_pos z.cells j hj]
  intro m
  rw [e0]
  induction m with
  | zero => simp
  | succ m ih =>
    rw [Nat.succ_mul, Nat.add_comm, List.range_add, List.map_append, List.map_map, e1, List.replicate_succ, List.flatMap_cons, ← ih]
    congr 1
    apply List.map_congr_left
    intro j _
    simp
/-- made elements put behind a row that has no room: a new row -/
theorem Z.apndz {α : Type} {F : Nat → Prop} {f : α → List Value} {s x : Operand} {t tn e : TypeId} {kn kq : IntKind} {ad : Addr} {c m sz bytes : Nat} {i : TypeInfo} {z : Value} {xs : List α} (z0 : α) (hc : ∀ x, (f x).length = sz) (h1 : ∀ x, ∀ u ∈ f x, u.oneCell' = true) (hr : Rd F H f sz (.slice (some ad) xs.length c) xs)
    (ho : o.op = .call { callee := .builtin .append, args := #[s, x], argTypes := #[t, tn] }) (ht : P.underlying t = some (.slice e)) (htn : P.underlying tn = some (.int kn)) (hi : P.info? e = some i) (hz : i.zero = some z) (hsz : i.size = sz) (hby : i.bytes = bytes) (hz0 : z.cells.toList = f z0) (hs0 : 0 < sz) (hm0 : 0 < m)
    (hs : opv l s = some (.slice (some ad) xs.length c)) (hx : opv l x = some (.int kq m)) (hg : c < xs.length + m) (hb : (xs.length + m) * bytes ≤ 140737488355328) (hm : xs.length + m ≤ 9223372036854775807) :
    Z P w0 n l H o (fun r H' => Ow (H.size + 1) e H' f sz r (xs ++ List.replicate m z0) ∧ Nw H H' ∧ ∃ ob, H' = H.push ob) := by
  subst hsz
  subst hby
  intro a w hf ha
  have holds := hr.pts hc rfl ha
  have hold : (Builtin.firstCells i.size xs.length (.slice (some ad) xs.length c)).run P w.drew = .ok (xs.flatMap f).toArray w.drew :=
    run_firstCells_some (P := P) w.drew i.size xs.length ad xs.length c _ (length_flatMap hc xs) (fun j v hj => by simpa using holds j v hj)
  have hrun := Lib.run_append_grow_zeros (P := P) w t tn o.type e i z kq kn ht htn hi hz (some ad) xs.length c (xs.flatMap f) hold m hm0 hs0 hg (by omega) (by
    have : m * i.bytes ≤ (xs.length + m) * i.bytes := Nat.mul_le_mul_right _ (by omega)
    omega) (growslice_fits hg hb)
  have ha2 : At w0 H w.drew := ha.drew
  have hge := grownCap_ge w (xs.length + m) c e
  have hcm : grownCap w (xs.length + m) c e ≤ maxLen := grownCap_le_maxLen w (xs.length + m) c e (by unfold maxLen; omega)
  have hzs : z.cells.size = i.size := by rw [← Array.length_toList, hz0, hc]
  have hnew := Own.new (e := e) (G' := fun b => b + 1 = H.size + 1) (w := w.drew) (z := z) (cap := grownCap w (xs.length + m) c e) (zs := xs ++ List.replicate m z0) hc h1 hzs (by rw [ha2.heap]) (by simpa using hge) hcm
  have hcells : (xs.flatMap f).toArray ++ Builtin.zeroCells z.cells m = ((xs ++ List.replicate m z0).flatMap f).toArray := by
    apply Array.ext'
    rw [Array.toList_append, zeroCells_rep hz0, List.flatMap_append]
  have hsize : w.heap.size = H.size := by rw [ha.heap]
  refine ⟨.slice (some ⟨w.heap.size, 0, none⟩) (xs.length + m) (grownCap w (xs.length + m) c e), _, w.drew.alloc (.cells ((xs.flatMap f).toArray ++ Builtin.zeroCells z.cells m ++ Builtin.zeroCells z.cells (grownCap w (xs.length + m) c e - (xs.length + m))) e), ?_, ⟨rfl, ha.os, ha.tape, ha.output, ha2.dr⟩, ⟨?_, ?_⟩, ?_, ?_⟩
  · simp [execOp, ho, resolve, invoke, builtin, hf.eval hs, hf.eval hx, hrun, hsize]
  · rw [hcells]
    simpa [hsize] using hnew
  · rw [(ha2.alloc _).heap]; simp
  · rw [(ha2.alloc _).heap]; exact Mo.push _ _ _
  · exact ⟨_, (ha2.alloc _).heap⟩
/-- a slice of a slice, as a value -/
theorem Y.sliceV {x : Operand} {lo hi : Option Operand} {t e : TypeId} {a : Option Addr} {len cap sz : Nat} (i j : Nat) (ho : o.op = .slice t x lo hi none) (ht : ∀ w, (underlying t).run P w = .ok (.slice e) w) (hs : ∀ w, (sizeOf e).run P w = .ok sz w) (hx : opv l x = some (.slice a len cap))
    (hlo : lo = none ∧ i = 0 ∨ ∃ p k iv, lo = some p ∧ opv l p = some (.int k iv) ∧ iv = (i : Int)) (hhi : hi = none ∧ j = len ∨ ∃ p k iv, hi = some p ∧ opv l p = some (.int k iv) ∧ iv = (j : Int)) (hij : i ≤ j) (hj : j ≤ cap) :
    Y P w0 n l H o (.slice (if cap = i then a else a.map (·.add (i * sz))) (j - i) (cap - i)) := by
  intro ac w hf ha
  have e1 : ∀ w, (Instr.sliceBounds true len cap (lo.map ac.eval) (hi.map ac.eval) none).run P w = .ok (i, j, cap) w := by
    intro w
    rcases hlo with ⟨rfl, rfl⟩ | ⟨p, k, iv, rfl, h1, rfl⟩ <;> rcases hhi with ⟨rfl, rfl⟩ | ⟨p2, k2, iv2, rfl, h3, rfl⟩ <;>
      simp [Instr.sliceBounds, Instr.sliceBound, asIntOf, hf.eval, *]
  have hu : ∀ w, (underlying t).run P w = .ok (.slice e) w := ht
  simp [execOp, ho, hf.eval hx, Instr.sliceAt, Instr.slice, hu, hs, e1]
/-- room -/
theorem Y.capV {x : Operand} {t e : TypeId} {a : Option Addr} {len cap : Nat} (ho : o.op = .call { callee := .builtin .cap, args := #[x], argTypes := #[t] }) (ht : ∀ w, (underlying t).run P w = .ok (.slice e) w) (hx : opv l x = some (.slice a len cap)) : Y P w0 n l H o (.int .i64 cap) := by
  intro ac w hf ha
  simp [execOp, ho, hf.eval hx, resolve, invoke, builtin, Builtin.cap_, ht, goInt]
/-- an owned row's cells -/
theorem Ow.view {α : Type} {k : Nat} {e : TypeId} {f : α → List Value} {sz : Nat} {v : Value} {xs : List α} (h : Ow k e H f sz v xs) (hne : xs ≠ []) : ∃ g cap cs, v = .slice (some ⟨g, 0, none⟩) xs.length cap ∧ k = g + 1 ∧ Var e H g cs ∧ xs.length ≤ cap ∧ cap ≤ maxLen ∧ cs.length = cap * sz ∧ cs.take (xs.length * sz) = xs.flatMap f := by
  rcases h.own.ex with ⟨_, hx⟩ | ⟨g, cap, cur, hv, hg, hr, h1, h2, h3, h4⟩
  · exact absurd hx hne
  · exact ⟨g, cap, cur.toList, hv, hg.symm, ⟨hr⟩, h1, h2, by rw [Array.length_toList]; exact h3, h4⟩
theorem Ow.back {α : Type} {g : Nat} {e : TypeId} {f : α → List Value} {sz cap : Nat} {cs : List Value} {xs : List α} (hc : ∀ x, (f x).length = sz) (h1 : ∀ x, ∀ u ∈ f x, u.oneCell' = true) (hv : Var e H g cs) (hl : xs.length ≤ cap) (hm : cap ≤ maxLen) (hs : cs.length = cap * sz) (ht : cs.take (xs.length * sz) = xs.flatMap f) : Ow (g + 1) e H f sz (.slice (some ⟨g, 0, none⟩) xs.length cap) xs :=
  ⟨⟨hc, h1, .inr ⟨g, cap, cs.toArray, rfl, rfl, hv.row, hl, hm, by simpa using hs, by simpa using ht⟩⟩, hv.lt⟩
end
theorem spl_mid {α : Type} {f : α → List Value} {sz : Nat} (hc : ∀ x, (f x).length = sz) {cs : List Value} {xs ys : List α} {i : Nat} (h : cs.take (xs.length * sz) = xs.flatMap f) (hl : cs.length ≥ xs.length * sz) (hi : i + ys.length ≤ xs.length) : (splice cs (i * sz) (ys.flatMap f)).take (xs.length * sz) = (xs.take i ++ ys ++ xs.drop (i + ys.length)).flatMap f := by
  have hy := length_flatMap hc ys
  have hm : (i + ys.length) * sz ≤ xs.length * sz := Nat.mul_le_mul_right _ hi
  have hm2 : (i + ys.length) * sz = i * sz + ys.length * sz := Nat.add_mul _ _ _
  have hA : cs.take (i * sz) = (xs.take i).flatMap f := by
    have := congrArg (List.take (i * sz)) h
    rw [List.take_take, Nat.min_eq_left (by omega)] at this
    rw [this]
    conv => lhs; rw [← List.take_append_drop i xs, List.flatMap_append]
    rw [List.take_left' (by rw [length_flatMap hc, List.length_take, Nat.min_eq_left (by omega)])]
  have hD : (cs.take (xs.length * sz)).drop ((i + ys.length) * sz) = (xs.drop (i + ys.length)).flatMap f := by
    rw [h]
    conv => lhs; rw [← List.take_append_drop (i + ys.length) xs, List.flatMap_append]
    rw [List.drop_left' (by rw [length_flatMap hc, List.length_take, Nat.min_eq_left (by omega)])]
  have h1 : ((xs.take i ++ ys).flatMap f).length = (i + ys.length) * sz := by
    rw [length_flatMap hc, List.length_append, List.length_take, Nat.min_eq_left (by omega)]
  rw [splice, hA, ← List.flatMap_append, hy, ← hm2, List.flatMap_append (xs := xs.take i ++ ys), ← hD, List.take_append, h1, List.take_of_length_le (by rw [h1]; exact hm), List.drop_take]
section
variable {P : Program} {w0 : World} {n : Nat} {l : FL} {H : Heap} {o : Oper}
/-- a copy into an owned row, at element i -/
theorem Z.copyO {α : Type} {F : Nat → Prop} {f : α → List Value} {d x : Operand} {t t2 e e' : TypeId} {g i dlen dcap cap sz k : Nat} {ad : Addr} {scap : Nat} {v : Value} {xs ys : List α} (h : Ow k e H f sz v xs) (hve : v = .slice (some ⟨g, 0, none⟩) xs.length cap) (hr : Rd F H f sz (.slice (some ad) ys.length scap) ys) (hne : xs ≠ [])
    (ho : o.op = .call { callee := .builtin .copy, args := #[d, x], argTypes := #[t, t2] })
    (ht : P.underlying t = some (.slice e')) (hs : ∀ w, (sizeOf e').run P w = .ok sz w) (hd : opv l d = some (.slice (some ⟨g, i * sz, none⟩) dlen dcap)) (hx : opv l x = some (.slice (some ad) ys.length scap)) (hk : ys.length ≤ dlen) (hfit : i + ys.length ≤ xs.length) (hy0 : ys ≠ []) :
    Z P w0 n l H o (fun r H' => r = .int .i64 ys.length ∧ Ow k e H' f sz v (xs.take i ++ ys ++ xs.drop (i + ys.length)) ∧ Mo (fun b => b + 1 = k) H H') := by
  obtain ⟨g2, cap2, cs, hv2, hk2, hcs, h1, h2, h3, h4⟩ := Ow.view h hne
  rw [hve] at hv2
  simp only [Value.slice.injEq, Option.some.injEq, Addr.mk.injEq, true_and, and_true] at hv2
  obtain ⟨rfl, rfl⟩ := hv2
  have hc := h.own.cells
  have hlen := length_flatMap hc ys
  have hsz : (i + ys.length) * sz ≤ xs.length * sz := Nat.mul_le_mul_right _ hfit
  have hsz2 : xs.length * sz ≤ cap * sz := Nat.mul_le_mul_right _ h1
  rw [Nat.add_mul] at hsz
  refine (Z.copyQ hcs (fun w ha => hr.pts hc rfl ha) hlen (fun u hu => by obtain ⟨y, _, hu⟩ := List.mem_flatMap.1 hu; exact h.own.one y u hu) ho ht hs hd hx (by omega) (by omega)).mono ?_
  rintro r H' ⟨hr', hv', hm⟩
  have hlx : (xs.take i ++ ys ++ xs.drop (i + ys.length)).length = xs.length := by simp; omega
  refine ⟨hr', ?_, ?_⟩
  · rw [hk2, hve, ← hlx]
    refine Ow.back hc h.own.one hv' (by omega) h2 ?_ ?_
    · rw [splice_length (by omega), h3]
    · rw [hlx]; exact spl_mid hc h4 (by omega) hfit
  · exact hm.weaken (fun b _ e => by rw [hk2, e])
/-- the elements from i on moved up by one, in place -/
theorem Z.copyUp {k : Nat} {α : Type} {f : α → List Value} {d x : Operand} {t t2 e e' : TypeId} {g i dlen dcap slen scap cap sz : Nat} {v : Value} {xs : List α} (h : Ow k e H f sz v xs) (hve : v = .slice (some ⟨g, 0, none⟩) xs.length cap) (hi : i < xs.length) (hcap : xs.length < cap)
    (ho : o.op = .call { callee := .builtin .copy, args := #[d, x], argTypes := #[t, t2] })
    (ht : P.underlying t = some (.slice e')) (hs : ∀ w, (sizeOf e').run P w = .ok sz w) (hd : opv l d = some (.slice (some ⟨g, (i + 1) * sz, none⟩) dlen dcap)) (hx : opv l x = some (.slice (some ⟨g, i * sz, none⟩) slen scap)) (hk : xs.length - i = min slen dlen) :
    Z P w0 n l H o (fun r H' => r = .int .i64 (xs.length - i : Nat) ∧ Ow k e H' f sz (.slice (some ⟨g, 0, none⟩) (xs.length + 1) cap) (xs.take (i + 1) ++ xs.drop i) ∧ Mo (fun b => b + 1 = k) H H') := by
  have hne : xs ≠ [] := by intro e; rw [e] at hi; simp at hi
  obtain ⟨g2, cap2, cs, hv2, hk2, hcs, h1, h2, h3, h4⟩ := Ow.view h hne
  rw [hve] at hv2
  simp only [Value.slice.injEq, Option.some.injEq, Addr.mk.injEq, true_and, and_true] at hv2
  obtain ⟨rfl, rfl⟩ := hv2
  have hc := h.own.cells
  have hld : (xs.drop i).length = xs.length - i := List.length_drop
  have hlen : ((xs.drop i).flatMap f).length = (xs.length - i) * sz := by rw [length_flatMap hc, hld]
  have m1 : i * sz + (xs.length - i) * sz = xs.length * sz := by rw [← Nat.add_mul]; congr 1; omega
  have m2 : (i + 1) * sz + (xs.length - i) * sz = (xs.length + 1) * sz := by rw [← Nat.add_mul]; congr 1; omega
  have m3 : (xs.length + 1) * sz ≤ cap * sz := Nat.mul_le_mul_right _ hcap
  have m4 : (i + 1) * sz ≤ xs.length * sz := Nat.mul_le_mul_right _ hi
  have tk : ∀ j, j ≤ xs.length → cs.take (j * sz) = (xs.take j).flatMap f := fun j hj => by
    have hm : j * sz ≤ xs.length * sz := Nat.mul_le_mul_right _ hj
    have := congrArg (List.take (j * sz)) h4
    rw [List.take_take, Nat.min_eq_left hm] at this
    rw [this]
    conv => lhs; rw [← List.take_append_drop j xs, List.flatMap_append]
    rw [List.take_left' (by rw [length_flatMap hc, List.length_take, Nat.min_eq_left hj])]
  have hsrc : (cs.take (xs.length * sz)).drop (i * sz) = (xs.drop i).flatMap f := by
    rw [h4]
    conv => lhs; rw [← List.take_append_drop i xs, List.flatMap_append]
    rw [List.drop_left' (by rw [length_flatMap hc, List.length_take, Nat.min_eq_left (by omega)])]
  have hpt : Pt H ⟨g, i * sz, none⟩ ((xs.drop i).flatMap f) := by
    have := (hcs.pt.take (xs.length * sz)).drop (i * sz)
    rw [hsrc, add_eq rfl] at this
    simpa using this
  refine (Z.copyQ (k := xs.length - i) (sz := sz) hcs (fun w ha j v hj => by rw [ha.cell, add_eq hpt.spot]; exact hpt.cells j v hj) hlen (fun u hu => by obtain ⟨y, _, hu⟩ := List.mem_flatMap.1 hu; exact h.own.one y u hu) ho ht hs hd hx hk (by omega)).mono ?_
  rintro r H' ⟨hr', hv', hm⟩
  have hlx : (xs.take (i + 1) ++ xs.drop i).length = xs.length + 1 := by simp; omega
  refine ⟨hr', ?_, hm.weaken (fun b _ e => by rw [hk2, e])⟩
  rw [hk2, ← hlx]
  refine Ow.back hc h.own.one hv' (by omega) h2 ?_ ?_
  · rw [splice_length (by omega), h3]
  · rw [hlx, splice, tk (i + 1) (by omega), ← List.flatMap_append, List.take_left' (by rw [length_flatMap hc, hlx])]
/-- the front, as a value -/
theorem Y.sl0 {x : Operand} {hi : Option Operand} {t e : TypeId} {g len cap sz : Nat} (j : Nat) (ho : o.op = .slice t x none hi none) (ht : ∀ w, (underlying t).run P w = .ok (.slice e) w) (hs : ∀ w, (sizeOf e).run P w = .ok sz w) (hx : opv l x = some (.slice (some ⟨g, 0, none⟩) len cap))
    (hhi : hi = none ∧ j = len ∨ ∃ p k iv, hi = some p ∧ opv l p = some (.int k iv) ∧ iv = (j : Int)) (hj : j ≤ cap) : Y P w0 n l H o (.slice (some ⟨g, 0, none⟩) j cap) := by
  have := Y.sliceV (P := P) (w0 := w0) (n := n) (H := H) 0 j ho ht hs hx (.inl ⟨rfl, rfl⟩) hhi (Nat.zero_le _) hj
  simpa [add_eq] using this
/-- what stays behind the front, as a value -/
theorem Y.sl1 {x p : Operand} {t e : TypeId} {g len cap sz : Nat} {k : IntKind} {iv : Int} (i : Nat) (ho : o.op = .slice t x (some p) none none) (ht : ∀ w, (underlying t).run P w = .ok (.slice e) w) (hs : ∀ w, (sizeOf e).run P w = .ok sz w) (hx : opv l x = some (.slice (some ⟨g, 0, none⟩) len cap))
    (hlo : opv l p = some (.int k iv)) (hiv : iv = (i : Int)) (hi : i ≤ len) (hc : i < cap) (hl : len ≤ cap) : Y P w0 n l H o (.slice (some ⟨g, i * sz, none⟩) (len - i) (cap - i)) := by
  have := Y.sliceV (P := P) (w0 := w0) (n := n) (H := H) i len ho ht hs hx (.inr ⟨_, _, _, rfl, hlo, hiv⟩) (.inl ⟨rfl, rfl⟩) hi hl
  rw [if_neg (by omega)] at this
  simpa [add_eq] using this
end


def Mz : Ide := Zid
theorem ins_end {l : List Ide} {x : Ide} {i : Nat} (h : i = l.length) : l ++ [x] = l.take i ++ x :: l.drop i := by subst h; simp
theorem ins_grow {l : List Ide} {x : Ide} {i n : Nat} (hi : i < l.length) (hn : n = l.length + 1 - i) :
    ((l.take i ++ List.replicate n Mz).take i ++ [x] ++ (l.take i ++ List.replicate n Mz).drop (i + 1)).take (i + 1) ++ l.drop i ++ ((l.take i ++ List.replicate n Mz).take i ++ [x] ++ (l.take i ++ List.replicate n Mz).drop (i + 1)).drop (i + 1 + (l.drop i).length) = l.take i ++ x :: l.drop i := by
  have h1 : (l.take i).length = i := by rw [List.length_take]; omega
  have h2 : (l.take i ++ [x]).length = i + 1 := by simp [h1]
  have e1 : (l.take i ++ List.replicate n Mz).take i = l.take i := List.take_left' h1
  rw [e1, List.take_left' h2]
  have e2 : (l.take i ++ [x] ++ (l.take i ++ List.replicate n Mz).drop (i + 1)).drop (i + 1 + (l.drop i).length) = [] := List.drop_eq_nil_of_le (by simp [h1]; omega)
  rw [e2]; simp
theorem ins_up {l : List Ide} {x : Ide} {i : Nat} (hi : i < l.length) : (l.take (i + 1) ++ l.drop i).take i ++ [x] ++ (l.take (i + 1) ++ l.drop i).drop (i + 1) = l.take i ++ x :: l.drop i := by
  have h1 : (l.take (i + 1)).length = i + 1 := by rw [List.length_take]; omega
  rw [List.drop_left' h1, List.take_append_of_le_length (by omega), List.take_take, Nat.min_eq_left (by omega)]; simp
theorem rd_take {F : Nat → Prop} {H : Heap} {l : List Ide} {g cap i : Nat} (h : Rd F H fA 32 (.slice (some ⟨g, 0, none⟩) l.length cap) l) : Rd F H fA 32 (.slice (some ⟨g, 0, none⟩) (l.take i).length cap) (l.take i) := by
  obtain ⟨a, c, e, h1, h2, h3⟩ := h.ex
  cases e
  refine ⟨_, _, rfl, by rw [List.length_take]; omega, h2, fun hne => ?_⟩
  obtain ⟨ad, e1, e2, e3, e4, e5⟩ := h3 (by intro e; subst e; simp at hne)
  exact ⟨ad, e1, e2, e3, e4, fun j x hx => e5 j x (by rw [List.getElem?_take] at hx; split at hx; exact hx; cases hx)⟩
theorem rd_drop {F : Nat → Prop} {H : Heap} {l : List Ide} {g cap i : Nat} (h : Rd F H fA 32 (.slice (some ⟨g, 0, none⟩) l.length cap) l) : Rd F H fA 32 (.slice (some ⟨g, i * 32, none⟩) (l.drop i).length (cap - i)) (l.drop i) := by
  obtain ⟨a, c, e, h1, h2, h3⟩ := h.ex
  cases e
  refine ⟨_, _, rfl, by rw [List.length_drop]; omega, by omega, fun hne => ?_⟩
  obtain ⟨ad, e1, e2, e3, e4, e5⟩ := h3 (by intro e; subst e; simp at hne)
  cases e1
  refine ⟨_, rfl, rfl, e3, e4, fun j x hx => ?_⟩
  rw [List.getElem?_drop] at hx
  have := e5 (i + j) x hx
  simpa [Nat.add_mul] using this
section
variable {P : Program} {w0 : World} {n : Nat} {l : FL} {H : Heap} {o : Oper}
/-- rows of unlike blocks share nothing -/
theorem Y.overlaps {f : FuncId} {fn : Func} {args : List Operand} {ats : Array TypeId} {tS tR e : TypeId} {g gx lx cx off lb cb sz : Nat} {cs : List Value} {csx : Array Value} (hx : H[gx]? = some (.cells csx e (0, 0))) (hv : Var e H g cs) (hne : gx ≠ g) (hcs : cs.length ≠ 0)
    (ho : o.op = .call { callee := .value (.func f), args := args.toArray, argTypes := ats }) (hf : P.funcs[f]? = some fn) (hname : (fn.name == "runtime.NumGoroutine") = false) (hb : fn.body.isNone = true) (hn : Extern.findNext fn = none) (he : Extern.find fn = some (Extern.SlicesOverlaps.overlaps #[tS, tS] #[tR]))
    (ht : P.underlying tS = some (.slice e)) (hs : ∀ w, (sizeOf e).run P w = .ok sz w) (ha : opvs l args = some [.slice (some ⟨gx, 0, none⟩) lx cx, .slice (some ⟨g, off, none⟩) lb cb]) : Y P w0 n l H o (.bool false) := by
  refine Y.ext ho hf hname hb hn he ha (fun w hw => ?_)
  obtain ⟨fz, h1, _⟩ := hv.row
  refine Lib.run_overlaps_apart w tS tR e ht sz hs ⟨gx, 0, none⟩ ⟨g, off, none⟩ lx cx lb cb hne e e csx.size cs.toArray.size ?_ ?_ (by simpa using hcs) ?_ ?_
  · simp [World.shape?, hw.heap, hx]
  · simp [World.shape?, hw.heap, h1]
  · simp [World.frozen?, hw.heap, hx]
  · simp [World.frozen?, hw.heap, hx]
end

section
variable {α : Type} {P : Program} {w0 : World} {n : Nat} {l : FL} {H : Heap} {o : Oper} {e : TypeId} {f : α → List Value} {sz : Nat}
theorem Z.lit0 {t : TypeId} {k bytes : Nat} {parts : List (Nat × Operand)} (vs : List Value) (zs : List α) (ho : o.op = .buildSlice t k parts.toArray) (hinf : Inf P t e sz bytes) (hp : opvs l (parts.map (·.2)) = some vs) (hi : parts.map (·.1) = List.range k) (hk : vs.length = k) (hks : k * sz ≤ 16777216) (hk16 : k ≤ 16777216)
    (hc : ∀ x, (f x).length = sz) (h1 : ∀ x, ∀ u ∈ f x, u.oneCell' = true) (hz : vs.map (fun v => v.cells.toList) = zs.map f) :
    Z P w0 n l H o (fun r H' => Own (fun b => b = H.size) e H' f sz r zs ∧ Nw H H' ∧ ∃ c : Array Value, H' = H.push (.cells c e (0, 0))) := by
  obtain ⟨ht, i, z, hi', hz', hsz, hby, hzs⟩ := hinf
  subst hsz
  intro a w hf ha
  have hev := hf.evals hp
  have hzl : zs.length = k := by have := congrArg List.length hz; simpa [hk] using this.symm
  have hparts : (parts.toArray.map (fun (x : Nat × Operand) => (x.1, a.eval x.2))).toList = (vs.zipIdx 0).map (fun p => (p.2, p.1)) := by
    have e1 : parts.map (fun (x : Nat × Operand) => (x.1, a.eval x.2)) = (List.range k).zip vs := by
      rw [← hi, ← hev, List.map_map]
      clear hi hev hp ho
      induction parts with
      | nil => rfl
      | cons p ps ih => simp [ih]
    rw [List.map_toArray]
    simp only
    rw [e1, List.zipIdx_eq_zip_range', map_zip_swap_range hk]
  have hcells : ∀ v ∈ vs, v.cells.size = i.size := by
    intro v hv
    have : v.cells.toList ∈ zs.map f := by rw [← hz]; exact List.mem_map.2 ⟨v, hv, rfl⟩
    obtain ⟨x, _, hx⟩ := List.mem_map.1 this
    have := hc x
    rw [hx] at this
    simpa using this
  have hfl : vs.flatMap (fun v => v.cells.toList) = zs.flatMap f := by rw [List.flatMap_def, List.flatMap_def, hz]
  have hbase : ∀ (zc : Array Value), ((Array.range (k * i.size)).map (zc[· % zc.size]!)).toList = [] ++ ((Array.range (k * i.size)).map (zc[· % zc.size]!)).toList := fun _ => rfl
  have hrun : ∃ cs : Array Value, cs.toList = zs.flatMap f ∧ (Instr.buildSlice t k (parts.toArray.map (fun (x : Nat × Operand) => (x.1, a.eval x.2)))).run P w = .ok (.slice (some ⟨w.heap.size, 0, none⟩) k k) (w.alloc (.cells cs e)) := by
    by_cases h0 : k * i.size = 0
    · obtain ⟨r, hr, hrl⟩ := fill_row i.size vs 0 #[] [] [] rfl (by simp) (by simp [hk, h0]) hcells
      refine ⟨r, by rw [hrl, hfl]; rfl, ?_⟩
      simp only [Instr.buildSlice, Sem.run_bind, run_underlying ht, Result.andThen_ok, sizeOf, typeInfo, run_program, hi', Sem.run_pure, hparts]
      have hz0 : ∀ g : Nat → Value, (Array.range 0).map g = #[] := fun g => by simp
      simp [h0, hz0, hr, newRow]
    · obtain ⟨r, hr, hrl⟩ := fill_row i.size vs 0 ((Array.range (k * i.size)).map (z.cells[· % z.cells.size]!)) [] _ (hbase _) (by simp) (by simp [hk]) hcells
      refine ⟨r, by rw [hrl, hfl]; rfl, ?_⟩
      simp only [Instr.buildSlice, Sem.run_bind, run_underlying ht, Result.andThen_ok, sizeOf, typeInfo, run_program, hi', Sem.run_pure, hparts]
      have hlim : ¬ (k * i.size > 2 ^ 24) := by simp only [Nat.reducePow]; omega
      simp [h0, hlim, zeroValue, typeInfo, hi', hz', hr, newRow]
  obtain ⟨cs, hcs, hrun⟩ := hrun
  refine ⟨.slice (some ⟨w.heap.size, 0, none⟩) k k, H.push (.cells cs e), w.alloc (.cells cs e), ?_, ha.alloc (.cells cs e), ⟨hc, h1, .inr ⟨H.size, k, cs, ?_, rfl, .of (by simp), ?_, ?_, ?_, ?_⟩⟩, Nw.pu _ _, _, rfl⟩
  · simp only [execOp, ho, Sem.run_bind, hrun, Result.andThen_ok, Sem.run_pure]
  · rw [hzl, ha.heap]
  · omega
  · unfold maxLen; omega
  · rw [← Array.length_toList, hcs, length_flatMap hc, hzl]
  · rw [← length_flatMap hc, List.take_of_length_le (by rw [← hcs]; exact Nat.le_refl _), hcs]
theorem Z.litz {t : TypeId} {k bytes : Nat} {parts : List (Nat × Operand)} (vs : List Value) (zs : List α) (ho : o.op = .buildSlice t k parts.toArray) (hinf : Inf P t e sz bytes) (hp : opvs l (parts.map (·.2)) = some vs) (hi : parts.map (·.1) = List.range k) (hk : vs.length = k) (hks : k * sz ≤ 16777216) (hk16 : k ≤ 16777216)
    (hc : ∀ x, (f x).length = sz) (h1 : ∀ x, ∀ u ∈ f x, u.oneCell' = true) (hz : vs.map (fun v => v.cells.toList) = zs.map f) :
    Z P w0 n l H o (fun r H' => Ow (H.size + 1) e H' f sz r zs ∧ Nw H H' ∧ ∃ c : Array Value, H' = H.push (.cells c e (0, 0))) :=
  (Z.lit0 vs zs ho hinf hp hi hk hks hk16 hc h1 hz).mono fun r H' ⟨h1, h2, c, h3⟩ => ⟨Ow.new (fun _ e => e) h1 h3, h2, c, h3⟩
end

set_option maxHeartbeats 4000000 in
theorem insert_ct (k kx : Nat) (v vx : Value) (l : List Ide) (x : Ide) (i : Nat) (w0 : World) (H0 : Heap)
    (ow : Ow k 30 H0 fA 32 v l) (ox : Ow kx 30 H0 fA 32 vx [x]) (dj : Dj k kx) (hil : i ≤ l.length) (hzx : ∃ c, H0[kx - 1]? = some (.cells c 30 (0, 0))) (hll : l.length ≤ 1048576) :
    Ct Try.prog w0 40 #[v, .int .i64 i, vx] H0 (fun r H2 => ∃ vr : Value, ∃ kr : Nat, r = vr ∧ (Ow kr 30 H2 fA 32 vr (l.take i ++ x :: l.drop i)) ∧ (Nx k H0.size kr) ∧ Mo (Ms [k]) H0 H2) := by
  refine Ct.enter (args := [v, .int .i64 i, vx]) Try.func40 rfl rfl rfl ?_
  intro Q0 hret
  have hm0 : Mo (Ms [k]) H0 H0 := Mo.refl _ _
  have nx_hm0_ow := Nx.refl k H0.size
  have hle_ow := ow.le
  have nx_hm0_ox := Nx.refl kx H0.size
  have hle_ox := ox.le
  have hlm := ow.len
  refine CW.seq (fun K1 hK1 hE1 => ?_)
  refine CW.region ?_
  refine LR.v (Y.assign rfl rfl) (Wd.u rfl) rfl rfl ?_
  refine LR.nil ?_
  refine hK1 _ _ ?_
  refine CW.seq (fun K2 hK2 hE2 => ?_)
  refine CW.region ?_
  refine LR.v (Y.move rfl rfl) (Wd.u rfl) rfl rfl ?_
  refine LR.v (Y.move rfl rfl) (Wd.u rfl) rfl rfl ?_
  refine LR.e (g := fun v => v) (Y.slice ow.rd (i) (l.length) rfl Try.runUnderlying28 Try.sizeOf30 rfl (.inr ⟨_, _, _, rfl, rfl, by first | rfl | omega⟩) (.inl ⟨rfl, rfl⟩) (by omega) (by omega)) (Wd.u rfl) rfl rfl (fun v12 rd12 => ?_)
  have bf_rd12 := BF.of ow.le
  refine LR.nil ?_
  refine hK2 _ _ ?_
  refine CW.seq (fun K3 hK3 hE3 => ?_)
  refine CW.region ?_
  refine LR.v (Y.move rfl rfl) (Wd.u rfl) rfl rfl ?_
  refine LR.v (Y.cast (v2 := .int .i64 1) (Y.len ox.rd rfl Try.runUnderlying28 rfl) (rfl)) (Wd.u rfl) rfl rfl ?_
  refine LR.v (Y.assign rfl rfl) (Wd.u rfl) rfl rfl ?_
  refine LR.nil ?_
  refine hK3 _ _ ?_
  refine CW.seq (fun K4 hK4 hE4 => ?_)
  refine CW.seq (fun K5 hK5 hE5 => ?_)
  refine CW.region ?_
  refine LR.v (Y.move rfl rfl) (Wd.u rfl) rfl rfl ?_
  refine LR.v ((Y.eql rfl rfl rfl).isF (fun h => by simp at h)) (Wd.u rfl) rfl rfl ?_
  refine LR.nil ?_
  refine hK5 _ _ ?_
  refine CW.cond_f rfl ?_
  refine CW.skip ?_
  refine hK4 _ _ ?_
  refine CW.seq (fun K6 hK6 hE6 => ?_)
  refine CW.region ?_
  refine LR.v (Y.move rfl rfl) (Wd.u rfl) rfl rfl ?_
  refine LR.v (Y.len ow.rd rfl Try.runUnderlying28 rfl) (Wd.u rfl) rfl rfl ?_
  refine LR.v (Y.assign rfl rfl) (Wd.u rfl) rfl rfl ?_
  refine LR.nil ?_
  refine hK6 _ _ ?_
  refine CW.seq (fun K7 hK7 hE7 => ?_)
  refine CW.seq (fun K8 hK8 hE8 => ?_)
  refine CW.region ?_
  refine LR.v (Y.move rfl rfl) (Wd.u rfl) rfl rfl ?_
  refine LR.v (Y.move rfl rfl) (Wd.u rfl) rfl rfl ?_
  refine LR.v (Y.eql rfl rfl rfl) (Wd.u rfl) rfl rfl ?_
  refine LR.nil ?_
  refine hK8 _ _ ?_
  refine CW.condp rfl (fun c22 => ?_) (fun c22 => ?_)
  ·
    refine CW.seq (fun K9 hK9 hE9 => ?_)
    refine CW.region ?_
    refine LR.v (Y.move rfl rfl) (Wd.u rfl) rfl rfl ?_
    refine LR.v (Y.move rfl rfl) (Wd.u rfl) rfl rfl ?_
    refine LR.z (Z.apnd ow ox.rd rfl inf28 rfl rfl (by simp only [List.length_cons, List.length_nil]; omega) (by simp only [List.length_cons, List.length_nil]; omega)) (Wd.u rfl) rfl rfl (fun v25 H25 r25 => ?_)
    obtain ⟨k25, ow, hk25, hs25⟩ := r25
    replace hk25 : Nx k H0.size k25 := hk25
    replace hs25 := hs25.md
    have dj1 : Dj kx k25 := Dj.app (dj.symm) ox.le hk25
    have nx2 : Nx k H0.size k25 := Nx.tr (nx_hm0_ow) hk25 hm0.size
    replace ox := ox.upL hs25 (DL.cons dj.symm DL.nil)
    replace hm0 := hm0.trL hs25 (MIL.cons (MI.app (MI.root (by simp)) (nx_hm0_ow) (Nat.le_refl _)) MIL.nil)
    have hz1 := hs25.size
    have hle_ow := ow.le
    refine LR.v (Y.assign rfl rfl) (Wd.u rfl) rfl rfl ?_
    refine LR.nil ?_
    refine hK9 _ _ ?_
    refine CW.ret (hE7 .ret nofun _ _ (hret .ret (.inr rfl) _ _ _ (res1 rfl rfl) ?_))
    exact ⟨v25, k25, rfl, by rw [← ins_end (by omega)]; exact ow, nx2, hm0⟩
  ·
    have hin : i < l.length := by omega
    have hne : l ≠ [] := by intro e; rw [e] at hin; simp at hin
    obtain ⟨g, cap, cs, hve, hkg, hvg, hcap, hcm, hcl, _⟩ := Ow.view ow hne
    unfold maxLen at hcm
    obtain ⟨gx, capx, csx, hvx, hkx, _, hcapx, hcmx, _, _⟩ := Ow.view ox (by simp)
    obtain ⟨csz, hzc⟩ := hzx
    rw [show kx - 1 = gx by omega] at hzc
    have hgg : gx ≠ g := fun e => dj g hkg.symm (by omega)
    refine CW.skip ?_
    refine hK7 _ _ ?_
    refine CW.seq (fun K10 hK10 hE10 => ?_)
    refine CW.seq (fun K11 hK11 hE11 => ?_)
    refine CW.region ?_
    refine LR.v (Y.move rfl rfl) (Wd.u rfl) rfl rfl ?_
    refine LR.v (Y.move rfl rfl) (Wd.u rfl) rfl rfl ?_
    refine LR.v (Y.addi rfl rfl rfl (by omega)) (Wd.u rfl) rfl rfl ?_
    refine LR.v (Y.move rfl rfl) (Wd.u rfl) rfl rfl ?_
    refine LR.v (Y.capV rfl Try.runUnderlying28 (congrArg some hve)) (Wd.u rfl) rfl rfl ?_
    refine LR.v (Y.gtr rfl rfl rfl) (Wd.u rfl) rfl rfl ?_
    refine LR.nil ?_
    refine hK11 _ _ ?_
    refine CW.condp rfl (fun c31 => ?_) (fun c31 => ?_)
    ·
      obtain ⟨ht40, i0, z0, hi0, hz0, hs0, hb0, _⟩ := inf28
      have hz9 : z0.cells.toList = fA Mz := by
        have h9 : (zeroValue 30).run Try.prog w0 = .ok (.agg (fA Mz).toArray) w0 := by kernel_rfl
        simp [zeroValue, typeInfo, hi0, hz0] at h9
        rw [h9]; rfl
      have hti : (l.take i).length = i := by rw [List.length_take]; omega
      refine CW.seq (fun K12 hK12 hE12 => ?_)
      refine CW.region ?_
      refine LR.v (Y.move rfl rfl) (Wd.u rfl) rfl rfl ?_
      refine LR.v (Y.move rfl rfl) (Wd.u rfl) rfl rfl ?_
      refine LR.v (Y.sl0 i rfl Try.runUnderlying28 Try.sizeOf30 (congrArg some hve) (.inr ⟨_, _, _, rfl, rfl, rfl⟩) (by omega)) (Wd.u rfl) rfl rfl ?_
      refine LR.v (Y.move rfl rfl) (Wd.u rfl) rfl rfl ?_
      refine LR.v (Y.move rfl rfl) (Wd.u rfl) rfl rfl ?_
      refine LR.v (Y.addi rfl rfl rfl (by omega)) (Wd.u rfl) rfl rfl ?_
      refine LR.v (Y.move rfl rfl) (Wd.u rfl) rfl rfl ?_
      refine LR.v (Y.cast (v2 := .int .i64 ((l.length + 1 - i : Nat) : Int)) (Y.subi rfl rfl rfl (by omega)) (by congr 1; omega)) (Wd.u rfl) rfl rfl ?_
      refine LR.z (Z.apndz (F := fun b => b + 1 = k) (ad := ⟨g, 0, none⟩) (c := cap) (xs := l.take i) (m := l.length + 1 - i) Mz fA_len fA_one (by have h9 := ow.rd; rw [hve] at h9; exact rd_take h9) rfl ht40 Try.underlying3 hi0 hz0 hs0 hb0 hz9 (by decide) (by omega) (by rw [hti]; rfl) rfl (by rw [hti]; omega) (by rw [hti]; omega) (by rw [hti]; omega)) (Wd.u rfl) rfl rfl (fun v40 H40 r40 => ?_)
      obtain ⟨on, hs40, ob40, hH40⟩ := r40
      have hzs40 : H40.size = H0.size + 1 := by rw [hH40]; simp
      have dj3 : Dj k (H0.size + 1) := Dj.new ow.le
      have dj4 : Dj kx (H0.size + 1) := Dj.new ox.le
      have nx5 : Nx 0 H0.size (H0.size + 1) := Nx.new hm0.size
      replace ow := ow.nw hs40
      replace ox := ox.nw hs40
      replace hm0 := hm0.trN hs40
      have hz2 := hs40.size
      have hlo : (l.take i ++ List.replicate (l.length + 1 - i) Mz).length = l.length + 1 := by rw [List.length_append, hti, List.length_replicate]; omega
      obtain ⟨g2, cap2, _, hv2, _, _, hcap2, _, _, _⟩ := Ow.view on (by intro e; rw [e] at hlo; simp at hlo)
      rw [hlo] at hv2 hcap2
      refine LR.v (Y.assign rfl rfl) (Wd.u rfl) rfl rfl ?_
      refine LR.nil ?_
      refine hK12 _ _ ?_
      refine CW.seq (fun K13 hK13 hE13 => ?_)
      refine CW.region ?_
      refine LR.v (Y.move rfl rfl) (Wd.u rfl) rfl rfl ?_
      refine LR.v (Y.move rfl rfl) (Wd.u rfl) rfl rfl ?_
      refine LR.v (Y.sl1 i rfl Try.runUnderlying28 Try.sizeOf30 (congrArg some hv2) rfl rfl (by omega) (by omega) (by omega)) (Wd.u rfl) rfl rfl ?_
      refine LR.v (Y.move rfl rfl) (Wd.u rfl) rfl rfl ?_
      refine LR.z (Z.copyO (i := i) on (by rw [hlo]; exact hv2) (show Rd (fun b => b + 1 = kx) _ fA 32 (.slice (some ⟨gx, 0, none⟩) [x].length capx) [x] from by have h9 := ox.rd; rw [hvx] at h9; exact h9) (by intro e; rw [e] at hlo; simp at hlo) rfl Try.underlying28 Try.sizeOf30 rfl (congrArg some hvx) (by simp; omega) (by rw [hlo]; simp; omega) (by simp)) (Wd.u rfl) rfl rfl (fun v45 H45 r45 => ?_)
      obtain ⟨rfl, on, hs45⟩ := r45
      replace hs45 := hs45.md
      replace ow := ow.upL hs45 (DL.cons dj3 DL.nil)
      replace ox := ox.upL hs45 (DL.cons dj4 DL.nil)
      replace hm0 := hm0.trL hs45 (MIL.cons (MI.app MI.z (nx5) (Nat.le_refl _)) MIL.nil)
      have hz3 := hs45.size
      have hlo2 : ((l.take i ++ List.replicate (l.length + 1 - i) Mz).take i ++ [x] ++ (l.take i ++ List.replicate (l.length + 1 - i) Mz).drop (i + [x].length)).length = l.length + 1 := by simp; omega
      refine LR.nil ?_
      refine hK13 _ _ ?_
      refine CW.seq (fun K14 hK14 hE14 => ?_)
      refine CW.region_tail 8 rfl (by kernel_rfl) (fun T11 hT11 => ?_)
      refine LR.v (Y.move rfl rfl) (Wd.u rfl) rfl rfl ?_
      refine LR.v (Y.move rfl rfl) (Wd.u rfl) rfl rfl ?_
      refine LR.v (Y.move rfl rfl) (Wd.u rfl) rfl rfl ?_
      refine LR.v (Y.addi rfl rfl rfl (by omega)) (Wd.u rfl) rfl rfl ?_
      refine LR.v (Y.sl1 (i + 1) rfl Try.runUnderlying28 Try.sizeOf30 (congrArg some hv2) rfl (by simp) (by omega) (by omega) (by omega)) (Wd.u rfl) rfl rfl ?_
      refine LR.v (Y.move rfl rfl) (Wd.u rfl) rfl rfl ?_
      refine LR.v (Y.move rfl rfl) (Wd.u rfl) rfl rfl ?_
      refine LR.v (Y.sl1 i rfl Try.runUnderlying28 Try.sizeOf30 (congrArg some hve) rfl rfl (by omega) (by omega) (by omega)) (Wd.u rfl) rfl rfl ?_
      refine LR.nil (hT11 _ ?_)
      refine LR.z (Z.copyO (i := i + 1) (ys := l.drop i) on (by rw [hlo2]; exact hv2) (show Rd (fun b => b + 1 = k) _ fA 32 (.slice (some ⟨g, i * 32, none⟩) (l.drop i).length (cap - i)) (l.drop i) from by have h9 := ow.rd; rw [hve] at h9; exact rd_drop h9) (by intro e; rw [e] at hlo2; simp at hlo2) rfl Try.underlying28 Try.sizeOf30 rfl (by rw [List.length_drop]; rfl) (by rw [List.length_drop]; omega) (by rw [hlo2, List.length_drop]; omega) (by intro e; have h9 := congrArg List.length e; rw [List.length_drop] at h9; simp at h9; omega)) (Wd.u rfl) rfl rfl (fun v54 H54 r54 => ?_)
      obtain ⟨rfl, on, hs54⟩ := r54
      replace hs54 := hs54.md
      replace ow := ow.upL hs54 (DL.cons dj3 DL.nil)
      replace ox := ox.upL hs54 (DL.cons dj4 DL.nil)
      replace hm0 := hm0.trL hs54 (MIL.cons (MI.app MI.z (nx5) (Nat.le_refl _)) MIL.nil)
      have hz4 := hs54.size
      refine LR.nil ?_
      refine hK14 _ _ ?_
      refine CW.seq (fun K15 hK15 hE15 => ?_)
      refine CW.region ?_
      refine LR.v (Y.move rfl rfl) (Wd.u rfl) rfl rfl ?_
      refine LR.v (Y.assign rfl rfl) (Wd.u rfl) rfl rfl ?_
      refine LR.nil ?_
      refine hK15 _ _ ?_
      refine CW.ret (hE10 .ret nofun _ _ (hret .ret (.inr rfl) _ _ _ (res1 rfl rfl) ?_))
      exact ⟨v40, (H0.size + 1), rfl, by have h9 := on; rw [show i + [x].length = i + 1 from rfl, ins_grow hin rfl] at h9; exact h9, (by unfold Nx; omega), hm0⟩
    ·
      refine CW.skip ?_
      refine hK10 _ _ ?_
      refine CW.seq (fun K16 hK16 hE16 => ?_)
      refine CW.region ?_
      refine LR.v (Y.move rfl rfl) (Wd.u rfl) rfl rfl ?_
      refine LR.v (Y.move rfl rfl) (Wd.u rfl) rfl rfl ?_
      refine LR.v (Y.move rfl rfl) (Wd.u rfl) rfl rfl ?_
      refine LR.v (Y.addi rfl rfl rfl (by omega)) (Wd.u rfl) rfl rfl ?_
      refine LR.v (Y.sl0 (l.length + 1) rfl Try.runUnderlying28 Try.sizeOf30 (congrArg some hve) (.inr ⟨_, _, _, rfl, rfl, by simp⟩) (by omega)) (Wd.u rfl) rfl rfl ?_
      refine LR.v (Y.assign rfl rfl) (Wd.u rfl) rfl rfl ?_
      refine LR.nil ?_
      refine hK16 _ _ ?_
      refine CW.seq (fun K17 hK17 hE17 => ?_)
      refine CW.seq (fun K18 hK18 hE18 => ?_)
      refine CW.region ?_
      refine LR.v (Y.move rfl rfl) (Wd.u rfl) rfl rfl ?_
      refine LR.v (Y.move rfl rfl) (Wd.u rfl) rfl rfl ?_
      refine LR.v (Y.move rfl rfl) (Wd.u rfl) rfl rfl ?_
      refine LR.v (Y.move rfl rfl) (Wd.u rfl) rfl rfl ?_
      refine LR.v (Y.addi rfl rfl rfl (by omega)) (Wd.u rfl) rfl rfl ?_
      refine LR.v (Y.sl1 (i + 1) rfl Try.runUnderlying28 Try.sizeOf30 rfl rfl (by simp) (by omega) (by omega) (by omega)) (Wd.u rfl) rfl rfl ?_
      refine LR.v (Y.overlaps (tS := 28) (tR := 4) hzc hvg hgg (by omega) rfl rfl (by kernel_rfl) (by kernel_rfl) (by kernel_rfl) (by kernel_rfl) Try.underlying28 Try.sizeOf30 (congrArg (fun z => some [z, _]) hvx)) (Wd.u rfl) rfl rfl ?_
      refine LR.v (Y.not rfl rfl) (Wd.u rfl) rfl rfl ?_
      refine LR.nil ?_
      refine hK18 _ _ ?_
      refine CW.cond_t rfl ?_
      refine CW.seq (fun K19 hK19 hE19 => ?_)
      refine CW.region_tail 8 rfl (by kernel_rfl) (fun T15 hT15 => ?_)
      refine LR.v (Y.move rfl rfl) (Wd.u rfl) rfl rfl ?_
      refine LR.v (Y.move rfl rfl) (Wd.u rfl) rfl rfl ?_
      refine LR.v (Y.move rfl rfl) (Wd.u rfl) rfl rfl ?_
      refine LR.v (Y.addi rfl rfl rfl (by omega)) (Wd.u rfl) rfl rfl ?_
      refine LR.v (Y.sl1 (i + 1) rfl Try.runUnderlying28 Try.sizeOf30 rfl rfl (by simp) (by omega) (by omega) (by omega)) (Wd.u rfl) rfl rfl ?_
      refine LR.v (Y.move rfl rfl) (Wd.u rfl) rfl rfl ?_
      refine LR.v (Y.move rfl rfl) (Wd.u rfl) rfl rfl ?_
      refine LR.v (Y.sl1 i rfl Try.runUnderlying28 Try.sizeOf30 rfl rfl rfl (by omega) (by omega) (by omega)) (Wd.u rfl) rfl rfl ?_
      refine LR.nil (hT15 _ ?_)
      refine LR.z (Z.copyUp (i := i) ow hve hin (by omega) rfl Try.underlying28 Try.sizeOf30 rfl rfl (by omega)) (Wd.u rfl) rfl rfl (fun v77 H77 r77 => ?_)
      obtain ⟨rfl, ow, hs77⟩ := r77
      replace hs77 := hs77.md
      replace ox := ox.upL hs77 (DL.cons dj.symm DL.nil)
      replace hm0 := hm0.trL hs77 (MIL.cons (MI.app (MI.root (by simp)) (nx_hm0_ow) (Nat.le_refl _)) MIL.nil)
      have hz5 := hs77.size
      have hlu : (l.take (i + 1) ++ l.drop i).length = l.length + 1 := by simp; omega
      refine LR.nil ?_
      refine hK19 _ _ ?_
      refine CW.seq (fun K20 hK20 hE20 => ?_)
      refine CW.region ?_
      refine LR.v (Y.move rfl rfl) (Wd.u rfl) rfl rfl ?_
      refine LR.v (Y.move rfl rfl) (Wd.u rfl) rfl rfl ?_
      refine LR.v (Y.sl1 i rfl Try.runUnderlying28 Try.sizeOf30 rfl rfl rfl (by omega) (by omega) (by omega)) (Wd.u rfl) rfl rfl ?_
      refine LR.v (Y.move rfl rfl) (Wd.u rfl) rfl rfl ?_
      refine LR.z (Z.copyO (i := i) ow (by rw [hlu]) (show Rd (fun b => b + 1 = kx) _ fA 32 (.slice (some ⟨gx, 0, none⟩) [x].length capx) [x] from by have h9 := ox.rd; rw [hvx] at h9; exact h9) (by intro e; rw [e] at hlu; simp at hlu) rfl Try.underlying28 Try.sizeOf30 rfl (congrArg some hvx) (by simp; omega) (by rw [hlu]; simp; omega) (by simp)) (Wd.u rfl) rfl rfl (fun v82 H82 r82 => ?_)
      obtain ⟨rfl, ow, hs82⟩ := r82
      replace hs82 := hs82.md
      replace ox := ox.upL hs82 (DL.cons dj.symm DL.nil)
      replace hm0 := hm0.trL hs82 (MIL.cons (MI.app (MI.root (by simp)) (nx_hm0_ow) (Nat.le_refl _)) MIL.nil)
      have hz6 := hs82.size
      refine LR.nil ?_
      refine hK20 _ _ ?_
      refine CW.seq (fun K21 hK21 hE21 => ?_)
      refine CW.region ?_
      refine LR.v (Y.move rfl rfl) (Wd.u rfl) rfl rfl ?_
      refine LR.v (Y.assign rfl rfl) (Wd.u rfl) rfl rfl ?_
      refine LR.nil ?_
      refine hK21 _ _ ?_
      refine CW.ret (hE17 .ret nofun _ _ (hret .ret (.inr rfl) _ _ _ (res1 rfl rfl) ?_))
      exact ⟨.slice (some ⟨g, 0, none⟩) (l.length + 1) cap, k, rfl, by have h9 := ow; rw [show i + [x].length = i + 1 from rfl, ins_up hin] at h9; exact h9, nx_hm0_ow, hm0⟩


theorem sortA_ct (k : Nat) (v : Value) (l : List Ide) (w0 : World) (H : Heap) (h : Ow k 30 H fA 32 v l) (hl : l.length < 4611686018427387904) :
    Ct Try.prog w0 38 #[v, .func (.func 32) #[] #[]] H (fun r H2 => ∃ l2 k2, r = .tuple #[] ∧ Ow k2 30 H2 fA 32 v l2 ∧ Nx k H.size k2 ∧ (l2.Perm l ∧ l2.Pairwise (fun x y => ¬ cA y x < 0)) ∧ Mo (Ms [k]) H H2) := by
  have h0 := Ct.sortf (w0 := w0) Try.sort38 Try.isAgg30 Try.sizeOf30 cA cA_co.swo 32 (enters_of Try.func32 (by kernel_rfl) rfl) (fun w0 H0 x y => acmp_ct x y w0 H0) h hl
  exact h0.mono (fun r H2 ⟨l2, h1, h2, h3, h4, h5⟩ => ⟨l2, k, h1, h2, h3, h4, h5⟩)
theorem cmpClo (w0 : World) (H : Heap) (x y : Ide) : Clo Try.prog w0 (.func (.func 32) #[] #[]) [vA x, vA y] H (fun r H2 => r = .int .i64 (cA x y) ∧ Nw H H2) :=
  Clo.of (caps := []) (enters_of Try.func32 (by kernel_rfl) rfl) (acmp_ct x y w0 H)

end Go.Proofs.Ytepdhokpfecdnaa.GraE
