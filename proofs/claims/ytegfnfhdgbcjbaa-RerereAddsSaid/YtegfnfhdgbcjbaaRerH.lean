/-
  Towards slices.Insert: rules for blocks whose cells are known.
-/
import Derived.Lib.AppendZerosOnto
import Derived.Lib.Overlaps
import Derived.Test.YtegfnfhdgbcjbaaRerG
namespace Go.Proofs.Ytegfnfhdgbcjbaa.RerH
open Go.Proofs.Ytegfnfhdgbcjbaa.E Go.RowKit Go.Proofs.Ytegfnfhdgbcjbaa.LinM Go.Proofs.Ytegfnfhdgbcjbaa.LinC Go.Proofs.Ytegfnfhdgbcjbaa.LinL Go.Proofs.Ytegfnfhdgbcjbaa.LinN Go.Proofs.Ytegfnfhdgbcjbaa.MerA Go.Proofs.Ytegfnfhdgbcjbaa.MerB Go.Proofs.Ytegfnfhdgbcjbaa.MerC Go.Proofs.Ytegfnfhdgbcjbaa.MerD Go.Proofs.Ytegfnfhdgbcjbaa.MerE Go.Proofs.Ytegfnfhdgbcjbaa.MerF Go.Proofs.Ytegfnfhdgbcjbaa.MerH Go.Proofs.Ytegfnfhdgbcjbaa.MerL Go.Proofs.Ytegfnfhdgbcjbaa.MerM Go.Proofs.Ytegfnfhdgbcjbaa.MerN Go.Proofs.Ytegfnfhdgbcjbaa.SumA Go.Proofs.Ytegfnfhdgbcjbaa.SumB Go.Proofs.Ytegfnfhdgbcjbaa.SumC Go.Proofs.Ytegfnfhdgbcjbaa.SumD Go.Proofs.Ytegfnfhdgbcjbaa.SumE Go.Proofs.Ytegfnfhdgbcjbaa.SumF Go.Proofs.Ytegfnfhdgbcjbaa.SumG Go.Proofs.Ytegfnfhdgbcjbaa.SumK Go.Proofs.Ytegfnfhdgbcjbaa.SumL Go.Proofs.Ytegfnfhdgbcjbaa.SumM Go.Proofs.Ytegfnfhdgbcjbaa.DelA Go.Proofs.Ytegfnfhdgbcjbaa.RerA Go.Proofs.Ytegfnfhdgbcjbaa.RerB Go.Proofs.Ytegfnfhdgbcjbaa.RerF Go.Proofs.Ytegfnfhdgbcjbaa.RerG
set_option maxRecDepth 20000
set_option linter.unusedVariables false
set_option linter.unusedSimpArgs false
set_option linter.unusedSectionVars false

section
variable {P : Program} {w0 : World} {n : Nat} {l : FL} {H : Heap} {o : Oper}
/-- a copy of elements of sz cells, from a place whose cells are known (the same block, too) -/
theorem Z.copyQ {d x : Operand} {t t2 e e' : TypeId} {b off dlen dcap slen scap sz k : Nat} {cs ys : List Value} {ad : Addr} (hv : Var e H b cs) (hp : ∀ w, At w0 H w → ∀ j v, ys[j]? = some v → w.cell? (ad.add j) = some v) (hy : ys.length = k * sz) (ho1 : ∀ u ∈ ys, u.oneCell' = true) (ho : o.op = .call { callee := .builtin .copy, args := #[d, x], argTypes := #[t, t2] })
    (ht : P.underlying t = some (.slice e')) (hs : ∀ w, (sizeOf e').run P w = .ok sz w) (hd : opv l d = some (.slice (some ⟨b, off, none⟩) dlen dcap)) (hx : opv l x = some (.slice (some ad) slen scap)) (hk : k = min slen dlen) (hfit : off + k * sz ≤ cs.length) :
    Z P w0 n l H o (fun r H' => r = .int .i64 k ∧ Var e H' b (splice cs off ys) ∧ Mo (fun g => g = b) H H') := by
  intro a w hf ha
  obtain ⟨fz, hb1, hb2⟩ := id hv.row
  have hkk : Nat.min slen dlen = k := hk.symm
  have hfc : (Builtin.firstCells sz k (.slice (some ad) slen scap)).run P w = .ok ys.toArray w :=
    run_firstCells_some (P := P) w sz k ad slen scap _ hy (fun j v hj => hp w ha j v hj)
  have hst := run_storeCells_soft P b off e fz ys 0 cs.toArray w (by rw [ha.heap]; exact hb1) hb2 (by simp; omega) ho1
  simp only [Nat.add_zero] at hst
  refine ⟨_, _, w.setRow b (splice cs off ys).toArray, ?_, ha.row _ _, rfl, ⟨setRow_row ha hv.row (by simp [splice]; omega)⟩, setRow_mo ha _ _⟩
  simp [execOp, ho, hf.eval hd, hf.eval hx, resolve, invoke, builtin, Builtin.copy_, run_underlying ht, Builtin.lenOf, hs, hkk, hfc, hst, splice, goInt]
theorem zeroCells_rep {z : Value} {α : Type} {f : α → List Value} {z0 : α} (h : z.cells.toList = f z0) : ∀ m, (Builtin.zeroCells z.cells m).toList = (List.replicate m z0).flatMap f := by
  have hl : (f z0).length = z.cells.size := by rw [← h, Array.length_toList]
  have e0 : ∀ m, (Builtin.zeroCells z.cells m).toList = (List.range (m * z.cells.size)).map (fun i => z.cells[i % z.cells.size]!) := fun m => by
    unfold Builtin.zeroCells
    rw [Array.toList_map, Array.toList_range]
  have e1 : (List.range z.cells.size).map (fun i => z.cells[i % z.cells.size]!) = f z0 := by
    rw [← h]
    apply List.ext_getElem
    · simp
    · intro j h1 h2
      have hj : j < z.cells.size := by simpa using h1
      simp [Nat.mod_eq_of_lt hj, getElem!_pos z.cells j hj]
  intro m
  rw [e0]
  induction m with
  | zero => simp
  | succ m ih =>
    rw [Nat.succ_mul, Nat.add_comm, List.range_add, List.map_append, List.map_map, e1, List.replicate_succ, List.flatMap_cons, ← ih]
    congr 1
    apply List.map_congr_left
    intro j _
    simp
/-- made elements put behind a row that has no room: a new row -/
theorem Z.apndz {α : Type} {F : Nat → Prop} {f : α → List Value} {s x : Operand} {t tn e : TypeId} {kn kq : IntKind} {ad : Addr} {c m sz bytes : Nat} {i : TypeInfo} {z : Value} {xs : List α} (z0 : α) (hc : ∀ x, (f x).length = sz) (h1 : ∀ x, ∀ u ∈ f x, u.oneCell' = true) (hr : Rd F H f sz (.slice (some ad) xs.length c) xs)
    (ho : o.op = .call { callee := .builtin .append, args := #[s, x], argTypes := #[t, tn] }) (ht : P.underlying t = some (.slice e)) (htn : P.underlying tn = some (.int kn)) (hi : P.info? e = some i) (hz : i.zero = some z) (hsz : i.size = sz) (hby : i.bytes = bytes) (hz0 : z.cells.toList = f z0) (hs0 : 0 < sz) (hm0 : 0 < m)
    (hs : opv l s = some (.slice (some ad) xs.length c)) (hx : opv l x = some (.int kq m)) (hg : c < xs.length + m) (hb : (xs.length + m) * bytes ≤ 140737488355328) (hm : xs.length + m ≤ 9223372036854775807) :
    Z P w0 n l H o (fun r H' => Ow (H.size + 1) e H' f sz r (xs ++ List.replicate m z0) ∧ Nw H H' ∧ ∃ ob, H' = H.push ob) := by
  subst hsz
  subst hby
  intro a w hf ha
  have holds := hr.pts hc rfl ha
  have hold : (Builtin.firstCells i.size xs.length (.slice (some ad) xs.length c)).run P w.drew = .ok (xs.flatMap f).toArray w.drew :=
    run_firstCells_some (P := P) w.drew i.size xs.length ad xs.length c _ (length_flatMap hc xs) (fun j v hj => by simpa using holds j v hj)
  have hrun := Lib.run_append_grow_zeros (P := P) w t tn o.type e i z kq kn ht htn hi hz (some ad) xs.length c (xs.flatMap f) hold m hm0 hs0 hg (by omega) (by
    have : m * i.bytes ≤ (xs.length + m) * i.bytes := Nat.mul_le_mul_right _ (by omega)
    omega) (growslice_fits hg hb)
  have ha2 : At w0 H w.drew := ha.drawn _
  have hge := grownCap_ge w (xs.length + m) c e
  have hcm : grownCap w (xs.length + m) c e ≤ maxLen := grownCap_le_maxLen w (xs.length + m) c e (by unfold maxLen; omega)
  have hzs : z.cells.size = i.size := by rw [← Array.length_toList, hz0, hc]
  have hnew := Own.new (e := e) (G' := fun b => b + 1 = H.size + 1) (w := w.drew) (z := z) (cap := grownCap w (xs.length + m) c e) (zs := xs ++ List.replicate m z0) hc h1 hzs (by rw [ha2.heap]) (by simpa using hge) hcm
  have hcells : (xs.flatMap f).toArray ++ Builtin.zeroCells z.cells m = ((xs ++ List.replicate m z0).flatMap f).toArray := by
    apply Array.ext'
    rw [Array.toList_append, zeroCells_rep hz0, List.flatMap_append]
  have hsize : w.heap.size = H.size := by rw [ha.heap]
  refine ⟨.slice (some ⟨w.heap.size, 0, none⟩) (xs.length + m) (grownCap w (xs.length + m) c e), _, w.drew.alloc (.cells ((xs.flatMap f).toArray ++ Builtin.zeroCells z.cells m ++ Builtin.zeroCells z.cells (grownCap w (xs.length + m) c e - (xs.length + m))) e), ?_, ⟨rfl, ha.os, ha.tape, ha.output⟩, ⟨?_, ?_⟩, ?_, ?_⟩
  · simp [execOp, ho, resolve, invoke, builtin, hf.eval hs, hf.eval hx, hrun, hsize]
  · rw [hcells]
    simpa [hsize] using hnew
  · rw [(ha2.alloc _).heap]; simp
  · rw [(ha2.alloc _).heap]; exact Mo.push _ _ _
  · exact ⟨_, (ha2.alloc _).heap⟩
/-- a slice of a slice, as a value -/
theorem Y.sliceV {x : Operand} {lo hi : Option Operand} {t e : TypeId} {a : Option Addr} {len cap sz : Nat} (i j : Nat) (ho : o.op = .slice t x lo hi none) (ht : ∀ w, (underlying t).run P w = .ok (.slice e) w) (hs : ∀ w, (sizeOf e).run P w = .ok sz w) (hx : opv l x = some (.slice a len cap))
    (hlo : lo = none ∧ i = 0 ∨ ∃ p k iv, lo = some p ∧ opv l p = some (.int k iv) ∧ iv = (i : Int)) (hhi : hi = none ∧ j = len ∨ ∃ p k iv, hi = some p ∧ opv l p = some (.int k iv) ∧ iv = (j : Int)) (hij : i ≤ j) (hj : j ≤ cap) :
    Y P w0 n l H o (.slice (if cap = i then a else a.map (·.add (i * sz))) (j - i) (cap - i)) := by
  intro ac w hf ha
  have e1 : ∀ w, (Instr.sliceBounds true len cap (lo.map ac.eval) (hi.map ac.eval) none).run P w = .ok (i, j, cap) w := by
    intro w
    rcases hlo with ⟨rfl, rfl⟩ | ⟨p, k, iv, rfl, h1, rfl⟩ <;> rcases hhi with ⟨rfl, rfl⟩ | ⟨p2, k2, iv2, rfl, h3, rfl⟩ <;>
      simp [Instr.sliceBounds, Instr.sliceBound, asIntOf, hf.eval, *]
  have hu : ∀ w, (underlying t).run P w = .ok (.slice e) w := ht
  simp [execOp, ho, hf.eval hx, Instr.sliceAt, Instr.slice, hu, hs, e1]
/-- room -/
theorem Y.capV {x : Operand} {t e : TypeId} {a : Option Addr} {len cap : Nat} (ho : o.op = .call { callee := .builtin .cap, args := #[x], argTypes := #[t] }) (ht : ∀ w, (underlying t).run P w = .ok (.slice e) w) (hx : opv l x = some (.slice a len cap)) : Y P w0 n l H o (.int .i64 cap) := by
  intro ac w hf ha
  simp [execOp, ho, hf.eval hx, resolve, invoke, builtin, Builtin.cap_, ht, goInt]
/-- an owned row's cells -/
theorem Ow.view {α : Type} {k : Nat} {e : TypeId} {f : α → List Value} {sz : Nat} {v : Value} {xs : List α} (h : Ow k e H f sz v xs) (hne : xs ≠ []) : ∃ g cap cs, v = .slice (some ⟨g, 0, none⟩) xs.length cap ∧ k = g + 1 ∧ Var e H g cs ∧ xs.length ≤ cap ∧ cap ≤ maxLen ∧ cs.length = cap * sz ∧ cs.take (xs.length * sz) = xs.flatMap f := by
  rcases h.own.ex with ⟨_, hx⟩ | ⟨g, cap, cur, hv, hg, hr, h1, h2, h3, h4⟩
  · exact absurd hx hne
  · exact ⟨g, cap, cur.toList, hv, hg.symm, ⟨hr⟩, h1, h2, by rw [Array.length_toList]; exact h3, h4⟩
theorem Ow.back {α : Type} {g : Nat} {e : TypeId} {f : α → List Value} {sz cap : Nat} {cs : List Value} {xs : List α} (hc : ∀ x, (f x).length = sz) (h1 : ∀ x, ∀ u ∈ f x, u.oneCell' = true) (hv : Var e H g cs) (hl : xs.length ≤ cap) (hm : cap ≤ maxLen) (hs : cs.length = cap * sz) (ht : cs.take (xs.length * sz) = xs.flatMap f) : Ow (g + 1) e H f sz (.slice (some ⟨g, 0, none⟩) xs.length cap) xs :=
  ⟨⟨hc, h1, .inr ⟨g, cap, cs.toArray, rfl, rfl, hv.row, hl, hm, by simpa using hs, by simpa using ht⟩⟩, hv.lt⟩
end
theorem spl_mid {α : Type} {f : α → List Value} {sz : Nat} (hc : ∀ x, (f x).length = sz) {cs : List Value} {xs ys : List α} {i : Nat} (h : cs.take (xs.length * sz) = xs.flatMap f) (hl : cs.length ≥ xs.length * sz) (hi : i + ys.length ≤ xs.length) : (splice cs (i * sz) (ys.flatMap f)).take (xs.length * sz) = (xs.take i ++ ys ++ xs.drop (i + ys.length)).flatMap f := by
  have hy := length_flatMap hc ys
  have hm : (i + ys.length) * sz ≤ xs.length * sz := Nat.mul_le_mul_right _ hi
  have hm2 : (i + ys.length) * sz = i * sz + ys.length * sz := Nat.add_mul _ _ _
  have hA : cs.take (i * sz) = (xs.take i).flatMap f := by
    have := congrArg (List.take (i * sz)) h
    rw [List.take_take, Nat.min_eq_left (by omega)] at this
    rw [this]
    conv => lhs; rw [← List.take_append_drop i xs, List.flatMap_append]
    rw [List.take_left' (by rw [length_flatMap hc, List.length_take, Nat.min_eq_left (by omega)])]
  have hD : (cs.take (xs.length * sz)).drop ((i + ys.length) * sz) = (xs.drop (i + ys.length)).flatMap f := by
    rw [h]
    conv => lhs; rw [← List.take_append_drop (i + ys.length) xs, List.flatMap_append]
    rw [List.drop_left' (by rw [length_flatMap hc, List.length_take, Nat.min_eq_left (by omega)])]
  have h1 : ((xs.take i ++ ys).flatMap f).length = (i + ys.length) * sz := by
    rw [length_flatMap hc, List.length_append, List.length_take, Nat.min_eq_left (by omega)]
  rw [splice, hA, ← List.flatMap_append, hy, ← hm2, List.flatMap_append (xs := xs.take i ++ ys), ← hD, List.take_append, h1, List.take_of_length_le (by rw [h1]; exact hm), List.drop_take]
section
variable {P : Program} {w0 : World} {n : Nat} {l : FL} {H : Heap} {o : Oper}
/-- a copy into an owned row, at element i -/
theorem Z.copyO {α : Type} {F : Nat → Prop} {f : α → List Value} {d x : Operand} {t t2 e e' : TypeId} {g i dlen dcap cap sz k : Nat} {ad : Addr} {scap : Nat} {v : Value} {xs ys : List α} (h : Ow k e H f sz v xs) (hve : v = .slice (some ⟨g, 0, none⟩) xs.length cap) (hr : Rd F H f sz (.slice (some ad) ys.length scap) ys) (hne : xs ≠ [])
    (ho : o.op = .call { callee := .builtin .copy, args := #[d, x], argTypes := #[t, t2] })
    (ht : P.underlying t = some (.slice e')) (hs : ∀ w, (sizeOf e').run P w = .ok sz w) (hd : opv l d = some (.slice (some ⟨g, i * sz, none⟩) dlen dcap)) (hx : opv l x = some (.slice (some ad) ys.length scap)) (hk : ys.length ≤ dlen) (hfit : i + ys.length ≤ xs.length) (hy0 : ys ≠ []) :
    Z P w0 n l H o (fun r H' => r = .int .i64 ys.length ∧ Ow k e H' f sz v (xs.take i ++ ys ++ xs.drop (i + ys.length)) ∧ Mo (fun b => b + 1 = k) H H') := by
  obtain ⟨g2, cap2, cs, hv2, hk2, hcs, h1, h2, h3, h4⟩ := Ow.view h hne
  rw [hve] at hv2
  simp only [Value.slice.injEq, Option.some.injEq, Addr.mk.injEq, true_and, and_true] at hv2
  obtain ⟨rfl, rfl⟩ := hv2
  have hc := h.own.cells
  have hlen := length_flatMap hc ys
  have hsz : (i + ys.length) * sz ≤ xs.length * sz := Nat.mul_le_mul_right _ hfit
  have hsz2 : xs.length * sz ≤ cap * sz := Nat.mul_le_mul_right _ h1
  rw [Nat.add_mul] at hsz
  refine (Z.copyQ hcs (fun w ha => hr.pts hc rfl ha) hlen (fun u hu => by obtain ⟨y, _, hu⟩ := List.mem_flatMap.1 hu; exact h.own.one y u hu) ho ht hs hd hx (by omega) (by omega)).mono ?_
  rintro r H' ⟨hr', hv', hm⟩
  have hlx : (xs.take i ++ ys ++ xs.drop (i + ys.length)).length = xs.length := by simp; omega
  refine ⟨hr', ?_, ?_⟩
  · rw [hk2, hve, ← hlx]
    refine Ow.back hc h.own.one hv' (by omega) h2 ?_ ?_
    · rw [splice_length (by omega), h3]
    · rw [hlx]; exact spl_mid hc h4 (by omega) hfit
  · exact hm.weaken (fun b _ e => by rw [hk2, e])
/-- the elements from i on moved up by one, in place -/
theorem Z.copyUp {k : Nat} {α : Type} {f : α → List Value} {d x : Operand} {t t2 e e' : TypeId} {g i dlen dcap slen scap cap sz : Nat} {v : Value} {xs : List α} (h : Ow k e H f sz v xs) (hve : v = .slice (some ⟨g, 0, none⟩) xs.length cap) (hi : i < xs.length) (hcap : xs.length < cap)
    (ho : o.op = .call { callee := .builtin .copy, args := #[d, x], argTypes := #[t, t2] })
    (ht : P.underlying t = some (.slice e')) (hs : ∀ w, (sizeOf e').run P w = .ok sz w) (hd : opv l d = some (.slice (some ⟨g, (i + 1) * sz, none⟩) dlen dcap)) (hx : opv l x = some (.slice (some ⟨g, i * sz, none⟩) slen scap)) (hk : xs.length - i = min slen dlen) :
    Z P w0 n l H o (fun r H' => r = .int .i64 (xs.length - i : Nat) ∧ Ow k e H' f sz (.slice (some ⟨g, 0, none⟩) (xs.length + 1) cap) (xs.take (i + 1) ++ xs.drop i) ∧ Mo (fun b => b + 1 = k) H H') := by
  have hne : xs ≠ [] := by intro e; rw [e] at hi; simp at hi
  obtain ⟨g2, cap2, cs, hv2, hk2, hcs, h1, h2, h3, h4⟩ := Ow.view h hne
  rw [hve] at hv2
  simp only [Value.slice.injEq, Option.some.injEq, Addr.mk.injEq, true_and, and_true] at hv2
  obtain ⟨rfl, rfl⟩ := hv2
  have hc := h.own.cells
  have hld : (xs.drop i).length = xs.length - i := List.length_drop
  have hlen : ((xs.drop i).flatMap f).length = (xs.length - i) * sz := by rw [length_flatMap hc, hld]
  have m1 : i * sz + (xs.length - i) * sz = xs.length * sz := by rw [← Nat.add_mul]; congr 1; omega
  have m2 : (i + 1) * sz + (xs.length - i) * sz = (xs.length + 1) * sz := by rw [← Nat.add_mul]; congr 1; omega
  have m3 : (xs.length + 1) * sz ≤ cap * sz := Nat.mul_le_mul_right _ hcap
  have m4 : (i + 1) * sz ≤ xs.length * sz := Nat.mul_le_mul_right _ hi
  have tk : ∀ j, j ≤ xs.length → cs.take (j * sz) = (xs.take j).flatMap f := fun j hj => by
    have hm : j * sz ≤ xs.length * sz := Nat.mul_le_mul_right _ hj
    have := congrArg (List.take (j * sz)) h4
    rw [List.take_take, Nat.min_eq_left hm] at this
    rw [this]
    conv => lhs; rw [← List.take_append_drop j xs, List.flatMap_append]
    rw [List.take_left' (by rw [length_flatMap hc, List.length_take, Nat.min_eq_left hj])]
  have hsrc : (cs.take (xs.length * sz)).drop (i * sz) = (xs.drop i).flatMap f := by
    rw [h4]
    conv => lhs; rw [← List.take_append_drop i xs, List.flatMap_append]
    rw [List.drop_left' (by rw [length_flatMap hc, List.length_take, Nat.min_eq_left (by omega)])]
  have hpt : Pt H ⟨g, i * sz, none⟩ ((xs.drop i).flatMap f) := by
    have := (hcs.pt.take (xs.length * sz)).drop (i * sz)
    rw [hsrc, add_eq rfl] at this
    simpa using this
  refine (Z.copyQ (k := xs.length - i) (sz := sz) hcs (fun w ha j v hj => by rw [ha.cell, add_eq hpt.spot]; exact hpt.cells j v hj) hlen (fun u hu => by obtain ⟨y, _, hu⟩ := List.mem_flatMap.1 hu; exact h.own.one y u hu) ho ht hs hd hx hk (by omega)).mono ?_
  rintro r H' ⟨hr', hv', hm⟩
  have hlx : (xs.take (i + 1) ++ xs.drop i).length = xs.length + 1 := by simp; omega
  refine ⟨hr', ?_, hm.weaken (fun b _ e => by rw [hk2, e])⟩
  rw [hk2, ← hlx]
  refine Ow.back hc h.own.one hv' (by omega) h2 ?_ ?_
  · rw [splice_length (by omega), h3]
  · rw [hlx, splice, tk (i + 1) (by omega), ← List.flatMap_append, List.take_left' (by rw [length_flatMap hc, hlx])]
/-- the front, as a value -/
theorem Y.sl0 {x : Operand} {hi : Option Operand} {t e : TypeId} {g len cap sz : Nat} (j : Nat) (ho : o.op = .slice t x none hi none) (ht : ∀ w, (underlying t).run P w = .ok (.slice e) w) (hs : ∀ w, (sizeOf e).run P w = .ok sz w) (hx : opv l x = some (.slice (some ⟨g, 0, none⟩) len cap))
    (hhi : hi = none ∧ j = len ∨ ∃ p k iv, hi = some p ∧ opv l p = some (.int k iv) ∧ iv = (j : Int)) (hj : j ≤ cap) : Y P w0 n l H o (.slice (some ⟨g, 0, none⟩) j cap) := by
  have := Y.sliceV (P := P) (w0 := w0) (n := n) (H := H) 0 j ho ht hs hx (.inl ⟨rfl, rfl⟩) hhi (Nat.zero_le _) hj
  simpa [add_eq] using this
/-- what stays behind the front, as a value -/
theorem Y.sl1 {x p : Operand} {t e : TypeId} {g len cap sz : Nat} {k : IntKind} {iv : Int} (i : Nat) (ho : o.op = .slice t x (some p) none none) (ht : ∀ w, (underlying t).run P w = .ok (.slice e) w) (hs : ∀ w, (sizeOf e).run P w = .ok sz w) (hx : opv l x = some (.slice (some ⟨g, 0, none⟩) len cap))
    (hlo : opv l p = some (.int k iv)) (hiv : iv = (i : Int)) (hi : i ≤ len) (hc : i < cap) (hl : len ≤ cap) : Y P w0 n l H o (.slice (some ⟨g, i * sz, none⟩) (len - i) (cap - i)) := by
  have := Y.sliceV (P := P) (w0 := w0) (n := n) (H := H) i len ho ht hs hx (.inr ⟨_, _, _, rfl, hlo, hiv⟩) (.inl ⟨rfl, rfl⟩) hi hl
  rw [if_neg (by omega)] at this
  simpa [add_eq] using this
end

end Go.Proofs.Ytegfnfhdgbcjbaa.RerH
