/-
  Rules for variables behind pointers, stores of whole structs, bytes turned to texts and back, copies, full slices: no condition.
-/
import Derived.Test.YtfbfjhppppoilaaDoorMap
import Derived.Lib.ConvBytes
import Derived.Lib.AppendStr
namespace Go.Proofs.YtfbfjhppppoilaaDoor.E
set_option linter.unusedVariables false
set_option linter.unusedSimpArgs false
set_option linter.unusedSectionVars false

/-- the block b is a variable of type e, of these cells -/
structure Var (e : TypeId) (H : Heap) (b : Nat) (cs : List Value) : Prop where
  row : Row H b cs.toArray e

theorem Var.lt {e : TypeId} {H : Heap} {b : Nat} {cs : List Value} (h : Var e H b cs) : b < H.size := h.row.lt
theorem Var.up {e : TypeId} {H H' : Heap} {b : Nat} {cs : List Value} {S : Nat → Prop} (h : Var e H b cs) (s : Mo S H H') (hS : ¬ S b) : Var e H' b cs := ⟨h.row.up (s.same b h.lt hS)⟩
theorem Var.nw {e : TypeId} {H H' : Heap} {b : Nat} {cs : List Value} (h : Var e H b cs) (s : Nw H H') : Var e H' b cs := h.up s (fun e => e)
theorem Var.pt {e : TypeId} {H : Heap} {b : Nat} {cs : List Value} (h : Var e H b cs) : Pt H ⟨b, 0, none⟩ cs :=
  ⟨rfl, fun j c hc => by simp only [Nat.zero_add]; rw [h.row.cell]; simpa using hc⟩
theorem Var.new (H : Heap) (cs : Array Value) (t : TypeId) : Var t (H.push (.cells cs t)) H.size cs.toList := ⟨.of (by simp)⟩

/-- the cells vs are written at i -/
def splice (cs : List Value) (i : Nat) (vs : List Value) : List Value := cs.take i ++ vs ++ cs.drop (i + vs.length)
theorem splice_length {cs : List Value} {i : Nat} {vs : List Value} (h : i + vs.length ≤ cs.length) : (splice cs i vs).length = cs.length := by
  simp [splice]; omega

section
variable {P : Program} {w0 : World} {n : Nat} {l : FL} {H : Heap} {o : Oper}

theorem Z.allocv {t : TypeId} {z : Value} (ho : o.op = .alloc t) (hz : ∀ w, (zeroValue t).run P w = .ok z w) : Z P w0 n l H o (fun v H' => v = .pointer (some ⟨H.size, 0, none⟩) ∧ Var t H' H.size z.cells.toList ∧ Nw H H' ∧ ∃ ob, H' = H.push ob) := by
  intro a w hf ha
  obtain ⟨v, H', w', h1, h2, h3, h4⟩ := Z.alloc (P := P) (w0 := w0) (n := n) (l := l) (H := H) ho hz a w hf ha
  subst h4
  exact ⟨v, _, w', h1, h2, h3, Var.new _ _ _, Nw.pu _ _, _, rfl⟩
theorem Z.boxv {t : TypeId} {x : Operand} {v : Value} (ho : o.op = .box t x) (hx : opv l x = some v) : Z P w0 n l H o (fun r H' => r = .pointer (some ⟨H.size, 0, none⟩) ∧ Var t H' H.size v.cells.toList ∧ Nw H H' ∧ ∃ ob, H' = H.push ob) := by
  intro a w hf ha
  obtain ⟨v, H', w', h1, h2, h3, h4⟩ := Z.box (P := P) (w0 := w0) (n := n) (H := H) ho hx a w hf ha
  subst h4
  exact ⟨v, _, w', h1, h2, h3, Var.new _ _ _, Nw.pu _ _, _, rfl⟩

theorem cells_one {v : Value} (h : v.oneCell' = true) : v.cells.toList = [v] := by cases v <;> first | (simp [Value.oneCell'] at h; done) | rfl
theorem Z.boxv1 {t : TypeId} {x : Operand} {v : Value} (ho : o.op = .box t x) (hx : opv l x = some v) (h1 : v.oneCell' = true) : Z P w0 n l H o (fun r H' => r = .pointer (some ⟨H.size, 0, none⟩) ∧ Var t H' H.size [v] ∧ Nw H H' ∧ ∃ ob, H' = H.push ob) := by
  intro a w hf ha
  obtain ⟨r, H', w', q1, q2, q3, q4, q5, q6⟩ := Z.boxv (P := P) (w0 := w0) (n := n) (H := H) ho hx a w hf ha
  rw [cells_one h1] at q4
  exact ⟨r, H', w', q1, q2, q3, q4, q5, q6⟩

theorem At.row {w : World} (ha : At w0 H w) (g : Nat) (c : Array Value) : At w0 (w.setRow g c).heap (w.setRow g c) := ⟨rfl, ha.os, ha.tape, ha.output, ha.dr⟩
theorem setRow_mo {w : World} (ha : At w0 H w) (g : Nat) (c : Array Value) : Mo (fun b => b = g) H (w.setRow g c).heap :=
  ⟨by rw [← ha.heap]; simp [World.setRow], fun b hb hn => by rw [← ha.heap]; exact setRow_other w g b _ (fun e => hn e)⟩
theorem setRow_row {w : World} (ha : At w0 H w) {g : Nat} {cur c : Array Value} {e : TypeId} (h : Row H g cur e) (hc : c.size = cur.size) : Row (w.setRow g c).heap g c e := by
  obtain ⟨fz, h1, h2⟩ := h
  exact ⟨fz, setRow_heap w g cur _ e _ (by rw [ha.heap]; exact h1), by rw [hc]; exact h2⟩

/-- a store of a whole value into a block of cells -/
theorem S.cells {x y : Operand} {t : TypeId} {b i k : Nat} {c : Value} {cs : Array Value} {e : TypeId} (ho : o.op = .store t x y) (hx : opv l x = some (.pointer (some ⟨b, i, none⟩))) (hy : opv l y = some c) (h1 : ∀ u ∈ c.cells.toList, u.oneCell' = true)
    (hs : ∀ w, (sizeOf t).run P w = .ok k w) (hk : c.cells.size = k) (hb : Row H b cs e) (hi : i + k ≤ cs.size) : S P w0 n l H o (fun H' => Row H' b (splice cs.toList i c.cells.toList).toArray e ∧ Mo (fun g => g = b) H H') := by
  intro a w hf ha
  obtain ⟨fz, hb1, hb2⟩ := id hb
  have hr := run_storeCells_soft P b i e fz c.cells.toList 0 cs w (by rw [ha.heap]; exact hb1) hb2 (by simp [hk]; omega) h1
  simp only [Nat.add_zero] at hr
  refine ⟨_, w.setRow b (splice cs.toList i c.cells.toList).toArray, ?_, ha.row _ _, setRow_row ha hb (by simp [splice, hk]; omega), setRow_mo ha _ _⟩
  simp [execOp, ho, hf.eval hx, hf.eval hy, Instr.storeAt, Instr.sureAddr, storeVar, hk, hs, hr, splice]

theorem S.var {x y : Operand} {t : TypeId} {b i k : Nat} {c : Value} {cs : List Value} {e : TypeId} (h : Var e H b cs) (vs cs' : List Value) (ho : o.op = .store t x y) (hx : opv l x = some (.pointer (some ⟨b, i, none⟩))) (hy : opv l y = some c) (hc : c.cells.toList = vs) (h1 : ∀ u ∈ vs, u.oneCell' = true)
    (hs : ∀ w, (sizeOf t).run P w = .ok k w) (hk : vs.length = k) (hi : i + k ≤ cs.length) (hz : splice cs i vs = cs') : S P w0 n l H o (fun H' => Var e H' b cs' ∧ Mo (fun g => g = b) H H') := by
  subst hc hz
  intro a w hf ha
  obtain ⟨H', w', q1, q2, q3, q4⟩ := S.cells (P := P) (w0 := w0) (n := n) ho hx hy h1 hs (by simpa using hk) h.row (by simpa using hi) a w hf ha
  exact ⟨H', w', q1, q2, ⟨q3⟩, q4⟩

theorem splice_one {cs : List Value} {i : Nat} {c : Value} (h : i < cs.length) : splice cs i [c] = cs.set i c := by
  simp [splice, List.set_eq_take_append_cons_drop, h]
theorem S.var1 {x y : Operand} {t : TypeId} {b : Nat} {c : Value} {cs : List Value} {e : TypeId} (h : Var e H b cs) (i : Nat) (cs' : List Value) (ho : o.op = .store t x y) (hx : opv l x = some (.pointer (some ⟨b, i, none⟩))) (hy : opv l y = some c) (h1 : c.oneCell' = true)
    (hs : ∀ w, (sizeOf t).run P w = .ok 1 w) (hi : i < cs.length) (hz : cs.set i c = cs') : S P w0 n l H o (fun H' => Var e H' b cs' ∧ Mo (fun g => g = b) H H') :=
  S.var h [c] cs' ho hx hy (cells_one h1) (by simpa using h1) hs rfl (by omega) ((splice_one hi).trans hz)

section
variable {α : Type} {G F : Nat → Prop} {e : TypeId} {f : α → List Value} {sz : Nat} {v : Value} {xs ys : List α}

theorem splice_flatMap {f : α → List Value} {sz : Nat} (hf : ∀ x, (f x).length = sz) : ∀ (l : List α) (j k : Nat) (x y : α) (vs post : List Value), l[j]? = some x → k + vs.length ≤ sz → f y = splice (f x) k vs → splice (l.flatMap f ++ post) (j * sz + k) vs = (l.set j y).flatMap f ++ post
  | [], _, _, _, _, _, _, h, _, _ => by simp at h
  | z :: l, 0, k, x, y, vs, post, h, hk, hy => by
    simp only [List.getElem?_cons_zero, Option.some.injEq] at h
    subst h
    have hz := hf z
    simp only [List.set_cons_zero, List.flatMap_cons, hy, Nat.zero_mul, Nat.zero_add, splice, List.append_assoc]
    rw [List.take_append_of_le_length (by omega), List.drop_append_of_le_length (by omega)]
  | z :: l, j + 1, k, x, y, vs, post, h, hk, hy => by
    simp only [List.getElem?_cons_succ] at h
    have := splice_flatMap hf l j k x y vs post h hk hy
    have hz := hf z
    simp only [List.set_cons_succ, List.flatMap_cons, splice, List.append_assoc] at this ⊢
    rw [List.take_append, List.take_of_length_le (by rw [hz, Nat.add_mul]; omega), List.drop_append, List.drop_of_length_le (by rw [hz, Nat.add_mul]; omega), List.nil_append, List.append_assoc]
    congr 1
    rw [show (j + 1) * sz + k - (f z).length = j * sz + k by rw [hz, Nat.add_mul]; omega, show (j + 1) * sz + k + vs.length - (f z).length = j * sz + k + vs.length by rw [hz, Nat.add_mul]; omega]
    exact this

/-- a store of a value of any size into an element of a row that is owned -/
theorem S.ownN {x y : Operand} {t : TypeId} {c : Value} {m : Nat} (h : Own G e H f sz v xs) (j k : Nat) (z : α) (vs : List Value) (ho : o.op = .store t x y) (hx : opv l x = some (.pointer (some ⟨blk v, j * sz + k, none⟩))) (hy : opv l y = some c) (hc : c.cells.toList = vs) (h1 : ∀ u ∈ vs, u.oneCell' = true)
    (hs : ∀ w, (sizeOf t).run P w = .ok m w) (hm : vs.length = m) (hj : j < xs.length) (hk : k + m ≤ sz) (hz : f z = splice (f xs[j]) k vs) : S P w0 n l H o (fun H' => Own G e H' f sz v (xs.set j z) ∧ Mo (fun b => b = blk v) H H') := by
  subst hc
  intro a w hf ha
  rcases h.ex with ⟨rfl, rfl⟩ | ⟨g, cap, cur, hv, hg, hh, r1, r2, r3, r4⟩
  · simp at hj
  · have hb : blk v = g := by rw [hv]; rfl
    have hlt : j * sz + k + m ≤ cur.size := by
      have := Nat.mul_le_mul_right sz (show j + 1 ≤ cap by omega)
      rw [Nat.add_mul] at this; omega
    obtain ⟨H', w', q1, q2, q3, q4⟩ := S.cells (P := P) (w0 := w0) (n := n) ho (by rw [hb] at hx; exact hx) hy h1 hs (by simpa using hm) hh hlt a w hf ha
    refine ⟨H', w', q1, q2, ⟨h.cells, h.one, .inr ⟨g, cap, _, by rw [List.length_set]; exact hv, hg, q3, by rw [List.length_set]; exact r1, r2, ?_, ?_⟩⟩, by rw [hb]; exact q4⟩
    · rw [List.size_toArray, splice_length (by simp at hm ⊢; omega)]; simpa using r3
    · have hlx := length_flatMap h.cells xs
      have hcur : cur.toList = xs.flatMap f ++ cur.toList.drop (xs.length * sz) := by rw [← r4, List.take_append_drop]
      rw [hcur, splice_flatMap h.cells xs j k xs[j] z _ _ (by simp [hj]) (by rw [hm]; exact hk) hz, List.length_set, ← hlx]
      have := length_flatMap h.cells (xs.set j z)
      rw [List.length_set] at this
      rw [hlx, ← this]
      exact List.take_left

/-- the front of a row that is owned is owned -/
theorem Own.front {cap : Nat} {ad : Option Addr} {k : Nat} (h : Own G e H f sz (.slice ad xs.length cap) xs) (hk : k ≤ xs.length) (hne : xs ≠ []) : Own G e H f sz (.slice ad k cap) (xs.take k) := by
  refine ⟨h.cells, h.one, ?_⟩
  rcases h.ex with ⟨_, rfl⟩ | ⟨g, cap', cur, hv, hg, hh, r1, r2, r3, r4⟩
  · exact absurd rfl hne
  · simp only [Value.slice.injEq, true_and] at hv
    obtain ⟨rfl, rfl⟩ := hv
    have hl : (xs.take k).length = k := by simp; omega
    refine .inr ⟨g, cap, cur, by rw [hl], hg, hh, by omega, r2, r3, ?_⟩
    rw [hl]
    have : (xs.take k).flatMap f = (xs.flatMap f).take (k * sz) := by
      have h2 : xs.flatMap f = (xs.take k).flatMap f ++ (xs.drop k).flatMap f := by rw [← List.flatMap_append, List.take_append_drop]
      rw [h2, ← hl, ← length_flatMap h.cells (xs.take k), hl]
      rw [List.take_left]
    rw [this, ← r4, List.take_take]
    congr 1
    exact (Nat.min_eq_left (Nat.mul_le_mul_right _ hk)).symm

/-- s[lo:hi:max] -/
theorem Y.slice3 {x : Operand} {lo hi mx : Option Operand} {t e : TypeId} (h : Rd F H f sz v xs) (i j m : Nat) (ho : o.op = .slice t x lo hi mx) (ht : ∀ w, (underlying t).run P w = .ok (.slice e) w) (hs : ∀ w, (sizeOf e).run P w = .ok sz w) (hx : opv l x = some v)
    (hlo : lo = none ∧ i = 0 ∨ ∃ p k iv, lo = some p ∧ opv l p = some (.int k iv) ∧ iv = (i : Int)) (hhi : ∃ p k iv, hi = some p ∧ opv l p = some (.int k iv) ∧ iv = (j : Int)) (hmx : ∃ p k iv, mx = some p ∧ opv l p = some (.int k iv) ∧ iv = (m : Int)) (hij : i ≤ j) (hj : j ≤ m) (hm : m ≤ xs.length) :
    ∃ v', (∀ H', Y P w0 n l H' o v') ∧ Rd F H f sz v' ((xs.take j).drop i) := by
  obtain ⟨a, cap, rfl, h1, h2, h3⟩ := h.ex
  refine ⟨.slice (if m = i then a else a.map (·.add (i * sz))) (j - i) (m - i), ?_, ?_⟩
  · intro H' ac w hf ha
    have e1 : ∀ w, (Instr.sliceBounds true xs.length cap (lo.map ac.eval) (hi.map ac.eval) (mx.map ac.eval)).run P w = .ok (i, j, m) w := by
      intro w
      have b2 : m ≤ cap := by omega
      obtain ⟨p2, k2, iv2, rfl, h4, rfl⟩ := hhi
      obtain ⟨p3, k3, iv3, rfl, h5, rfl⟩ := hmx
      rcases hlo with ⟨rfl, rfl⟩ | ⟨p, k, iv, rfl, h1, rfl⟩ <;>
        simp [Instr.sliceBounds, Instr.sliceBound, asIntOf, hf.eval, *]
    have hu : ∀ w, (underlying t).run P w = .ok (.slice e) w := ht
    simp [execOp, ho, hf.eval hx, Instr.sliceAt, Instr.slice, hu, hs, e1]
  · have hlen : ((xs.take j).drop i).length = j - i := by simp; omega
    refine ⟨_, _, by rw [hlen], by rw [hlen]; omega, by omega, fun hne => ?_⟩
    have hji : i < j := by
      apply Decidable.byContradiction; intro hc
      exact hne (List.eq_nil_of_length_eq_zero (by rw [hlen]; omega))
    obtain ⟨ad, rfl, e2, e3, e4, e5⟩ := h3 (by intro e; subst e; simp at hm; omega)
    rw [if_neg (by omega)]
    refine ⟨ad.add (i * sz), rfl, by rw [add_eq e2], by rw [add_eq e2]; exact e3, by rw [add_eq e2]; exact e4, fun q y hy => ?_⟩
    rw [add_eq e2]
    rw [List.getElem?_drop, List.getElem?_take] at hy
    split at hy
    · have := e5 (i + q) y hy
      simpa [Nat.add_mul, Nat.add_assoc] using this
    · cases hy
end

/-! bytes and texts -/
theorem fold_push (l : List UInt8) : ∀ acc : List UInt8, (l.map (fun b => (b.toNat : Int))).foldl (fun r n => r.push (UInt8.ofNat n.toNat)) (ByteArray.mk acc.toArray) = ByteArray.mk (acc ++ l).toArray := by
  induction l with
  | nil => intro acc; simp
  | cons b l ih =>
    intro acc
    rw [List.map_cons, List.foldl_cons]
    have : (ByteArray.mk acc.toArray).push (UInt8.ofNat ((b.toNat : Int)).toNat) = ByteArray.mk (acc ++ [b]).toArray := by
      simp [ByteArray.push]
    rw [this, ih]
    simp
theorem flatMap_fB (l : List UInt8) : l.flatMap fB = l.map (fun b => Value.int .u8 b.toNat) := by
  induction l with
  | nil => rfl
  | cons b l ih => simp [ih]
theorem data_map (s : List UInt8) : Array.map (fun b : UInt8 => Value.int .u8 (b.toNat : Int)) s.toArray = (s.flatMap fB).toArray := by
  rw [flatMap_fB]; simp

theorem Y.bstr {F : Nat → Prop} {x : Operand} {t u e : TypeId} {v : Value} {xs : List UInt8} (h : Rd F H fB 1 v xs) (ho : o.op = .convert t u x) (ht : P.underlying t = some (.slice e)) (hu : P.underlying u = some .string) (he : P.underlying e = some (.int .u8)) (hx : opv l x = some v) : Y P w0 n l H o (Str xs) := by
  intro a w hf ha
  obtain ⟨ad, cap, rfl, _, _, h3⟩ := id h.ex
  have hc := run_convert_bytes_string (P := P) w t u e ad xs.length cap ht he hu
  cases ad with
  | none =>
    have hxs : xs = [] := by
      apply Decidable.byContradiction; intro hne
      obtain ⟨ad, hn, _⟩ := h3 hne
      cases hn
    subst hxs
    have hc' : (convert t u (.slice none 0 cap)).run P w = .ok (Str []) w := by
      rw [show (0 : Nat) = ([] : List UInt8).length from rfl, hc]; rfl
    simp [execOp, ho, hf.eval hx, hc']
  | some ad =>
    have hnews := h.pts fB_len rfl ha
    have hl := run_loadCells_list (P := P) w ad (xs.flatMap fB) hnews
    have hlen : (xs.flatMap fB).length = xs.length := by rw [length_flatMap fB_len, Nat.mul_one]
    have hb := run_bytesToString (P := P) w ad xs.length cap (xs.map (fun b => (b.toNat : Int))) (by
      rw [hlen] at hl
      rw [hl, flatMap_fB, List.map_map]; rfl)
    have hfp := fold_push xs []
    simp only [List.nil_append] at hfp
    have hemp : ByteArray.empty = ByteArray.mk ([] : List UInt8).toArray := rfl
    rw [hemp, hfp] at hb
    simp [execOp, ho, hf.eval hx, hc, hb, Str]

theorem Z.strb {x : Operand} {t u e : TypeId} {ut : TypeDesc} {s : List UInt8} (ho : o.op = .convert t u x) (ht : P.underlying t = some ut) (hu : P.underlying u = some (.slice e)) (he : P.underlying e = some (.int .u8)) (hx : opv l x = some (Str s)) (hb : s.length ≤ 9223372036854775807) :
    Z P w0 n l H o (fun r H' => Own (fun b => b = H.size) e H' fB 1 r s ∧ Nw H H' ∧ H'.size = H.size + 1) := by
  intro a w hf ha
  have hr := Lib.run_convert_string_bytes (P := P) w t u e (ByteArray.mk s.toArray) ht hu he
  have hsz := str_size s
  have hge := grownCap_ge w s.length 0 e
  have hcm : grownCap w s.length 0 e ≤ maxLen := grownCap_le_maxLen w s.length 0 e (by unfold maxLen; omega)
  have hcs : (Lib.bytesCells w e (ByteArray.mk s.toArray)).size = grownCap w s.length 0 e := by
    simp only [Lib.bytesCells, hsz, data_map, Array.size_append, List.size_toArray, length_flatMap fB_len, Array.size_replicate, Nat.mul_one]; omega
  refine ⟨_, (Lib.bytesWorld w e (ByteArray.mk s.toArray)).heap, Lib.bytesWorld w e (ByteArray.mk s.toArray), by simp [execOp, ho, hf.eval hx, hr, Str]; rfl, ⟨rfl, ?_, ?_, ?_, ?_⟩, ⟨fB_len, fB_one, .inr ⟨w.heap.size, grownCap w s.length 0 e, _, by rw [hsz], ha.heap ▸ rfl, ⟨_, Lib.bytesWorld_at_new w e _, ?_⟩, hge, hcm, ?_, ?_⟩⟩, ⟨?_, ?_⟩, ?_⟩
  · have := ha.os; simp only [Lib.bytesWorld, World.freeze]; exact this
  · have := ha.tape; simp only [Lib.bytesWorld, World.freeze]; exact this
  · have := ha.output; simp only [Lib.bytesWorld, World.freeze]; exact this
  · have := ha.dr; simp only [Lib.bytesWorld, World.freeze]; first | exact this | exact Nat.le_succ_of_le this
  · refine ⟨by simp only; omega, ?_⟩; intro i hi hc; simp only at hc; omega
  · rw [hcs, Nat.mul_one]
  · simp only [Lib.bytesCells, data_map, Array.toList_append]
    rw [← length_flatMap fB_len s]
    exact List.take_left
  · rw [Lib.bytesWorld_size, ha.heap]; omega
  · intro b hb _; rw [← ha.heap] at hb ⊢; exact Lib.bytesWorld_at_old w e _ b hb
  · rw [Lib.bytesWorld_size, ha.heap]

theorem strCells_eq (s : List UInt8) : Lib.strCells (ByteArray.mk s.toArray) = s.flatMap fB := by
  rw [flatMap_fB]; simp [Lib.strCells]

theorem run_append_soft_string {w : World} (t u ty e : TypeId) (i : TypeInfo) (ht : P.underlying t = some (.slice e)) (hu : P.underlying u = some .string) (hi : P.info? e = some i) (hs1 : i.size = 1)
    (g sLen sCap : Nat) (cur : Array Value) (fz : Nat × Nat) (hg : w.heap[g]? = some (.cells cur e fz)) (hfz : Soft fz cur.size) (s : ByteArray)
    (hroom : sLen + s.size ≤ sCap) (hfit : sLen + s.size ≤ cur.size) :
    (Builtin.append_ #[t, u] ty #[.slice (some ⟨g, 0, none⟩) sLen sCap, .string s]).run P w =
      .ok (.slice (some ⟨g, 0, none⟩) (sLen + s.size) sCap) (w.setRow g (cur.toList.take sLen ++ Lib.strCells s ++ cur.toList.drop (sLen + s.size)).toArray) := by
  have hf := Lib.run_firstCells_string (P := P) w 1 s
  have hst := run_storeCells_soft P g sLen e fz (Lib.strCells s) 0 cur w hg hfz (by simpa [Lib.strCells_length] using hfit) (Lib.strCells_oneCell s)
  simp only [Nat.add_zero, Lib.strCells_length] at hst
  simp [Builtin.append_, run_underlying ht, run_underlying hu, sizeOf, typeInfo, hi, hs1, Builtin.lenOf, hroom, hf, Addr.add_lit, hst]

theorem Z.appendStr {G : Nat → Prop} {e : TypeId} {v : Value} {xs ys : List UInt8} {s x : Operand} {t u : TypeId} (h : Own G e H fB 1 v xs) (ho : o.op = .call { callee := .builtin .append, args := #[s, x], argTypes := #[t, u] })
    (hinf : Inf P t e 1 1) (hu : P.underlying u = some .string) (hs : opv l s = some v) (hx : opv l x = some (Str ys)) (hm : xs.length + ys.length ≤ 140737488355328) :
    Z P w0 n l H o (fun r H' => Own (fun b => G b ∨ H.size ≤ b) e H' fB 1 r (xs ++ ys) ∧ Mo G H H') := by
  obtain ⟨ht, i, z, hi, hz, hsz, hby, hzs⟩ := hinf
  intro a w hf ha
  have hl : (ys.flatMap fB).length = ys.length := by rw [length_flatMap fB_len, Nat.mul_one]
  have hlx : (xs.flatMap fB).length = xs.length := by rw [length_flatMap fB_len, Nat.mul_one]
  have hss := str_size ys
  have grown : ∀ (old : Nat) (r : Value), old < xs.length + ys.length → r = .slice (some ⟨w.heap.size, 0, none⟩) (xs.length + ys.length) (grownCap w (xs.length + ys.length) old e) → ∀ ob, ob = Obj.cells (((xs ++ ys).flatMap fB).toArray ++ Builtin.zeroCells z.cells (grownCap w (xs.length + ys.length) old e - (xs.length + ys.length))) e →
      At w0 (w.drew.alloc ob).heap (w.drew.alloc ob) ∧ Own (fun b => G b ∨ H.size ≤ b) e (w.drew.alloc ob).heap fB 1 r (xs ++ ys) ∧ Mo G H (w.drew.alloc ob).heap := by
    rintro old r ho' rfl ob rfl
    have hge := grownCap_ge w (xs.length + ys.length) old e
    have hcm : grownCap w (xs.length + ys.length) old e ≤ maxLen := grownCap_le_maxLen w (xs.length + ys.length) old e (by unfold maxLen; omega)
    have ha2 : At w0 H w.drew := ha.drew
    refine ⟨⟨rfl, ha.os, ha.tape, ha.output, ha2.dr⟩, ?_, ?_⟩
    · have := Own.new (e := e) (G' := fun b => G b ∨ H.size ≤ b) (w := w.drew) (z := z) (cap := grownCap w (xs.length + ys.length) old e) (zs := xs ++ ys) h.cells h.one hzs (.inr (by rw [ha2.heap]; exact Nat.le_refl _)) (by simpa using hge) hcm
      simpa using this
    · rw [(ha2.alloc _).heap]; exact Mo.push _ _ _
  rcases h.ex with ⟨rfl, rfl⟩ | ⟨g, cap', cur, rfl, hg, hh, r1, r2, r3, r4⟩
  · by_cases hm0 : ys.length = 0
    · have hys : ys = [] := List.eq_nil_of_length_eq_zero hm0
      subst hys
      refine ⟨.slice none 0 0, H, w, ?_, ha, by simpa using h.imp (fun b _ hg => .inl hg), Mo.refl _ _⟩
      have he : (ByteArray.mk ([] : List UInt8).toArray).size = 0 := rfl
      simp only [execOp, ho]
      simp [resolve, invoke, builtin, hf.eval hs, hf.eval hx, Builtin.append_, run_underlying ht, run_underlying hu, sizeOf, typeInfo, hi, Builtin.lenOf, Builtin.firstCells, Str, he]
    · simp only [List.length_nil, Nat.zero_add] at hm
      have hrun := run_append_nil_string (P := P) w t u o.type e i z ht hu hi hz (ByteArray.mk ys.toArray) (by omega) (by omega) (by rw [hss, hby]; omega)
      rw [hss, data_map] at hrun
      have := grown 0 _ (by simp; omega) rfl _ rfl
      simp only [List.length_nil, Nat.zero_add, List.nil_append] at this
      exact ⟨_, _, _, by simp [execOp, ho, resolve, invoke, builtin, hf.eval hs, hf.eval hx, Str, hrun], this.1, this.2.1, this.2.2⟩
  · obtain ⟨fz, hh0, hsf⟩ := id hh
    have hg' : w.heap[g]? = some (.cells cur e fz) := by rw [ha.heap]; exact hh0
    rw [Nat.mul_one] at r3 r4
    by_cases hroom : xs.length + ys.length ≤ cap'
    · have hrun := run_append_soft_string (P := P) (w := w) t u o.type e i ht hu hi hsz g xs.length cap' cur fz hg' hsf (ByteArray.mk ys.toArray) (by omega) (by omega)
      rw [hss, strCells_eq] at hrun
      refine ⟨.slice (some ⟨g, 0, none⟩) (xs.length + ys.length) cap', (w.setRow g (cur.toList.take xs.length ++ ys.flatMap fB ++ cur.toList.drop (xs.length + ys.length)).toArray).heap, w.setRow g (cur.toList.take xs.length ++ ys.flatMap fB ++ cur.toList.drop (xs.length + ys.length)).toArray, by simp [execOp, ho, resolve, invoke, builtin, hf.eval hs, hf.eval hx, Str, hrun], ⟨rfl, ha.os, ha.tape, ha.output, ha.dr⟩, ⟨h.cells, h.one, .inr ⟨g, cap', _, by rw [List.length_append], .inl hg, ⟨fz, setRow_heap w g cur _ e _ hg', hsf.1, fun i hi => hsf.2 i (by simp only [List.size_toArray, List.length_append, List.length_take, List.length_drop, Array.length_toList] at hi; omega)⟩, by simpa using hroom, r2, ?_, ?_⟩⟩, ⟨by rw [← ha.heap]; simp [World.setRow], fun b hb hn => ?_⟩⟩
      · simp only [List.size_toArray, List.length_append, List.length_take, List.length_drop, Array.length_toList]
        omega
      · rw [r4, List.length_append, Nat.mul_one, List.flatMap_append]
        have : xs.length + ys.length = (xs.flatMap fB ++ ys.flatMap fB).length := by rw [List.length_append, hl, hlx]
        rw [this]
        exact List.take_left
      · rw [← ha.heap]; exact setRow_other w g b _ (fun e => hn (e ▸ hg))
    · have holds : ∀ j c, (xs.flatMap fB)[j]? = some c → w.cell? ((⟨g, 0, none⟩ : Addr).add j) = some c := h.rd.pts h.cells rfl ha
      have hrun := Lib.run_append_grow_string (P := P) w t u o.type e i z ht hu hi hz ⟨g, 0, none⟩ xs.length cap' (xs.flatMap fB) (by rw [hlx, hsz, Nat.mul_one]) holds (ByteArray.mk ys.toArray) (by omega) (by omega) (by rw [hss, hby]; exact growslice_fits (by omega) (by omega))
      rw [hss, strCells_eq] at hrun
      have := grown cap' _ (by omega) rfl _ rfl
      rw [List.flatMap_append, ← List.append_toArray] at this
      exact ⟨_, _, _, by simp [execOp, ho, resolve, invoke, builtin, hf.eval hs, hf.eval hx, Str, hrun], this.1, this.2.1, this.2.2⟩
end
end Go.Proofs.YtfbfjhppppoilaaDoor.E
