/-
  Rules for variables behind pointers, stores of whole structs, bytes turned to texts and back, copies, full slices: no condition.
-/
import Derived.Test.YtfbfjhppppoilaaDoorMap
import Derived.Lib.ConvBytes
import Derived.Lib.AppendStr
namespace Go.Proofs.YtfbfjhppppoilaaDoor.E
set_option linter.unusedVariables false
set_option linter.unusedSimpArgs false
set_option linter.unusedSectionVars false

/-- the block b is a variable of type e, of these cells -/
structure Var (e : TypeId) (H : Heap) (b : Nat) (cs : List Value) : Prop where
  row : Row H b cs.toArray e

theorem Var.lt {e : TypeId} {H : Heap} {b : Nat} {cs : List Value} (h : Var e H b cs) : b < H.size := h.row.lt
theorem Var.up {e : TypeId} {H H' : Heap} {b : Nat} {cs : List Value} {S : Nat → Prop} (h : Var e H b cs) (s : Mo S H H') (hS : ¬ S b) : Var e H' b cs := ⟨h.row.up (s.same b h.lt hS)⟩
theorem Var.nw {e : TypeId} {H H' : Heap} {b : Nat} {cs : List Value} (h : Var e H b cs) (s : Nw H H') : Var e H' b cs := h.up s (fun e => e)
theorem Var.pt {e : TypeId} {H : Heap} {b : Nat} {cs : List Value} (h : Var e H b cs) : Pt H ⟨b, 0, none⟩ cs :=
  ⟨rfl, fun j c hc => by simp only [Nat.zero_add]; rw [h.row.cell]; simpa using hc⟩
theorem Var.new (H : Heap) (cs : Array Value) (t : TypeId) : Var t (H.push (.cells cs t)) H.size cs.toList := ⟨.of (by simp)⟩

/-- the cells vs are written at i -/
def splice (cs : List Value) (i : Nat) (vs : List Value) : List Value := cs.take i ++ vs ++ cs.drop (i + vs.length)
section
variable {P : Program} {w0 : World} {n : Nat} {l : FL} {H : Heap} {o : Oper}

theorem Z.allocv {t : TypeId} {z : Value} (ho : o.op = .alloc t) (hz : ∀ w, (zeroValue t).run P w = .ok z w) : Z P w0 n l H o (fun v H' => v = .pointer (some ⟨H.size, 0, none⟩) ∧ Var t H' H.size z.cells.toList ∧ Nw H H' ∧ ∃ ob, H' = H.push ob) := by
  intro a w hf ha
  obtain ⟨v, H', w', h1, h2, h3, h4⟩ := Z.alloc (P := P) (w0 := w0) (n := n) (l := l) (H := H) ho hz a w hf ha
  subst h4
  exact ⟨v, _, w', h1, h2, h3, Var.new _ _ _, Nw.pu _ _, _, rfl⟩
theorem Z.boxv {t : TypeId} {x : Operand} {v : Value} (ho : o.op = .box t x) (hx : opv l x = some v) : Z P w0 n l H o (fun r H' => r = .pointer (some ⟨H.size, 0, none⟩) ∧ Var t H' H.size v.cells.toList ∧ Nw H H' ∧ ∃ ob, H' = H.push ob) := by
  intro a w hf ha
  obtain ⟨v, H', w', h1, h2, h3, h4⟩ := Z.box (P := P) (w0 := w0) (n := n) (H := H) ho hx a w hf ha
  subst h4
  exact ⟨v, _, w', h1, h2, h3, Var.new _ _ _, Nw.pu _ _, _, rfl⟩

theorem cells_one {v : Value} (h : v.oneCell' = true) : v.cells.toList = [v] := by cases v <;> first | (simp [Value.oneCell'] at h; done) | rfl
theorem Z.boxv1 {t : TypeId} {x : Operand} {v : Value} (ho : o.op = .box t x) (hx : opv l x = some v) (h1 : v.oneCell' = true) : Z P w0 n l H o (fun r H' => r = .pointer (some ⟨H.size, 0, none⟩) ∧ Var t H' H.size [v] ∧ Nw H H' ∧ ∃ ob, H' = H.push ob) := by
  intro a w hf ha
  obtain ⟨r, H', w', q1, q2, q3, q4, q5, q6⟩ := Z.boxv (P := P) (w0 := w0) (n := n) (H := H) ho hx a w hf ha
  rw [cells_one h1] at q4
  exact ⟨r, H', w', q1, q2, q3, q4, q5, q6⟩

theorem At.row {w : World} (ha : At w0 H w) (g : Nat) (c : Array Value) : At w0 (w.setRow g c).heap (w.setRow g c) := ⟨rfl, ha.os, ha.tape, ha.output, ha.dr⟩
theorem setRow_mo {w : World} (ha : At w0 H w) (g : Nat) (c : Array Value) : Mo (fun b => b = g) H (w.setRow g c).heap :=
  ⟨by rw [← ha.heap]; simp [World.setRow], fun b hb hn => by rw [← ha.heap]; exact setRow_other w g b _ (fun e => hn e)⟩
theorem setRow_row {w : World} (ha : At w0 H w) {g : Nat} {cur c : Array Value} {e : TypeId} (h : Row H g cur e) (hc : c.size = cur.size) : Row (w.setRow g c).heap g c e := by
  obtain ⟨fz, h1, h2⟩ := h
  exact ⟨fz, setRow_heap w g cur _ e _ (by rw [ha.heap]; exact h1), by rw [hc]; exact h2⟩

/-- a store of a whole value into a block of cells -/
theorem S.cells {x y : Operand} {t : TypeId} {b i k : Nat} {c : Value} {cs : Array Value} {e : TypeId} (ho : o.op = .store t x y) (hx : opv l x = some (.pointer (some ⟨b, i, none⟩))) (hy : opv l y = some c) (h1 : ∀ u ∈ c.cells.toList, u.oneCell' = true)
    (hs : ∀ w, (sizeOf t).run P w = .ok k w) (hk : c.cells.size = k) (hb : Row H b cs e) (hi : i + k ≤ cs.size) : S P w0 n l H o (fun H' => Row H' b (splice cs.toList i c.cells.toList).toArray e ∧ Mo (fun g => g = b) H H') := by
  intro a w hf ha
  obtain ⟨fz, hb1, hb2⟩ := id hb
  have hr := run_storeCells_soft P b i e fz c.cells.toList 0 cs w (by rw [ha.heap]; exact hb1) hb2 (by simp [hk]; omega) h1
  simp only [Nat.add_zero] at hr
  refine ⟨_, w.setRow b (splice cs.toList i c.cells.toList).toArray, ?_, ha.row _ _, setRow_row ha hb (by simp [splice, hk]; omega), setRow_mo ha _ _⟩
  simp [execOp, ho, hf.eval hx, hf.eval hy, Instr.storeAt, Instr.sureAddr, storeVar, hk, hs, hr, splice]

theorem S.var {x y : Operand} {t : TypeId} {b i k : Nat} {c : Value} {cs : List Value} {e : TypeId} (h : Var e H b cs) (vs cs' : List Value) (ho : o.op = .store t x y) (hx : opv l x = some (.pointer (some ⟨b, i, none⟩))) (hy : opv l y = some c) (hc : c.cells.toList = vs) (h1 : ∀ u ∈ vs, u.oneCell' = true)
    (hs : ∀ w, (sizeOf t).run P w = .ok k w) (hk : vs.length = k) (hi : i + k ≤ cs.length) (hz : splice cs i vs = cs') : S P w0 n l H o (fun H' => Var e H' b cs' ∧ Mo (fun g => g = b) H H') := by
  subst hc hz
  intro a w hf ha
  obtain ⟨H', w', q1, q2, q3, q4⟩ := S.cells (P := P) (w0 := w0) (n := n) ho hx hy h1 hs (by simpa using hk) h.row (by simpa using hi) a w hf ha
  exact ⟨H', w', q1, q2, ⟨q3⟩, q4⟩

theorem splice_one {cs : List Value} {i : Nat} {c : Value} (h : i < cs.length) : splice cs i [c] = cs.set i c := by
  simp [splice, List.set_eq_take_append_cons_drop, h]
theorem S.var1 {x y : Operand} {t : TypeId} {b : Nat} {c : Value} {cs : List Value} {e : TypeId} (h : Var e H b cs) (i : Nat) (cs' : List Value) (ho : o.op = .store t x y) (hx : opv l x = some (.pointer (some ⟨b, i, none⟩))) (hy : opv l y = some c) (h1 : c.oneCell' = true)
    (hs : ∀ w, (sizeOf t).run P w = .ok 1 w) (hi : i < cs.length) (hz : cs.set i c = cs') : S P w0 n l H o (fun H' => Var e H' b cs' ∧ Mo (fun g => g = b) H H') :=
  S.var h [c] cs' ho hx hy (cells_one h1) (by simpa using h1) hs rfl (by omega) ((splice_one hi).trans hz)

section
variable {α : Type} {G F : Nat → Prop} {e : TypeId} {f : α → List Value} {sz : Nat} {v : Value} {xs ys : List α}

/-- the front of a row that is owned is owned -/
theorem Own.front {cap : Nat} {ad : Option Addr} {k : Nat} (h : Own G e H f sz (.slice ad xs.length cap) xs) (hk : k ≤ xs.length) (hne : xs ≠ []) : Own G e H f sz (.slice ad k cap) (xs.take k) := by
  refine ⟨h.cells, h.one, ?_⟩
  rcases h.ex with ⟨_, rfl⟩ | ⟨g, cap', cur, hv, hg, hh, r1, r2, r3, r4⟩
  · exact absurd rfl hne
  · simp only [Value.slice.injEq, true_and] at hv
    obtain ⟨rfl, rfl⟩ := hv
    have hl : (xs.take k).length = k := by simp; omega
    refine .inr ⟨g, cap, cur, by rw [hl], hg, hh, by omega, r2, r3, ?_⟩
    rw [hl]
    have : (xs.take k).flatMap f = (xs.flatMap f).take (k * sz) := by
      have h2 : xs.flatMap f = (xs.take k).flatMap f ++ (xs.drop k).flatMap f := by rw [← List.flatMap_append, List.take_append_drop]
      rw [h2, ← hl, ← length_flatMap h.cells (xs.take k), hl]
      rw [List.take_left]
    rw [this, ← r4, List.take_take]
    congr 1
    exact (Nat.min_eq_left (Nat.mul_le_mul_right _ hk)).symm

end

/-! bytes and texts -/
theorem fold_push (l : List UInt8) : ∀ acc : List UInt8, (l.map (fun b => (b.toNat : Int))).foldl (fun r n => r.push (UInt8.ofNat n.toNat)) (ByteArray.mk acc.toArray) = ByteArray.mk (acc ++ l).toArray := by
  induction l with
  | nil => intro acc; simp
  | cons b l ih =>
    intro acc
    rw [List.map_cons, List.foldl_cons]
    have : (ByteArray.mk acc.toArray).push (UInt8.ofNat ((b.toNat : Int)).toNat) = ByteArray.mk (acc ++ [b]).toArray := by
      simp [ByteArray.push]
    rw [this, ih]
    simp
theorem flatMap_fB (l : List UInt8) : l.flatMap fB = l.map (fun b => Value.int .u8 b.toNat) := by
  induction l with
  | nil => rfl
  | cons b l ih => simp [ih]
theorem data_map (s : List UInt8) : Array.map (fun b : UInt8 => Value.int .u8 (b.toNat : Int)) s.toArray = (s.flatMap fB).toArray := by
  rw [flatMap_fB]; simp

theorem Y.bstr {F : Nat → Prop} {x : Operand} {t u e : TypeId} {v : Value} {xs : List UInt8} (h : Rd F H fB 1 v xs) (ho : o.op = .convert t u x) (ht : P.underlying t = some (.slice e)) (hu : P.underlying u = some .string) (he : P.underlying e = some (.int .u8)) (hx : opv l x = some v) : Y P w0 n l H o (Str xs) := by
  intro a w hf ha
  obtain ⟨ad, cap, rfl, _, _, h3⟩ := id h.ex
  have hc := run_convert_bytes_string (P := P) w t u e ad xs.length cap ht he hu
  cases ad with
  | none =>
    have hxs : xs = [] := by
      apply Decidable.byContradiction; intro hne
      obtain ⟨ad, hn, _⟩ := h3 hne
      cases hn
    subst hxs
    have hc' : (convert t u (.slice none 0 cap)).run P w = .ok (Str []) w := by
      rw [show (0 : Nat) = ([] : List UInt8).length from rfl, hc]; rfl
    simp [execOp, ho, hf.eval hx, hc']
  | some ad =>
    have hnews := h.pts fB_len rfl ha
    have hl := run_loadCells_list (P := P) w ad (xs.flatMap fB) hnews
    have hlen : (xs.flatMap fB).length = xs.length := by rw [length_flatMap fB_len, Nat.mul_one]
    have hb := run_bytesToString (P := P) w ad xs.length cap (xs.map (fun b => (b.toNat : Int))) (by
      rw [hlen] at hl
      rw [hl, flatMap_fB, List.map_map]; rfl)
    have hfp := fold_push xs []
    simp only [List.nil_append] at hfp
    have hemp : ByteArray.empty = ByteArray.mk ([] : List UInt8).toArray := rfl
    rw [hemp, hfp] at hb
    simp [execOp, ho, hf.eval hx, hc, hb, Str]

theorem Z.strb {x : Operand} {t u e : TypeId} {ut : TypeDesc} {s : List UInt8} (ho : o.op = .convert t u x) (ht : P.underlying t = some ut) (hu : P.underlying u = some (.slice e)) (he : P.underlying e = some (.int .u8)) (hx : opv l x = some (Str s)) (hb : s.length ≤ 9223372036854775807) :
    Z P w0 n l H o (fun r H' => Own (fun b => b = H.size) e H' fB 1 r s ∧ Nw H H' ∧ H'.size = H.size + 1) := by
  intro a w hf ha
  have hr := Lib.run_convert_string_bytes (P := P) w t u e (ByteArray.mk s.toArray) ht hu he
  have hsz := str_size s
  have hge := grownCap_ge w s.length 0 e
  have hcm : grownCap w s.length 0 e ≤ maxLen := grownCap_le_maxLen w s.length 0 e (by unfold maxLen; omega)
  have hcs : (Lib.bytesCells w e (ByteArray.mk s.toArray)).size = grownCap w s.length 0 e := by
    simp only [Lib.bytesCells, hsz, data_map, Array.size_append, List.size_toArray, length_flatMap fB_len, Array.size_replicate, Nat.mul_one]; omega
  refine ⟨_, (Lib.bytesWorld w e (ByteArray.mk s.toArray)).heap, Lib.bytesWorld w e (ByteArray.mk s.toArray), by simp [execOp, ho, hf.eval hx, hr, Str]; rfl, ⟨rfl, ?_, ?_, ?_, ?_⟩, ⟨fB_len, fB_one, .inr ⟨w.heap.size, grownCap w s.length 0 e, _, by rw [hsz], ha.heap ▸ rfl, ⟨_, Lib.bytesWorld_at_new w e _, ?_⟩, hge, hcm, ?_, ?_⟩⟩, ⟨?_, ?_⟩, ?_⟩
  · have := ha.os; simp only [Lib.bytesWorld, World.freeze]; exact this
  · have := ha.tape; simp only [Lib.bytesWorld, World.freeze]; exact this
  · have := ha.output; simp only [Lib.bytesWorld, World.freeze]; exact this
  · have := ha.dr; simp only [Lib.bytesWorld, World.freeze]; first | exact this | exact Nat.le_succ_of_le this
  · refine ⟨by simp only; omega, ?_⟩; intro i hi hc; simp only at hc; omega
  · rw [hcs, Nat.mul_one]
  · simp only [Lib.bytesCells, data_map, Array.toList_append]
    rw [← length_flatMap fB_len s]
    exact List.take_left
  · rw [Lib.bytesWorld_size, ha.heap]; omega
  · intro b hb _; rw [← ha.heap] at hb ⊢; exact Lib.bytesWorld_at_old w e _ b hb
  · rw [Lib.bytesWorld_size, ha.heap]

end
end Go.Proofs.YtfbfjhppppoilaaDoor.E
