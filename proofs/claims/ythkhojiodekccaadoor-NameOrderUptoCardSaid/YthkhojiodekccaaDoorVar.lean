/-
  Rules for variables behind pointers, stores of whole structs, bytes turned to texts and back, copies, full slices: no condition.
-/
import Derived.Test.YthkhojiodekccaaDoorMap
import Derived.Lib.ConvBytes
import Derived.Lib.AppendStr
namespace Go.Proofs.YthkhojiodekccaaDoor.E
set_option linter.unusedVariables false
set_option linter.unusedSimpArgs false
set_option linter.unusedSectionVars false

/-- the block b is a variable of type e, of these cells -/
structure Var (e : TypeId) (H : Heap) (b : Nat) (cs : List Value) : Prop where
  row : Row H b cs.toArray e

theorem Var.lt {e : TypeId} {H : Heap} {b : Nat} {cs : List Value} (h : Var e H b cs) : b < H.size := h.row.lt
theorem Var.up {e : TypeId} {H H' : Heap} {b : Nat} {cs : List Value} {S : Nat → Prop} (h : Var e H b cs) (s : Mo S H H') (hS : ¬ S b) : Var e H' b cs := ⟨h.row.up (s.same b h.lt hS)⟩
theorem Var.nw {e : TypeId} {H H' : Heap} {b : Nat} {cs : List Value} (h : Var e H b cs) (s : Nw H H') : Var e H' b cs := h.up s (fun e => e)
theorem Var.pt {e : TypeId} {H : Heap} {b : Nat} {cs : List Value} (h : Var e H b cs) : Pt H ⟨b, 0, none⟩ cs :=
  ⟨rfl, fun j c hc => by simp only [Nat.zero_add]; rw [h.row.cell]; simpa using hc⟩
theorem Var.new (H : Heap) (cs : Array Value) (t : TypeId) : Var t (H.push (.cells cs t)) H.size cs.toList := ⟨.of (by simp)⟩

/-- the cells vs are written at i -/
def splice (cs : List Value) (i : Nat) (vs : List Value) : List Value := cs.take i ++ vs ++ cs.drop (i + vs.length)
section
variable {P : Program} {w0 : World} {n : Nat} {l : FL} {H : Heap} {o : Oper}

theorem At.row {w : World} (ha : At w0 H w) (g : Nat) (c : Array Value) : At w0 (w.setRow g c).heap (w.setRow g c) := ⟨rfl, ha.os, ha.tape, ha.output⟩
theorem setRow_mo {w : World} (ha : At w0 H w) (g : Nat) (c : Array Value) : Mo (fun b => b = g) H (w.setRow g c).heap :=
  ⟨by rw [← ha.heap]; simp [World.setRow], fun b hb hn => by rw [← ha.heap]; exact setRow_other w g b _ (fun e => hn e)⟩
theorem setRow_row {w : World} (ha : At w0 H w) {g : Nat} {cur c : Array Value} {e : TypeId} (h : Row H g cur e) (hc : c.size = cur.size) : Row (w.setRow g c).heap g c e := by
  obtain ⟨fz, h1, h2⟩ := h
  exact ⟨fz, setRow_heap w g cur _ e _ (by rw [ha.heap]; exact h1), by rw [hc]; exact h2⟩

/-- a store of a whole value into a block of cells -/
theorem S.cells {x y : Operand} {t : TypeId} {b i k : Nat} {c : Value} {cs : Array Value} {e : TypeId} (ho : o.op = .store t x y) (hx : opv l x = some (.pointer (some ⟨b, i, none⟩))) (hy : opv l y = some c) (h1 : ∀ u ∈ c.cells.toList, u.oneCell' = true)
    (hs : ∀ w, (sizeOf t).run P w = .ok k w) (hk : c.cells.size = k) (hb : Row H b cs e) (hi : i + k ≤ cs.size) : S P w0 n l H o (fun H' => Row H' b (splice cs.toList i c.cells.toList).toArray e ∧ Mo (fun g => g = b) H H') := by
  intro a w hf ha
  obtain ⟨fz, hb1, hb2⟩ := id hb
  have hr := run_storeCells_soft P b i e fz c.cells.toList 0 cs w (by rw [ha.heap]; exact hb1) hb2 (by simp [hk]; omega) h1
  simp only [Nat.add_zero] at hr
  refine ⟨_, w.setRow b (splice cs.toList i c.cells.toList).toArray, ?_, ha.row _ _, setRow_row ha hb (by simp [splice, hk]; omega), setRow_mo ha _ _⟩
  simp [execOp, ho, hf.eval hx, hf.eval hy, Instr.storeAt, Instr.sureAddr, storeVar, hk, hs, hr, splice]

section
variable {α : Type} {G F : Nat → Prop} {e : TypeId} {f : α → List Value} {sz : Nat} {v : Value} {xs ys : List α}

end

/-! bytes and texts -/
theorem flatMap_fB (l : List UInt8) : l.flatMap fB = l.map (fun b => Value.int .u8 b.toNat) := by
  induction l with
  | nil => rfl
  | cons b l ih => simp [ih]
theorem data_map (s : List UInt8) : Array.map (fun b : UInt8 => Value.int .u8 (b.toNat : Int)) s.toArray = (s.flatMap fB).toArray := by
  rw [flatMap_fB]; simp

theorem Z.strb {x : Operand} {t u e : TypeId} {ut : TypeDesc} {s : List UInt8} (ho : o.op = .convert t u x) (ht : P.underlying t = some ut) (hu : P.underlying u = some (.slice e)) (he : P.underlying e = some (.int .u8)) (hx : opv l x = some (Str s)) (hb : s.length ≤ 9223372036854775807) :
    Z P w0 n l H o (fun r H' => Own (fun b => b = H.size) e H' fB 1 r s ∧ Nw H H' ∧ H'.size = H.size + 1) := by
  intro a w hf ha
  have hr := Lib.run_convert_string_bytes (P := P) w t u e (ByteArray.mk s.toArray) ht hu he
  have hsz := str_size s
  have hge := grownCap_ge w s.length 0 e
  have hcm : grownCap w s.length 0 e ≤ maxLen := grownCap_le_maxLen w s.length 0 e (by unfold maxLen; omega)
  have hcs : (Lib.bytesCells w e (ByteArray.mk s.toArray)).size = grownCap w s.length 0 e := by
    simp only [Lib.bytesCells, hsz, data_map, Array.size_append, List.size_toArray, length_flatMap fB_len, Array.size_replicate, Nat.mul_one]; omega
  refine ⟨_, (Lib.bytesWorld w e (ByteArray.mk s.toArray)).heap, Lib.bytesWorld w e (ByteArray.mk s.toArray), by simp [execOp, ho, hf.eval hx, hr, Str]; rfl, ⟨rfl, ?_, ?_, ?_⟩, ⟨fB_len, fB_one, .inr ⟨w.heap.size, grownCap w s.length 0 e, _, by rw [hsz], ha.heap ▸ rfl, ⟨_, Lib.bytesWorld_at_new w e _, ?_⟩, hge, hcm, ?_, ?_⟩⟩, ⟨?_, ?_⟩, ?_⟩
  · have := ha.os; simp only [Lib.bytesWorld, World.freeze]; exact this
  · have := ha.tape; simp only [Lib.bytesWorld, World.freeze]; exact this
  · have := ha.output; simp only [Lib.bytesWorld, World.freeze]; exact this
  · refine ⟨by simp only; omega, ?_⟩; intro i hi hc; simp only at hc; omega
  · rw [hcs, Nat.mul_one]
  · simp only [Lib.bytesCells, data_map, Array.toList_append]
    rw [← length_flatMap fB_len s]
    exact List.take_left
  · rw [Lib.bytesWorld_size, ha.heap]; omega
  · intro b hb _; rw [← ha.heap] at hb ⊢; exact Lib.bytesWorld_at_old w e _ b hb
  · rw [Lib.bytesWorld_size, ha.heap]

end
end Go.Proofs.YthkhojiodekccaaDoor.E
