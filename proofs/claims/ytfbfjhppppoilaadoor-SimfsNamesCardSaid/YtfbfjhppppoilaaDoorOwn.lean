/-
  Rules for memory that a call makes: new variables, rows that are appended to, stores: no condition.
-/
import Derived.Test.YtfbfjhppppoilaaDoorAny
namespace Go.Proofs.YtfbfjhppppoilaaDoor.E
set_option linter.unusedVariables false
set_option linter.unusedSimpArgs false
set_option linter.unusedSectionVars false

/-- read as a list, wherever it lies -/
abbrev RdT {α : Type} (H : Heap) (f : α → List Value) (sz : Nat) (v : Value) (l : List α) : Prop := Rd (fun _ => True) H f sz v l

theorem Rd.any {α : Type} {F : Nat → Prop} {H : Heap} {f : α → List Value} {sz : Nat} {v : Value} {l : List α} (h : Rd F H f sz v l) : RdT H f sz v l := h.imp (fun _ _ _ => trivial)
theorem Rd.lt {α : Type} {F : Nat → Prop} {H : Heap} {f : α → List Value} {sz : Nat} {v : Value} {l : List α} (h : Rd F H f sz v l) : Rd (fun b => b < H.size) H f sz v l := h.imp (fun _ hb _ => hb)

/-- a range of marked cells that holds none of the first n -/
def Soft (fz : Nat × Nat) (n : Nat) : Prop := fz.1 ≤ fz.2 ∧ ∀ i, i < n → ¬ (fz.1 ≤ i ∧ i < fz.2)
theorem Soft.zero (n : Nat) : Soft (0, 0) n := ⟨Nat.le_refl _, fun _ _ h => absurd h.2 (Nat.not_lt_zero _)⟩
/-- the block g holds the cells cur, and may be written -/
def Row (H : Heap) (g : Nat) (cur : Array Value) (e : TypeId) : Prop := ∃ fz, H[g]? = some (.cells cur e fz) ∧ Soft fz cur.size
theorem Row.lt {H : Heap} {g : Nat} {cur : Array Value} {e : TypeId} (h : Row H g cur e) : g < H.size := let ⟨_, h, _⟩ := h; (Array.getElem?_eq_some_iff.1 h).1
theorem Row.up {H H' : Heap} {g : Nat} {cur : Array Value} {e : TypeId} (h : Row H g cur e) (hs : H'[g]? = H[g]?) : Row H' g cur e := let ⟨fz, h1, h2⟩ := h; ⟨fz, by rw [hs]; exact h1, h2⟩
theorem Row.cell {H : Heap} {g : Nat} {cur : Array Value} {e : TypeId} (h : Row H g cur e) (i : Nat) : E.cell H ⟨g, i, none⟩ = cur[i]? := by
  obtain ⟨fz, h1, _⟩ := h
  simp [E.cell, h1]
theorem Row.of {H : Heap} {g : Nat} {cur : Array Value} {e : TypeId} (h : H[g]? = some (.cells cur e (0, 0))) : Row H g cur e := ⟨_, h, Soft.zero _⟩

/-- the slice value v owns the list l: nil, or the head of a row that is not frozen; its block meets G -/
structure Own {α : Type} (G : Nat → Prop) (e : TypeId) (H : Heap) (f : α → List Value) (sz : Nat) (v : Value) (l : List α) : Prop where
  cells : ∀ x, (f x).length = sz
  one : ∀ x, ∀ u ∈ f x, u.oneCell' = true
  ex : (v = .slice none 0 0 ∧ l = []) ∨ ∃ g cap cur, v = .slice (some ⟨g, 0, none⟩) l.length cap ∧ G g ∧ Row H g cur e ∧ l.length ≤ cap ∧ cap ≤ maxLen ∧ cur.size = cap * sz ∧ cur.toList.take (l.length * sz) = l.flatMap f

/-! how elements lie in cells -/
abbrev fS (s : List UInt8) : List Value := [Str s]
abbrev fI (x : Int) : List Value := [.int .i64 x]
abbrev fB (b : UInt8) : List Value := [.int .u8 b.toNat]
abbrev fN (k : IntKind) (x : Nat) : List Value := [.int k x]
structure SV where
  a : Option Addr
  len : Nat
  cap : Nat
abbrev SV.v (s : SV) : Value := .slice s.a s.len s.cap
abbrev fV (s : SV) : List Value := [s.v]
theorem fS_len (s : List UInt8) : (fS s).length = 1 := rfl
theorem fS_one (s : List UInt8) : ∀ u ∈ fS s, u.oneCell' = true := by intro u hu; simp only [List.mem_singleton] at hu; subst hu; rfl
theorem fI_len (s : Int) : (fI s).length = 1 := rfl
theorem fI_one (s : Int) : ∀ u ∈ fI s, u.oneCell' = true := by intro u hu; simp only [List.mem_singleton] at hu; subst hu; rfl
theorem fB_len (s : UInt8) : (fB s).length = 1 := rfl
theorem fB_one (s : UInt8) : ∀ u ∈ fB s, u.oneCell' = true := by intro u hu; simp only [List.mem_singleton] at hu; subst hu; rfl
theorem fN_len (k : IntKind) (s : Nat) : (fN k s).length = 1 := rfl
theorem fN_one (k : IntKind) (s : Nat) : ∀ u ∈ fN k s, u.oneCell' = true := by intro u hu; simp only [List.mem_singleton] at hu; subst hu; rfl
theorem fV_len (s : SV) : (fV s).length = 1 := rfl
theorem fV_one (s : SV) : ∀ u ∈ fV s, u.oneCell' = true := by intro u hu; simp only [List.mem_singleton] at hu; subst hu; rfl

def blk : Value → Nat
  | .slice (some a) _ _ => a.block
  | .pointer (some a) => a.block
  | .map (some r) => r
  | _ => 0

theorem length_flatMap {α : Type} {f : α → List Value} {sz : Nat} (hf : ∀ x, (f x).length = sz) : ∀ l : List α, (l.flatMap f).length = l.length * sz
  | [] => by simp
  | x :: l => by simp [hf x, length_flatMap hf l, Nat.add_mul, Nat.add_comm]

theorem get_flatMap {α : Type} {f : α → List Value} {sz : Nat} (hf : ∀ x, (f x).length = sz) : ∀ (l : List α) (i j : Nat) (x : α) (c : Value), l[i]? = some x → (f x)[j]? = some c → (l.flatMap f)[i * sz + j]? = some c
  | [], _, _, _, _, h, _ => by simp at h
  | y :: l, 0, j, x, c, h, hc => by
    simp only [List.getElem?_cons_zero, Option.some.injEq] at h
    subst h
    have hj := (List.getElem?_eq_some_iff.1 hc).1
    simp only [List.flatMap_cons, Nat.zero_mul, Nat.zero_add]
    rw [List.getElem?_append_left hj]; exact hc
  | y :: l, i + 1, j, x, c, h, hc => by
    simp only [List.getElem?_cons_succ] at h
    simp only [List.flatMap_cons]
    rw [List.getElem?_append_right (by rw [hf y, Nat.add_mul]; omega), hf y]
    have := get_flatMap hf l i j x c h hc
    rwa [show (i + 1) * sz + j - sz = i * sz + j by rw [Nat.add_mul]; omega]

theorem Own.rd {α : Type} {G : Nat → Prop} {e : TypeId} {H : Heap} {f : α → List Value} {sz : Nat} {v : Value} {l : List α} (h : Own G e H f sz v l) : Rd G H f sz v l := by
  rcases h.ex with ⟨rfl, rfl⟩ | ⟨g, cap, cur, rfl, hg, hh, h1, h2, h3, h4⟩
  · exact Rd.nil _ _ _ _
  · refine ⟨_, cap, rfl, h1, h2, fun _ => ⟨_, rfl, rfl, hg, hh.lt, fun i x hx => ⟨rfl, fun j c hc => ?_⟩⟩⟩
    have hr := get_flatMap h.cells l i j x c hx hc
    rw [← h4, List.getElem?_take] at hr
    split at hr
    · simp only [Nat.zero_add]
      rw [hh.cell]
      simpa using hr
    · cases hr

def toSV : Value → SV
  | .slice a l c => ⟨a, l, c⟩
  | _ => ⟨none, 0, 0⟩
theorem Rd.sv {α : Type} {F : Nat → Prop} {H : Heap} {f : α → List Value} {sz : Nat} {v : Value} {l : List α} (h : Rd F H f sz v l) : (toSV v).v = v := by
  obtain ⟨a, cap, rfl, _⟩ := h.ex; rfl
theorem Rd.oneCell {α : Type} {F : Nat → Prop} {H : Heap} {f : α → List Value} {sz : Nat} {v : Value} {l : List α} (h : Rd F H f sz v l) : v.oneCell' = true := by
  obtain ⟨a, cap, rfl, _⟩ := h.ex; rfl
theorem Own.sv {α : Type} {G : Nat → Prop} {e : TypeId} {H : Heap} {f : α → List Value} {sz : Nat} {v : Value} {l : List α} (h : Own G e H f sz v l) : (toSV v).v = v := h.rd.sv
theorem Own.lt {α : Type} {G : Nat → Prop} {e : TypeId} {H : Heap} {f : α → List Value} {sz : Nat} {v : Value} {l : List α} (h : Own G e H f sz v l) : Rd (fun b => G b ∧ b < H.size) H f sz v l := h.rd.imp (fun _ hb hg => ⟨hg, hb⟩)

section
variable {α : Type} {G : Nat → Prop} {e : TypeId} {H H' : Heap} {f : α → List Value} {sz : Nat} {v : Value} {l : List α}
theorem Own.nil (hf : ∀ x, (f x).length = sz) (h1 : ∀ x, ∀ u ∈ f x, u.oneCell' = true) : Own G e H f sz (.slice none 0 0) [] := ⟨hf, h1, .inl ⟨rfl, rfl⟩⟩
theorem Own.up {S : Nat → Prop} (h : Own G e H f sz v l) (s : Mo S H H') (hS : ∀ b, b < H.size → G b → ¬ S b) : Own G e H' f sz v l := by
  refine ⟨h.cells, h.one, ?_⟩
  rcases h.ex with h | ⟨g, cap, cur, hv, hg, hh, r⟩
  · exact .inl h
  · exact .inr ⟨g, cap, cur, hv, hg, hh.up (s.same g hh.lt (hS _ hh.lt hg)), r⟩
theorem Own.nw (h : Own G e H f sz v l) (s : Nw H H') : Own G e H' f sz v l := h.up s (fun _ _ _ e => e)
theorem Own.imp {G' : Nat → Prop} (h : Own G e H f sz v l) (hG : ∀ b, b < H.size → G b → G' b) : Own G' e H f sz v l := by
  refine ⟨h.cells, h.one, ?_⟩
  rcases h.ex with h | ⟨g, cap, cur, hv, hg, hh, r⟩
  · exact .inl h
  · exact .inr ⟨g, cap, cur, hv, hG _ hh.lt hg, hh, r⟩
theorem Own.len (h : Own G e H f sz v l) : l.length ≤ 9223372036854775807 := h.rd.len
theorem Own.at {j : Nat} (h : Own G e H f sz v l) (hj : j < l.length) : G (blk v) ∧ blk v < H.size ∧ ∃ cap, v = .slice (some ⟨blk v, 0, none⟩) l.length cap := by
  rcases h.ex with ⟨rfl, rfl⟩ | ⟨g, cap, cur, rfl, hg, hh, r⟩
  · simp at hj
  · exact ⟨hg, hh.lt, cap, rfl⟩
theorem Own.pt {j : Nat} (h : Own G e H f sz v l) (hj : j < l.length) : Pt H ⟨blk v, j * sz, none⟩ (f l[j]) := by
  obtain ⟨h1, h2, cap, h3⟩ := h.at hj
  obtain ⟨a, cap', hv, _, _, hr⟩ := h.rd.ex
  obtain ⟨ad, rfl, e2, e3, e4, e5⟩ := hr (by intro e; subst e; simp at hj)
  have hb : blk v = ad.block := by rw [hv]; rfl
  have := e5 j l[j] (by simp [hj])
  rw [hv] at h3
  simp only [Value.slice.injEq, Option.some.injEq] at h3
  have ho : ad.off = 0 := by rw [h3.1]
  rw [ho, Nat.zero_add, ← hb] at this
  exact this

theorem set_flatMap {f : α → List Value} {sz : Nat} (hf : ∀ x, (f x).length = sz) : ∀ (l : List α) (j k : Nat) (x y : α) (c : Value), l[j]? = some x → k < sz → f y = (f x).set k c → (l.set j y).flatMap f = (l.flatMap f).set (j * sz + k) c
  | [], _, _, _, _, _, h, _, _ => by simp at h
  | z :: l, 0, k, x, y, c, h, hk, hy => by
    simp only [List.getElem?_cons_zero, Option.some.injEq] at h
    subst h
    simp only [List.set_cons_zero, List.flatMap_cons, hy, Nat.zero_mul, Nat.zero_add]
    rw [List.set_append_left _ _ (by rw [hf z]; exact hk)]
  | z :: l, j + 1, k, x, y, c, h, hk, hy => by
    simp only [List.getElem?_cons_succ] at h
    simp only [List.set_cons_succ, List.flatMap_cons]
    rw [set_flatMap hf l j k x y c h hk hy, List.set_append_right _ _ (by rw [hf z, Nat.add_mul]; omega), hf z]
    congr 2
    rw [Nat.add_mul]; omega

def hset (H : Heap) (b i : Nat) (c : Value) : Heap := H.modify b fun
  | .cells cs e fz => .cells (cs.setIfInBounds i c) e fz
  | o => o
theorem hset_mo (H : Heap) (b i : Nat) (c : Value) : Mo (fun k => k = b) H (hset H b i c) :=
  ⟨by simp [hset], fun k _ hk => by simp only [hset, Array.getElem?_modify]; rw [if_neg (fun e => hk e.symm)]⟩
theorem hset_at {b i : Nat} {c : Value} {cs : Array Value} {e : TypeId} {fz : Nat × Nat} (h : H[b]? = some (.cells cs e fz)) : (hset H b i c)[b]? = some (.cells (cs.setIfInBounds i c) e fz) := by
  simp only [hset, Array.getElem?_modify, if_true, h]; rfl

theorem Row.set {H : Heap} {b i : Nat} {c : Value} {cs : Array Value} {e : TypeId} (h : Row H b cs e) : Row (hset H b i c) b (cs.setIfInBounds i c) e :=
  let ⟨fz, h1, h2⟩ := h; ⟨fz, hset_at h1, by simpa using h2⟩

theorem Own.set {j k : Nat} {y : α} {c : Value} (h : Own G e H f sz v l) (hj : j < l.length) (hk : k < sz) (hy : f y = (f l[j]).set k c) : Own G e (hset H (blk v) (j * sz + k) c) f sz v (l.set j y) := by
  refine ⟨h.cells, h.one, ?_⟩
  rcases h.ex with ⟨rfl, rfl⟩ | ⟨g, cap, cur, rfl, hg, hh, h1, h2, h3, h4⟩
  · simp at hj
  · refine .inr ⟨g, cap, _, by rw [List.length_set], hg, hh.set, by rw [List.length_set]; exact h1, h2, by simpa using h3, ?_⟩
    have hlt : j * sz + k < l.length * sz := by
      have := Nat.mul_le_mul_right sz (show j + 1 ≤ l.length from hj)
      rw [Nat.add_mul] at this; omega
    rw [set_flatMap h.cells l j k l[j] y c (by simp [hj]) hk hy, ← h4, List.length_set, Array.toList_setIfInBounds, List.take_set]
end

theorem map_zip_swap_range {α : Type} {vs : List α} {k : Nat} (hk : vs.length = k) : (vs.zip (List.range' 0 vs.length)).map (fun p => (p.2, p.1)) = (List.range k).zip vs := by
  subst hk
  rw [List.range_eq_range']
  generalize 0 = s
  induction vs generalizing s with
  | nil => rfl
  | cons v vs ih => simp [List.range'_succ, ih]

section
variable {P : Program} {w0 : World} {n : Nat} {l : FL} {H : Heap} {o : Oper}

/-! new variables -/
theorem At.alloc {w : World} (ha : At w0 H w) (ob : Obj) : At w0 (H.push ob) (w.alloc ob) := ⟨by simp [World.alloc, ha.heap], ha.os, ha.tape, ha.output, ha.dr⟩

theorem Z.alloc {t : TypeId} {z : Value} (ho : o.op = .alloc t) (hz : ∀ w, (zeroValue t).run P w = .ok z w) : Z P w0 n l H o (fun v H' => v = .pointer (some ⟨H.size, 0, none⟩) ∧ H' = H.push (.cells z.cells t)) := by
  intro a w hf ha
  refine ⟨_, _, _, ?_, ha.alloc (.cells z.cells t), rfl, rfl⟩
  simp [execOp, ho, Instr.alloc, hz, newVar, newRow, ha.heap]
theorem Z.box {t : TypeId} {x : Operand} {v : Value} (ho : o.op = .box t x) (hx : opv l x = some v) : Z P w0 n l H o (fun r H' => r = .pointer (some ⟨H.size, 0, none⟩) ∧ H' = H.push (.cells v.cells t)) := by
  intro a w hf ha
  refine ⟨_, _, _, ?_, ha.alloc (.cells v.cells t), rfl, rfl⟩
  simp [execOp, ho, hf.eval hx, Instr.box, newVar, newRow, ha.heap]

/-- the whole of a new variable -/
theorem Pt.new (H : Heap) (cs : Array Value) (t : TypeId) : Pt (H.push (.cells cs t)) ⟨H.size, 0, none⟩ cs.toList := by
  refine ⟨rfl, fun j c e => ?_⟩
  simp only [cell, Array.getElem?_push_size, Nat.zero_add, Option.isSome_none]
  simpa using e

theorem run_store {w : World} {ad : Addr} {c u : Value} (h : w.cell? ad = some u) (hz : w.frozen? ad = false) (h1 : c.oneCell' = true) : (store ad c).run P w = .ok () (w.setCell ad c) := by
  cases c <;> first | (simp [Value.oneCell'] at h1; done) | simp [store, Sem.run, h, hz]

/-- a store into a block of cells that is not frozen -/
theorem S.cell {x y : Operand} {t : TypeId} {b i : Nat} {c : Value} {cs : Array Value} {e : TypeId} (ho : o.op = .store t x y) (hx : opv l x = some (.pointer (some ⟨b, i, none⟩))) (hy : opv l y = some c) (h1 : c.oneCell' = true)
    (hs : ∀ w, (sizeOf t).run P w = .ok 1 w) (hb0 : Row H b cs e) (hi : i < cs.size) : S P w0 n l H o (fun H' => H' = hset H b i c) := by
  intro a w hf ha
  obtain ⟨⟨f1, f2⟩, hb, hsf⟩ := hb0
  have hc : w.cell? ⟨b, i, none⟩ = some cs[i] := by rw [ha.cell]; simp [E.cell, hb, hi]
  have hz : w.frozen? ⟨b, i, none⟩ = false := by have := hsf.2 i hi; simp only at this; simp [World.frozen?, ha.heap, hb]; omega
  have hcs : c.cells = #[c] := by cases c <;> first | (simp [Value.oneCell'] at h1; done) | rfl
  refine ⟨hset H b i c, { w with heap := hset H b i c }, ?_, ha.set, rfl⟩
  have hr := run_store (P := P) hc hz h1
  have hw : w.setCell ⟨b, i, none⟩ c = { w with heap := hset H b i c } := by
    simp only [World.setCell, hset, ha.heap]
    congr 1
  rw [hw] at hr
  have ha0 : (⟨b, i, none⟩ : Addr).add 0 = ⟨b, i, none⟩ := by simp [Addr.add]
  simp [execOp, ho, hf.eval hx, hf.eval hy, Instr.storeAt, Instr.sureAddr, storeVar, hcs, hs, storeCells, hr, ha0]

section
variable {α : Type} {G F : Nat → Prop} {e : TypeId} {f : α → List Value} {sz : Nat} {v : Value} {xs ys : List α}
/-- the address of an element of a row that is owned -/
theorem Y.ownAddr {x i : Operand} {t : TypeId} {k : IntKind} {iv : Int} (h : Own G e H f sz v xs) (j : Nat) (ho : o.op = .indexAddr t x i) (ht : ∀ w, (underlying t).run P w = .ok (.slice e) w) (hs : ∀ w, (sizeOf e).run P w = .ok sz w)
    (hx : opv l x = some v) (hi : opv l i = some (.int k iv)) (hj : iv = j) (hlt : j < xs.length) : Y P w0 n l H o (.pointer (some ⟨blk v, j * sz, none⟩)) := by
  obtain ⟨h1, h2, cap, h3⟩ := h.at hlt
  subst hj
  intro ac w hf ha
  have hx' := hf.eval hx
  rw [h3] at hx'
  simp [execOp, ho, hx', hf.eval hi, Instr.indexAt, asIntOf, ht, hs, hlt, add_eq]

/-- a store of one cell into an element of a row that is owned -/
theorem S.own {x y : Operand} {t : TypeId} {c : Value} (h : Own G e H f sz v xs) (j k : Nat) (z : α) (ho : o.op = .store t x y) (hx : opv l x = some (.pointer (some ⟨blk v, j * sz + k, none⟩))) (hy : opv l y = some c) (h1 : c.oneCell' = true)
    (hs : ∀ w, (sizeOf t).run P w = .ok 1 w) (hj : j < xs.length) (hk : k < sz) (hz : f z = (f xs[j]).set k c) : S P w0 n l H o (fun H' => Own G e H' f sz v (xs.set j z) ∧ Mo (fun b => b = blk v) H H') := by
  intro a w hf ha
  rcases h.ex with ⟨rfl, rfl⟩ | ⟨g, cap, cur, hv, hg, hh, r1, r2, r3, r4⟩
  · simp at hj
  · have hb : blk v = g := by rw [hv]; rfl
    have hlt : j * sz + k < cur.size := by
      have := Nat.mul_le_mul_right sz (show j + 1 ≤ cap by omega)
      rw [Nat.add_mul] at this; omega
    obtain ⟨H', w', hr, ha', rfl⟩ := S.cell (P := P) (w0 := w0) (n := n) ho (by rw [hb] at hx; exact hx) hy h1 hs hh hlt a w hf ha
    refine ⟨_, w', hr, ha', ?_, by rw [hb]; exact hset_mo H g _ c⟩
    rw [← hb]
    exact h.set hj hk hz

theorem Mo.of_grown {w w' : World} {row : Option Nat} (ha : At w0 H w) (h : w.grownBy w' row) : Mo (fun b => some b = row) H w'.heap :=
  ⟨by rw [← ha.heap]; exact h.size, fun b hb hn => by rw [← ha.heap] at hb ⊢; exact h.block b hb hn⟩

/-- a grown row -/
theorem Own.new {G' : Nat → Prop} {w : World} {z : Value} {cap : Nat} {zs : List α} (hc : ∀ x, (f x).length = sz) (h1 : ∀ x, ∀ u ∈ f x, u.oneCell' = true) (hzs : z.cells.size = sz) (hG : G' w.heap.size) (h2 : zs.length ≤ cap) (h3 : cap ≤ maxLen) :
    Own G' e (w.alloc (.cells ((zs.flatMap f).toArray ++ Builtin.zeroCells z.cells (cap - zs.length)) e)).heap f sz (.slice (some ⟨w.heap.size, 0, none⟩) zs.length cap) zs := by
  refine ⟨hc, h1, .inr ⟨w.heap.size, cap, _, rfl, hG, .of (heap_alloc_new w _), h2, h3, ?_, ?_⟩⟩
  · simp only [Array.size_append, List.size_toArray, size_zeroCells, hzs, length_flatMap hc, ← Nat.add_mul]
    congr 1; omega
  · simp only [Array.toList_append]
    rw [← length_flatMap hc zs]
    exact List.take_left

theorem Rd.pts {u : Value} {a : Addr} {m c : Nat} (h : Rd F H f sz u ys) (hc : ∀ x, (f x).length = sz) (hu : u = .slice (some a) m c) {w : World} (ha : At w0 H w) : ∀ j d, (ys.flatMap f)[j]? = some d → w.cell? (a.add j) = some d := by
  intro j d hd
  obtain ⟨ad, cap, hv, q1, q2, q3⟩ := h.ex
  have hj := (List.getElem?_eq_some_iff.1 hd).1
  rw [length_flatMap hc] at hj
  have hne : ys ≠ [] := by intro e; subst e; simp at hj
  obtain ⟨ad', e1, e2, e3, e4, e5⟩ := q3 hne
  have hsz : 0 < sz := by rcases Nat.eq_zero_or_pos sz with h | h; · subst h; simp at hj
                          · exact h
  have hdiv : j / sz < ys.length := Nat.div_lt_of_lt_mul (by rw [Nat.mul_comm]; exact hj)
  have hp := e5 (j / sz) ys[j / sz] (by simp [hdiv])
  have hm : j % sz < (f ys[j / sz]).length := by rw [hc]; exact Nat.mod_lt _ hsz
  have h5 := hp.cells (j % sz) (f ys[j / sz])[j % sz] (by simp [hm])
  have h6 := get_flatMap hc ys (j / sz) (j % sz) _ _ (show ys[j / sz]? = some ys[j / sz] by simp [hdiv]) (show (f ys[j / sz])[j % sz]? = some (f ys[j / sz])[j % sz] by simp [hm])
  have hjj : j / sz * sz + j % sz = j := by rw [Nat.mul_comm]; exact Nat.div_add_mod j sz
  rw [hjj, hd] at h6
  simp only [Option.some.injEq] at h6
  have haa : a = ad' := by rw [hu] at hv; simp only [Value.slice.injEq] at hv; rw [e1] at hv; exact Option.some.inj hv.1
  rw [haa, add_eq e2, ha.cell, h6]
  simp only at h5
  rw [Nat.add_assoc, hjj] at h5
  exact h5

/-- what the table of types says of a slice type and its element type -/
def Inf (P : Program) (t e : TypeId) (sz bytes : Nat) : Prop := P.underlying t = some (.slice e) ∧ ∃ i z, P.info? e = some i ∧ i.zero = some z ∧ i.size = sz ∧ i.bytes = bytes ∧ z.cells.size = sz

theorem run_storeCells_soft (P : Program) (g o : Nat) (t : TypeId) (fz : Nat × Nat) : ∀ (vs : List Value) (i : Nat) (cur : Array Value) (w : World), w.heap[g]? = some (.cells cur t fz) → Soft fz cur.size → o + i + vs.length ≤ cur.size → (∀ v ∈ vs, v.oneCell' = true) →
    (storeCells ⟨g, o, none⟩ vs i).run P w = .ok () (w.setRow g (cur.toList.take (o + i) ++ vs ++ cur.toList.drop (o + i + vs.length)).toArray)
  | [], i, cur, w, hg, _, _, _ => by
    simp only [storeCells, List.append_nil, List.length_nil, Nat.add_zero, List.take_append_drop, Array.toArray_toList]
    rw [setRow_self w g cur t fz hg]
    rfl
  | v :: rest, i, cur, w, hg, hfz, hl, h1 => by
    have hi : o + i < cur.size := by simp at hl; omega
    have hcell : w.cell? ⟨g, o + i, none⟩ = some cur[o + i] := by simp [World.cell?, hg, hi]
    have hfro : w.frozen? ⟨g, o + i, none⟩ = false := by
      obtain ⟨lo, hi'⟩ := fz
      have := hfz.2 (o + i) hi
      simp only at this
      simp [World.frozen?, hg]; omega
    have hst : (store ((⟨g, o, none⟩ : Addr).add i) v).run P w = .ok () (w.setRow g (cur.setIfInBounds (o + i) v)) := by
      rw [add_eq rfl, run_store hcell hfro (h1 v (by simp)), setCell_eq_setRow w g (o + i) cur t fz v hg]
    have ih := run_storeCells_soft P g o t fz rest (i + 1) (cur.setIfInBounds (o + i) v) (w.setRow g (cur.setIfInBounds (o + i) v)) (setRow_heap w g cur _ t _ hg) (by simpa using hfz) (by simp at hl ⊢; omega) (fun x hx => h1 x (by simp [hx]))
    simp only [storeCells, Sem.run_bind, hst, Result.andThen_ok, ih, setRow_setRow]
    congr 3
    have e := list_seg_step cur.toList (o + i) v rest (by simp at hl ⊢; omega)
    simpa [Array.toList_setIfInBounds, Nat.add_assoc] using e

theorem run_append_soft {w : World} (t ty e : TypeId) (i : TypeInfo) (ht : P.underlying t = some (.slice e)) (hi : P.info? e = some i)
    (g sLen sCap : Nat) (cur : Array Value) (fz : Nat × Nat) (hg : w.heap[g]? = some (.cells cur e fz)) (hfz : Soft fz cur.size)
    (a : Addr) (m c : Nat) (news : List Value) (hl : news.length = m * i.size) (hnews : ∀ j u, news[j]? = some u → w.cell? (a.add j) = some u) (h1 : ∀ u ∈ news, u.oneCell' = true)
    (hroom : sLen + m ≤ sCap) (hfit : sLen * i.size + news.length ≤ cur.size) :
    (Builtin.append_ #[t, t] ty #[.slice (some ⟨g, 0, none⟩) sLen sCap, .slice (some a) m c]).run P w =
      .ok (.slice (some ⟨g, 0, none⟩) (sLen + m) sCap) (w.setRow g (cur.toList.take (sLen * i.size) ++ news ++ cur.toList.drop (sLen * i.size + news.length)).toArray) := by
  have hf := run_firstCells_some (P := P) w i.size m a m c news hl hnews
  have hst := run_storeCells_soft P g (sLen * i.size) e fz news 0 cur w hg hfz (by simpa using hfit) h1
  simp only [Nat.add_zero] at hst
  simp [Builtin.append_, run_underlying ht, sizeOf, typeInfo, hi, Builtin.lenOf, hroom, hf, Addr.add_lit, hst]

theorem Z.append {s x : Operand} {t : TypeId} {u : Value} {bytes : Nat} (h : Own G e H f sz v xs) (hr : Rd F H f sz u ys) (ho : o.op = .call { callee := .builtin .append, args := #[s, x], argTypes := #[t, t] })
    (hinf : Inf P t e sz bytes) (hs : opv l s = some v) (hx : opv l x = some u) (hb : (xs.length + ys.length) * bytes ≤ 140737488355328) (hm : xs.length + ys.length ≤ 9223372036854775807) :
    Z P w0 n l H o (fun r H' => Own (fun b => G b ∨ H.size ≤ b) e H' f sz r (xs ++ ys) ∧ Mo G H H') := by
  obtain ⟨ht, i, z, hi, hz, hsz, hby, hzs⟩ := hinf
  subst hsz
  subst hby
  intro a w hf ha
  obtain ⟨ad, cap, rfl, q1, q2, q3⟩ := id hr.ex
  have hl : (ys.flatMap f).length = ys.length * i.size := length_flatMap h.cells ys
  have h1 : ∀ c ∈ ys.flatMap f, c.oneCell' = true := by
    intro c hc
    obtain ⟨y, hy, hc⟩ := List.mem_flatMap.1 hc
    exact h.one y c hc
  cases ad with
  | none =>
    have hys : ys = [] := by
      apply Decidable.byContradiction; intro hne
      obtain ⟨ad, hn, _⟩ := q3 hne
      cases hn
    subst hys
    refine ⟨v, H, w, ?_, ha, by rw [List.append_nil]; exact h.imp (fun b _ hg => .inl hg), Mo.refl _ _⟩
    rcases h.ex with ⟨rfl, rfl⟩ | ⟨g, cap', cur, rfl, hg, hh, r1, r2, r3, r4⟩
    · simp [execOp, ho, resolve, invoke, builtin, hf.eval hs, hf.eval hx, Builtin.append_, run_underlying ht, sizeOf, typeInfo, hi, Builtin.lenOf, Builtin.firstCells]
    · simp [execOp, ho, resolve, invoke, builtin, hf.eval hs, hf.eval hx, Builtin.append_, run_underlying ht, sizeOf, typeInfo, hi, Builtin.lenOf, Builtin.firstCells, r1, storeCells]
  | some ad =>
    have hnews := hr.pts h.cells rfl ha
    have grown : ∀ (old : Nat) (r : Value), old < xs.length + ys.length → r = .slice (some ⟨w.heap.size, 0, none⟩) (xs.length + ys.length) (grownCap w (xs.length + ys.length) old e) → ∀ ob, ob = Obj.cells ((xs.flatMap f).toArray ++ (ys.flatMap f).toArray ++ Builtin.zeroCells z.cells (grownCap w (xs.length + ys.length) old e - (xs.length + ys.length))) e →
        At w0 (w.drew.alloc ob).heap (w.drew.alloc ob) ∧ Own (fun b => G b ∨ H.size ≤ b) e (w.drew.alloc ob).heap f i.size r (xs ++ ys) ∧ Mo G H (w.drew.alloc ob).heap := by
      rintro old r ho' rfl ob rfl
      have hge := grownCap_ge w (xs.length + ys.length) old e
      have hcm : grownCap w (xs.length + ys.length) old e ≤ maxLen := grownCap_le_maxLen w (xs.length + ys.length) old e (by unfold maxLen; omega)
      have ha2 : At w0 H w.drew := ha.drew
      refine ⟨⟨rfl, ha.os, ha.tape, ha.output, ha2.dr⟩, ?_, ?_⟩
      · have := Own.new (e := e) (G' := fun b => G b ∨ H.size ≤ b) (w := w.drew) (z := z) (cap := grownCap w (xs.length + ys.length) old e) (zs := xs ++ ys) h.cells h.one hzs (.inr (by rw [ha2.heap]; exact Nat.le_refl _)) (by simpa using hge) hcm
        simpa using this
      · rw [(ha2.alloc _).heap]; exact Mo.push _ _ _
    rcases h.ex with ⟨rfl, rfl⟩ | ⟨g, cap', cur, rfl, hg, hh, r1, r2, r3, r4⟩
    · by_cases hm0 : ys.length = 0
      · have hys : ys = [] := List.eq_nil_of_length_eq_zero hm0
        subst hys
        refine ⟨.slice none 0 0, H, w, ?_, ha, by simpa using h.imp (fun b _ hg => .inl hg), Mo.refl _ _⟩
        simp [execOp, ho, resolve, invoke, builtin, hf.eval hs, hf.eval hx, Builtin.append_, run_underlying ht, sizeOf, typeInfo, hi, Builtin.lenOf, Builtin.firstCells, loadCells, loadCellsFrom]
      · simp only [List.length_nil, Nat.zero_add] at hb hm
        have hrun := run_append_nil (P := P) w t o.type e i z ht hi hz ad ys.length cap (ys.flatMap f) hl hnews (by omega) (by omega) (by omega)
        have := grown 0 _ (by simp; omega) rfl _ rfl
        simp only [List.length_nil, Nat.zero_add, List.flatMap_nil, List.nil_append, Array.empty_append] at this
        exact ⟨_, _, _, by simp [execOp, ho, resolve, invoke, builtin, hf.eval hs, hf.eval hx, hrun], this.1, this.2.1, this.2.2⟩
    · obtain ⟨fz, hh0, hsf⟩ := id hh
      have hg' : w.heap[g]? = some (.cells cur e fz) := by rw [ha.heap]; exact hh0
      by_cases hroom : xs.length + ys.length ≤ cap'
      · have hfit : xs.length * i.size + (ys.flatMap f).length ≤ cur.size := by rw [hl, r3, ← Nat.add_mul]; exact Nat.mul_le_mul_right _ hroom
        have hrun := run_append_soft (P := P) (w := w) t o.type e i ht hi g xs.length cap' cur fz hg' hsf ad ys.length cap (ys.flatMap f) hl hnews h1 hroom hfit
        refine ⟨.slice (some ⟨g, 0, none⟩) (xs.length + ys.length) cap', (w.setRow g (cur.toList.take (xs.length * i.size) ++ ys.flatMap f ++ cur.toList.drop (xs.length * i.size + (ys.flatMap f).length)).toArray).heap, w.setRow g (cur.toList.take (xs.length * i.size) ++ ys.flatMap f ++ cur.toList.drop (xs.length * i.size + (ys.flatMap f).length)).toArray, by simp [execOp, ho, resolve, invoke, builtin, hf.eval hs, hf.eval hx, hrun], ⟨rfl, ha.os, ha.tape, ha.output, ha.dr⟩, ⟨h.cells, h.one, .inr ⟨g, cap', _, by rw [List.length_append],   .inl hg, ⟨fz, setRow_heap w g cur _ e _ hg', hsf.1, fun i hi => hsf.2 i (by simp only [List.size_toArray, List.length_append, List.length_take, List.length_drop, Array.length_toList] at hi; omega)⟩, by simpa using hroom, r2, ?_, ?_⟩⟩, ⟨by rw [← ha.heap]; simp [World.setRow], fun b hb hn => ?_⟩⟩
        · simp only [List.size_toArray, List.length_append, List.length_take, List.length_drop, Array.length_toList]
          omega
        · have hlx := length_flatMap h.cells xs
          rw [r4, ← List.flatMap_append, List.length_append, Nat.add_mul, ← hl, ← hlx, ← List.length_append, ← List.flatMap_append]
          exact List.take_left
        · rw [← ha.heap]; exact setRow_other w g b _ (fun e => hn (e ▸ hg))
      · have holds : ∀ j c, (xs.flatMap f)[j]? = some c → w.cell? ((⟨g, 0, none⟩ : Addr).add j) = some c := h.rd.pts h.cells rfl ha
        have hrun := run_append_grow (P := P) w t o.type e i z ht hi hz ⟨g, 0, none⟩ xs.length cap' (xs.flatMap f) (length_flatMap h.cells xs) holds ad ys.length cap (ys.flatMap f) hl hnews (by omega) (by omega) (growslice_fits (by omega) hb)
        have := grown cap' _ (by omega) rfl _ rfl
        exact ⟨_, _, _, by simp [execOp, ho, resolve, invoke, builtin, hf.eval hs, hf.eval hx, hrun], this.1, this.2.1, this.2.2⟩

/-! literal rows and structs -/
theorem foldl_set (size : Nat) : ∀ (vs : List Value) (j off : Nat) (cs : Array Value) (pre old post : List Value), cs.toList = pre ++ old ++ post → pre.length = off + j → old.length = vs.length →
    ((vs.zipIdx j).foldl (fun cs (x : Value × Nat) => cs.setIfInBounds (off + x.2) x.1) cs).toList = pre ++ vs ++ post
  | [], j, off, cs, pre, old, post, h, _, ho => by
    have : old = [] := List.eq_nil_of_length_eq_zero ho
    subst this
    simpa using h
  | v :: vs, j, off, cs, pre, old, post, h, hp, ho => by
    match old, ho with
    | x :: old, ho =>
      simp only [List.zipIdx_cons, List.foldl_cons]
      have := foldl_set size vs (j + 1) off (cs.setIfInBounds (off + j) v) (pre ++ [v]) old post (by
        rw [Array.toList_setIfInBounds, h, ← hp]
        simp) (by simp; omega) (by simpa using ho)
      simpa using this

theorem fill_row (size : Nat) : ∀ (vs : List Value) (i : Nat) (cs : Array Value) (pre old : List Value), cs.toList = pre ++ old → pre.length = i * size → old.length = vs.length * size → (∀ v ∈ vs, v.cells.size = size) →
    ∃ r, Instr.fill (fun i => some (i * size, size)) cs ((vs.zipIdx i).map (fun p => (p.2, p.1))) = some r ∧ r.toList = pre ++ vs.flatMap (fun v => v.cells.toList)
  | [], i, cs, pre, old, h, _, ho, _ => by
    have : old = [] := List.eq_nil_of_length_eq_zero (by simpa using ho)
    subst this
    exact ⟨cs, rfl, by simpa using h⟩
  | v :: vs, i, cs, pre, old, h, hp, ho, hv => by
    have hvs := hv v (by simp)
    have hlen : size ≤ old.length := by rw [ho]; simp [Nat.add_mul]
    have hold : old = old.take size ++ old.drop size := (List.take_append_drop size old).symm
    have hcs : cs.toList = pre ++ old.take size ++ old.drop size := by rw [h, List.append_assoc, ← hold]
    have hsz : cs.size = pre.length + old.length := by rw [← Array.length_toList, h, List.length_append]
    have hf := foldl_set size v.cells.toList 0 (i * size) cs pre (old.take size) (old.drop size) hcs (by omega) (by rw [List.length_take, show v.cells.toList.length = size from by simpa using hvs]; omega)
    simp only [List.zipIdx_cons, List.map_cons, Instr.fill]
    rw [if_neg (by simp [hvs]; omega)]
    obtain ⟨r, hr, hrl⟩ := fill_row size vs (i + 1) (v.cells.zipIdx.foldl (fun cs (x : Value × Nat) => cs.setIfInBounds (i * size + x.2) x.1) cs) (pre ++ v.cells.toList) (old.drop size) (by
      rw [← hf, ← Array.foldl_toList, Array.toList_zipIdx]) (by simp [hvs, hp, Nat.add_mul]) (by simp [ho, Nat.add_mul]) (fun u hu => hv u (by simp [hu]))
    exact ⟨r, hr, by simpa using hrl⟩

theorem Z.lit {t : TypeId} {k bytes : Nat} {parts : List (Nat × Operand)} (vs : List Value) (zs : List α) (ho : o.op = .buildSlice t k parts.toArray) (hinf : Inf P t e sz bytes) (hp : opvs l (parts.map (·.2)) = some vs) (hi : parts.map (·.1) = List.range k) (hk : vs.length = k) (hks : k * sz ≤ 16777216) (hk16 : k ≤ 16777216)
    (hc : ∀ x, (f x).length = sz) (h1 : ∀ x, ∀ u ∈ f x, u.oneCell' = true) (hz : vs.map (fun v => v.cells.toList) = zs.map f) :
    Z P w0 n l H o (fun r H' => Own (fun b => b = H.size) e H' f sz r zs ∧ Nw H H' ∧ ∃ c, H' = H.push c) := by
  obtain ⟨ht, i, z, hi', hz', hsz, hby, hzs⟩ := hinf
  subst hsz
  intro a w hf ha
  have hev := hf.evals hp
  have hzl : zs.length = k := by have := congrArg List.length hz; simpa [hk] using this.symm
  have hparts : (parts.toArray.map (fun (x : Nat × Operand) => (x.1, a.eval x.2))).toList = (vs.zipIdx 0).map (fun p => (p.2, p.1)) := by
    have e1 : parts.map (fun (x : Nat × Operand) => (x.1, a.eval x.2)) = (List.range k).zip vs := by
      rw [← hi, ← hev, List.map_map]
      clear hi hev hp ho
      induction parts with
      | nil => rfl
      | cons p ps ih => simp [ih]
    rw [List.map_toArray]
    simp only
    rw [e1, List.zipIdx_eq_zip_range', map_zip_swap_range hk]
  have hcells : ∀ v ∈ vs, v.cells.size = i.size := by
    intro v hv
    have : v.cells.toList ∈ zs.map f := by rw [← hz]; exact List.mem_map.2 ⟨v, hv, rfl⟩
    obtain ⟨x, _, hx⟩ := List.mem_map.1 this
    have := hc x
    rw [hx] at this
    simpa using this
  have hfl : vs.flatMap (fun v => v.cells.toList) = zs.flatMap f := by rw [List.flatMap_def, List.flatMap_def, hz]
  have hbase : ∀ (zc : Array Value), ((Array.range (k * i.size)).map (zc[· % zc.size]!)).toList = [] ++ ((Array.range (k * i.size)).map (zc[· % zc.size]!)).toList := fun _ => rfl
  have hrun : ∃ cs : Array Value, cs.toList = zs.flatMap f ∧ (Instr.buildSlice t k (parts.toArray.map (fun (x : Nat × Operand) => (x.1, a.eval x.2)))).run P w = .ok (.slice (some ⟨w.heap.size, 0, none⟩) k k) (w.alloc (.cells cs e)) := by
    by_cases h0 : k * i.size = 0
    · obtain ⟨r, hr, hrl⟩ := fill_row i.size vs 0 #[] [] [] rfl (by simp) (by simp [hk, h0]) hcells
      refine ⟨r, by rw [hrl, hfl]; rfl, ?_⟩
      simp only [Instr.buildSlice, Sem.run_bind, run_underlying ht, Result.andThen_ok, sizeOf, typeInfo, run_program, hi', Sem.run_pure, hparts]
      have hz0 : ∀ g : Nat → Value, (Array.range 0).map g = #[] := fun g => by simp
      simp [h0, hz0, hr, newRow]
    · obtain ⟨r, hr, hrl⟩ := fill_row i.size vs 0 ((Array.range (k * i.size)).map (z.cells[· % z.cells.size]!)) [] _ (hbase _) (by simp) (by simp [hk]) hcells
      refine ⟨r, by rw [hrl, hfl]; rfl, ?_⟩
      simp only [Instr.buildSlice, Sem.run_bind, run_underlying ht, Result.andThen_ok, sizeOf, typeInfo, run_program, hi', Sem.run_pure, hparts]
      have hlim : ¬ (k * i.size > 2 ^ 24) := by simp only [Nat.reducePow]; omega
      simp [h0, hlim, zeroValue, typeInfo, hi', hz', hr, newRow]
  obtain ⟨cs, hcs, hrun⟩ := hrun
  refine ⟨.slice (some ⟨w.heap.size, 0, none⟩) k k, H.push (.cells cs e), w.alloc (.cells cs e), ?_, ha.alloc (.cells cs e), ⟨hc, h1, .inr ⟨H.size, k, cs, ?_, rfl, .of (by simp), ?_, ?_, ?_, ?_⟩⟩, Nw.pu _ _, _, rfl⟩
  · simp only [execOp, ho, Sem.run_bind, hrun, Result.andThen_ok, Sem.run_pure]
  · rw [hzl, ha.heap]
  · omega
  · unfold maxLen; omega
  · rw [← Array.length_toList, hcs, length_flatMap hc, hzl]
  · rw [← length_flatMap hc, List.take_of_length_le (by rw [← hcs]; exact Nat.le_refl _), hcs]

theorem Y.build {t : TypeId} {parts : List (Nat × Operand)} {vs : List Value} {v : Value} (ho : o.op = .build t parts.toArray) (hp : opvs l (parts.map (·.2)) = some vs) (hrun : ∀ w, (Instr.build t ((parts.map (·.1)).zip vs).toArray).run P w = .ok v w) : Y P w0 n l H o v := by
  intro a w hf ha
  have hev := hf.evals hp
  have e1 : parts.map (fun (x : Nat × Operand) => (x.1, a.eval x.2)) = (parts.map (·.1)).zip vs := by
    rw [← hev, List.map_map]
    clear hev hp ho hrun
    induction parts with
    | nil => rfl
    | cons p ps ih => simp [ih]
  have hr := hrun w
  rw [← e1] at hr
  simp [execOp, ho, hr]
end
end
end Go.Proofs.YtfbfjhppppoilaaDoor.E
