/-
  Rules for single operations over heap facts: reading slices, cells, numbers, texts: no condition.
-/
import Derived.Test.YtfbfjhppppoilaaDoorEng
namespace Go.Proofs.YtfbfjhppppoilaaDoor.E
set_option linter.unusedVariables false
set_option linter.unusedSimpArgs false
set_option linter.unusedSectionVars false

/-- a text, by its bytes -/
def Str (l : List UInt8) : Value := .string ⟨l.toArray⟩
def cell (H : Heap) (a : Addr) : Option Value := match H[a.block]? with
  | some (.cells c _ _) => if a.spot.isSome then none else c[a.off]?
  | _ => none
theorem At.cell {w0 w : World} {H : Heap} (h : At w0 H w) (a : Addr) : w.cell? a = E.cell H a := by
  unfold World.cell? E.cell; rw [h.heap]; rfl

/-- the cells from ad on are cs -/
structure Pt (H : Heap) (ad : Addr) (cs : List Value) : Prop where
  spot : ad.spot = none
  cells : ∀ j c, cs[j]? = some c → cell H ⟨ad.block, ad.off + j, none⟩ = some c

theorem add_eq {ad : Addr} (h : ad.spot = none) (j : Nat) : ad.add j = ⟨ad.block, ad.off + j, none⟩ := by
  obtain ⟨b, o, s⟩ := ad
  simp only at h
  subst h
  unfold Addr.add
  split
  · subst_vars; rfl
  · rfl

theorem Pt.drop {H : Heap} {ad : Addr} {cs : List Value} (h : Pt H ad cs) (k : Nat) : Pt H (ad.add k) (cs.drop k) := by
  rw [add_eq h.spot]
  refine ⟨rfl, fun j c e => ?_⟩
  rw [List.getElem?_drop] at e
  have := h.cells (k + j) c e
  simpa [Nat.add_assoc] using this
theorem Pt.take {H : Heap} {ad : Addr} {cs : List Value} (h : Pt H ad cs) (k : Nat) : Pt H ad (cs.take k) := by
  refine ⟨h.spot, fun j c e => h.cells j c ?_⟩
  rw [List.getElem?_take] at e
  split at e
  · exact e
  · cases e

/-- the slice value v reads as the list l: element x lies in the cells 'f x', 'sz' of them; its block meets F -/
structure Rd {α : Type} (F : Nat → Prop) (H : Heap) (f : α → List Value) (sz : Nat) (v : Value) (l : List α) : Prop where
  ex : ∃ a cap, v = .slice a l.length cap ∧ l.length ≤ cap ∧ cap ≤ maxLen ∧ (l ≠ [] → ∃ ad : Addr, a = some ad ∧ ad.spot = none ∧ F ad.block ∧ ad.block < H.size ∧ ∀ i x, l[i]? = some x → Pt H ⟨ad.block, ad.off + i * sz, none⟩ (f x))

/-- between H and H' blocks that meet S may have turned, no others; none is gone -/
structure Mo (S : Nat → Prop) (H H' : Heap) : Prop where
  size : H.size ≤ H'.size
  same : ∀ b, b < H.size → ¬ S b → H'[b]? = H[b]?

theorem Mo.refl (S : Nat → Prop) (H : Heap) : Mo S H H := ⟨Nat.le_refl _, fun _ _ _ => rfl⟩
theorem Mo.trans {S T U : Nat → Prop} {H H1 H2 : Heap} (h : Mo S H H1) (k : Mo T H1 H2) (hs : ∀ b, b < H.size → S b → U b) (ht : ∀ b, b < H.size → T b → U b) : Mo U H H2 :=
  ⟨Nat.le_trans h.size k.size, fun b hb hu => (k.same b (Nat.lt_of_lt_of_le hb h.size) (fun e => hu (ht b hb e))).trans (h.same b hb (fun e => hu (hs b hb e)))⟩
theorem Mo.weaken {S U : Nat → Prop} {H H1 : Heap} (h : Mo S H H1) (hs : ∀ b, b < H.size → S b → U b) : Mo U H H1 := ⟨h.size, fun b hb hu => h.same b hb (fun e => hu (hs b hb e))⟩
theorem Mo.push (S : Nat → Prop) (H : Heap) (o : Obj) : Mo S H (H.push o) := ⟨by simp, fun b hb _ => by rw [Array.getElem?_push, if_neg (by omega)]⟩

/-- nothing that was there has turned -/
abbrev Nw (H H' : Heap) : Prop := Mo (fun _ => False) H H'
theorem Nw.refl (H : Heap) : Nw H H := Mo.refl _ H
theorem Nw.tr {H H1 H2 : Heap} (h : Nw H H1) (k : Nw H1 H2) : Nw H H2 := Mo.trans h k (fun _ _ e => e) (fun _ _ e => e)
theorem Mo.tr {H H1 H2 : Heap} (h : Mo (fun _ => False) H H1) (k : Mo (fun _ => False) H1 H2) : Nw H H2 := Mo.trans h k (fun _ _ e => e) (fun _ _ e => e)
theorem Nw.pu (H : Heap) (o : Obj) : Nw H (H.push o) := Mo.push _ H o

theorem cell_same {H H' : Heap} {a : Addr} (h : H'[a.block]? = H[a.block]?) : cell H' a = cell H a := by unfold cell; rw [h]
theorem cell_lt {H : Heap} {a : Addr} {v : Value} (h : cell H a = some v) : a.block < H.size := by
  unfold cell at h
  cases hb : H[a.block]? with
  | none => simp [hb] at h
  | some o => exact (Array.getElem?_eq_some_iff.1 hb).1

theorem Pt.up {S : Nat → Prop} {H H' : Heap} {ad : Addr} {cs : List Value} (h : Pt H ad cs) (s : Mo S H H') (hS : ¬ S ad.block) : Pt H' ad cs :=
  ⟨h.spot, fun j c e => by
    have hc := h.cells j c e
    have hlt : ad.block < H.size := cell_lt (a := ⟨ad.block, ad.off + j, none⟩) hc
    exact (cell_same (a := ⟨ad.block, ad.off + j, none⟩) (s.same ad.block hlt hS)).trans hc⟩

theorem Pt.nw {H H' : Heap} {ad : Addr} {cs : List Value} (h : Pt H ad cs) (s : Nw H H') : Pt H' ad cs := h.up s (fun e => e)

section
variable {α : Type} {F : Nat → Prop} {H H' : Heap} {f : α → List Value} {sz : Nat} {v : Value} {l : List α}
theorem Rd.up {S : Nat → Prop} (h : Rd F H f sz v l) (s : Mo S H H') (hS : ∀ b, b < H.size → F b → ¬ S b) : Rd F H' f sz v l := by
  obtain ⟨a, cap, hv, h1, h2, h3⟩ := h.ex
  refine ⟨a, cap, hv, h1, h2, fun hl => ?_⟩
  obtain ⟨ad, e1, e2, e3, e4, e5⟩ := h3 hl
  exact ⟨ad, e1, e2, e3, Nat.lt_of_lt_of_le e4 s.size, fun i x hx => (e5 i x hx).up s (hS _ e4 e3)⟩
theorem Rd.nw (h : Rd F H f sz v l) (s : Nw H H') : Rd F H' f sz v l := h.up s (fun _ _ _ e => e)
theorem Rd.imp {F' : Nat → Prop} (h : Rd F H f sz v l) (hF : ∀ b, b < H.size → F b → F' b) : Rd F' H f sz v l := by
  obtain ⟨a, cap, hv, h1, h2, h3⟩ := h.ex
  refine ⟨a, cap, hv, h1, h2, fun hl => ?_⟩
  obtain ⟨ad, e1, e2, e3, e4, e5⟩ := h3 hl
  exact ⟨ad, e1, e2, hF _ e4 e3, e4, e5⟩
theorem Rd.len (h : Rd F H f sz v l) : l.length ≤ 9223372036854775807 := by
  obtain ⟨a, cap, hv, h1, h2, h3⟩ := h.ex
  unfold maxLen at h2; omega
theorem Rd.nil (F : Nat → Prop) (H : Heap) (f : α → List Value) (sz : Nat) : Rd F H f sz (.slice none 0 0) [] := ⟨none, 0, rfl, Nat.le_refl _, Nat.zero_le _, fun h => absurd rfl h⟩
end

section
variable {P : Program} {w0 : World} {n : Nat} {l : FL} {H : Heap} {o : Oper}

theorem Y.move {x : Operand} {v : Value} (ho : o.op = .move x) (hx : opv l x = some v) : Y P w0 n l H o v := by
  intro a w hf ha; simp [execOp, ho, hf.eval hx]
theorem Y.assign {x : Operand} {v : Value} (ho : o.op = .assign x) (hx : opv l x = some v) : Y P w0 n l H o v := by
  intro a w hf ha; simp [execOp, ho, hf.eval hx]
theorem Y.pick_t {c x y : Operand} {v : Value} (ho : o.op = .pick c x y) (hc : opv l c = some (.bool true)) (hx : opv l x = some v) : Y P w0 n l H o v := by
  intro a w hf ha; simp [execOp, ho, hf.eval hx, hf.eval hc, asBool]
theorem Y.pick_f {c x y : Operand} {v : Value} (ho : o.op = .pick c x y) (hc : opv l c = some (.bool false)) (hx : opv l y = some v) : Y P w0 n l H o v := by
  intro a w hf ha; simp [execOp, ho, hf.eval hx, hf.eval hc, asBool]
theorem Y.extract {x : Operand} {k : Nat} {vs : Array Value} {v : Value} (ho : o.op = .extract x k) (hx : opv l x = some (.tuple vs)) (hv : vs[k]? = some v) : Y P w0 n l H o v := by
  intro a w hf ha; simp [execOp, ho, hf.eval hx, Instr.extract, hv]
theorem Y.nilCheck {x : Operand} {ad : Addr} (ho : o.op = .nilCheck x) (hx : opv l x = some (.pointer (some ad))) : Y P w0 n l H o (.pointer (some ad)) := by
  intro a w hf ha; simp [execOp, ho, hf.eval hx]

theorem Y.isT {p : Prop} [Decidable p] (h : Y P w0 n l H o (.bool (decide p))) (hp : p) : Y P w0 n l H o (.bool true) := by rwa [decide_eq_true hp] at h
theorem Y.isF {p : Prop} [Decidable p] (h : Y P w0 n l H o (.bool (decide p))) (hp : ¬p) : Y P w0 n l H o (.bool false) := by rwa [decide_eq_false hp] at h
/-! numbers -/
theorem Y.add {x y : Operand} {t u : TypeId} {k : IntKind} {a b : Int} (ho : o.op = .binOp .add t x y u) (hx : opv l x = some (.int k a)) (hy : opv l y = some (.int k b)) : Y P w0 n l H o (.int k (k.wrap (a + b))) := by
  intro a w hf ha; simp [execOp, ho, hf.eval hx, hf.eval hy, binOp, Op.intArith, eqGuard]
theorem Y.sub {x y : Operand} {t u : TypeId} {k : IntKind} {a b : Int} (ho : o.op = .binOp .sub t x y u) (hx : opv l x = some (.int k a)) (hy : opv l y = some (.int k b)) : Y P w0 n l H o (.int k (k.wrap (a - b))) := by
  intro a w hf ha; simp [execOp, ho, hf.eval hx, hf.eval hy, binOp, Op.intArith, eqGuard]
theorem Y.mul {x y : Operand} {t u : TypeId} {k : IntKind} {a b : Int} (ho : o.op = .binOp .mul t x y u) (hx : opv l x = some (.int k a)) (hy : opv l y = some (.int k b)) : Y P w0 n l H o (.int k (k.wrap (a * b))) := by
  intro a w hf ha; simp [execOp, ho, hf.eval hx, hf.eval hy, binOp, Op.intArith, eqGuard]
theorem Y.addk {x y : Operand} {t u : TypeId} {k : IntKind} {a b c : Int} (ho : o.op = .binOp .add t x y u) (hx : opv l x = some (.int k a)) (hy : opv l y = some (.int k b)) (hc : k.wrap (a + b) = c) : Y P w0 n l H o (.int k c) := by
  subst hc; exact Y.add ho hx hy
theorem Y.subk {x y : Operand} {t u : TypeId} {k : IntKind} {a b c : Int} (ho : o.op = .binOp .sub t x y u) (hx : opv l x = some (.int k a)) (hy : opv l y = some (.int k b)) (hc : k.wrap (a - b) = c) : Y P w0 n l H o (.int k c) := by
  subst hc; exact Y.sub ho hx hy
theorem Y.mulk {x y : Operand} {t u : TypeId} {k : IntKind} {a b c : Int} (ho : o.op = .binOp .mul t x y u) (hx : opv l x = some (.int k a)) (hy : opv l y = some (.int k b)) (hc : k.wrap (a * b) = c) : Y P w0 n l H o (.int k c) := by
  subst hc; exact Y.mul ho hx hy
/-- the sum fits -/
theorem Y.addi {x y : Operand} {t u : TypeId} {a b : Int} (ho : o.op = .binOp .add t x y u) (hx : opv l x = some (.int .i64 a)) (hy : opv l y = some (.int .i64 b)) (hb : -9223372036854775808 ≤ a + b ∧ a + b ≤ 9223372036854775807) : Y P w0 n l H o (.int .i64 (a + b)) := by
  have h := Y.add (P := P) (w0 := w0) (n := n) (H := H) ho hx hy
  rwa [IntWalk.i64_in _ hb] at h
theorem Y.subi {x y : Operand} {t u : TypeId} {a b : Int} (ho : o.op = .binOp .sub t x y u) (hx : opv l x = some (.int .i64 a)) (hy : opv l y = some (.int .i64 b)) (hb : -9223372036854775808 ≤ a - b ∧ a - b ≤ 9223372036854775807) : Y P w0 n l H o (.int .i64 (a - b)) := by
  have h := Y.sub (P := P) (w0 := w0) (n := n) (H := H) ho hx hy
  rwa [IntWalk.i64_in _ hb] at h
theorem Y.muli {x y : Operand} {t u : TypeId} {a b : Int} (ho : o.op = .binOp .mul t x y u) (hx : opv l x = some (.int .i64 a)) (hy : opv l y = some (.int .i64 b)) (hb : -9223372036854775808 ≤ a * b ∧ a * b ≤ 9223372036854775807) : Y P w0 n l H o (.int .i64 (a * b)) := by
  have h := Y.mul (P := P) (w0 := w0) (n := n) (H := H) ho hx hy
  rwa [IntWalk.i64_in _ hb] at h
theorem Y.quo {x y : Operand} {t u : TypeId} {k : IntKind} {a b : Int} (ho : o.op = .binOp .quo t x y u) (hx : opv l x = some (.int k a)) (hy : opv l y = some (.int k b)) (hb : b ≠ 0) : Y P w0 n l H o (.int k (k.wrap (a.tdiv b))) := by
  intro a w hf ha; simp [execOp, ho, hf.eval hx, hf.eval hy, binOp, Op.intDiv, eqGuard, hb]
theorem Y.rem {x y : Operand} {t u : TypeId} {k : IntKind} {a b : Int} (ho : o.op = .binOp .rem t x y u) (hx : opv l x = some (.int k a)) (hy : opv l y = some (.int k b)) (hb : b ≠ 0) : Y P w0 n l H o (.int k (a.tmod b)) := by
  intro a w hf ha; simp [execOp, ho, hf.eval hx, hf.eval hy, binOp, Op.intDiv, eqGuard, hb]
theorem Y.quoi {x y : Operand} {t u : TypeId} {a b : Int} (ho : o.op = .binOp .quo t x y u) (hx : opv l x = some (.int .i64 a)) (hy : opv l y = some (.int .i64 b)) (hb : 0 ≤ a ∧ a ≤ 9223372036854775807 ∧ 1 ≤ b) : Y P w0 n l H o (.int .i64 (a / b)) := by
  have h := Y.quo (P := P) (w0 := w0) (n := n) (H := H) ho hx hy (by omega)
  rwa [IntWalk.i64_quo _ _ hb] at h
theorem Y.remi {x y : Operand} {t u : TypeId} {k : IntKind} {a b : Int} (ho : o.op = .binOp .rem t x y u) (hx : opv l x = some (.int k a)) (hy : opv l y = some (.int k b)) (hb : 0 ≤ a ∧ 1 ≤ b) : Y P w0 n l H o (.int k (a % b)) := by
  have h := Y.rem (P := P) (w0 := w0) (n := n) (H := H) ho hx hy (by omega)
  rwa [Int.tmod_eq_emod_of_nonneg hb.1] at h
theorem Y.bits {x y : Operand} {t u : TypeId} {k : IntKind} {a b : Int} (op : BinOp) (r : Int) (ho : o.op = .binOp op t x y u) (hx : opv l x = some (.int k a)) (hy : opv l y = some (.int k b)) (hop : op = .and ∨ op = .or ∨ op = .xor ∨ op = .andNot)
    (hr : ∀ w, (Op.intBits op k a b).run P w = .ok (.int k r) w) : Y P w0 n l H o (.int k r) := by
  intro a w hf ha
  rcases hop with rfl | rfl | rfl | rfl <;> simp [execOp, ho, hf.eval hx, hf.eval hy, binOp, hr, eqGuard]
theorem Y.shl {x y : Operand} {t u : TypeId} {k k2 : IntKind} {a b : Int} (ho : o.op = .binOp .shl t x y u) (hx : opv l x = some (.int k a)) (hy : opv l y = some (.int k2 b)) (hb : 0 ≤ b) : Y P w0 n l H o (.int k (k.wrap (a * 2 ^ min b.toNat k.bits))) := by
  intro a w hf ha; simp [execOp, ho, hf.eval hx, hf.eval hy, binOp, Op.shift, eqGuard, show ¬ b < 0 by omega]
theorem Y.shr {x y : Operand} {t u : TypeId} {k k2 : IntKind} {a b : Int} (ho : o.op = .binOp .shr t x y u) (hx : opv l x = some (.int k a)) (hy : opv l y = some (.int k2 b)) (hb : 0 ≤ b) : Y P w0 n l H o (.int k (a.fdiv (2 ^ min b.toNat k.bits))) := by
  intro a w hf ha; simp [execOp, ho, hf.eval hx, hf.eval hy, binOp, Op.shift, eqGuard, show ¬ b < 0 by omega]
theorem Y.lss {x y : Operand} {t u : TypeId} {k : IntKind} {a b : Int} (ho : o.op = .binOp .lss t x y u) (hx : opv l x = some (.int k a)) (hy : opv l y = some (.int k b)) : Y P w0 n l H o (.bool (decide (a < b))) := by
  intro a w hf ha; simp [execOp, ho, hf.eval hx, hf.eval hy, binOp, Op.intCmp, eqGuard]
theorem Y.leq {x y : Operand} {t u : TypeId} {k : IntKind} {a b : Int} (ho : o.op = .binOp .leq t x y u) (hx : opv l x = some (.int k a)) (hy : opv l y = some (.int k b)) : Y P w0 n l H o (.bool (decide (a ≤ b))) := by
  intro a w hf ha; simp [execOp, ho, hf.eval hx, hf.eval hy, binOp, Op.intCmp, eqGuard]
theorem Y.gtr {x y : Operand} {t u : TypeId} {k : IntKind} {a b : Int} (ho : o.op = .binOp .gtr t x y u) (hx : opv l x = some (.int k a)) (hy : opv l y = some (.int k b)) : Y P w0 n l H o (.bool (decide (b < a))) := by
  intro a w hf ha; simp [execOp, ho, hf.eval hx, hf.eval hy, binOp, Op.intCmp, eqGuard]
theorem Y.geq {x y : Operand} {t u : TypeId} {k : IntKind} {a b : Int} (ho : o.op = .binOp .geq t x y u) (hx : opv l x = some (.int k a)) (hy : opv l y = some (.int k b)) : Y P w0 n l H o (.bool (decide (b ≤ a))) := by
  intro a w hf ha; simp [execOp, ho, hf.eval hx, hf.eval hy, binOp, Op.intCmp, eqGuard]
theorem beq_dec (a b : Int) : (a == b) = decide (a = b) := by by_cases h : a = b <;> simp [h]
theorem bne_dec (a b : Int) : (a != b) = decide (a ≠ b) := by by_cases h : a = b <;> simp [h]
theorem Y.eql {x y : Operand} {t u : TypeId} {k : IntKind} {a b : Int} (ho : o.op = .binOp .eql t x y u) (hx : opv l x = some (.int k a)) (hy : opv l y = some (.int k b)) : Y P w0 n l H o (.bool (decide (a = b))) := by
  intro ac w hf ha; rw [← beq_dec]; simp [execOp, ho, hf.eval hx, hf.eval hy, binOp, Op.intCmp, eqGuard]
theorem Y.neq {x y : Operand} {t u : TypeId} {k : IntKind} {a b : Int} (ho : o.op = .binOp .neq t x y u) (hx : opv l x = some (.int k a)) (hy : opv l y = some (.int k b)) : Y P w0 n l H o (.bool (decide (a ≠ b))) := by
  intro ac w hf ha; rw [← bne_dec]; simp [execOp, ho, hf.eval hx, hf.eval hy, binOp, Op.intCmp, eqGuard]
theorem Y.beql {x y : Operand} {t u : TypeId} {a b : Bool} (ho : o.op = .binOp .eql t x y u) (ht : P.underlying t = some .bool) (hx : opv l x = some (.bool a)) (hy : opv l y = some (.bool b)) : Y P w0 n l H o (.bool (decide (a = b))) := by
  intro ac w hf ha
  have h := run_equalIn_bool' w 9999 t a b ht
  have h2 : (a == b) = decide (a = b) := by cases a <;> cases b <;> rfl
  rw [h2] at h
  simp [execOp, ho, hf.eval hx, hf.eval hy, binOp, eqGuard, Op.equal, Op.maxDepth, h]
theorem Y.not {x : Operand} {t : TypeId} {b : Bool} (ho : o.op = .unOp .not t x) (hx : opv l x = some (.bool b)) : Y P w0 n l H o (.bool (!b)) := by
  intro ac w hf ha; simp [execOp, ho, hf.eval hx, Op.unary]
theorem Y.notp {x : Operand} {t : TypeId} {p : Prop} [Decidable p] (ho : o.op = .unOp .not t x) (hx : opv l x = some (.bool (decide p))) : Y P w0 n l H o (.bool (decide (¬ p))) := by
  intro ac w hf ha; simp [execOp, ho, hf.eval hx, Op.unary]
theorem Y.conv {x : Operand} {s d : TypeId} {k kd : IntKind} {a : Int} {ds : TypeDesc} (ho : o.op = .convert s d x) (hs : ∀ w, (underlying s).run P w = .ok ds w) (hd : ∀ w, (underlying d).run P w = .ok (.int kd) w) (hx : opv l x = some (.int k a)) : Y P w0 n l H o (.int kd (kd.wrap a)) := by
  intro ac w hf ha; simp [execOp, ho, hf.eval hx, convert, hs, hd, Conv.intToInt]
theorem Y.convi {x : Operand} {s d : TypeId} {k kd : IntKind} {a : Int} {ds : TypeDesc} (ho : o.op = .convert s d x) (hs : ∀ w, (underlying s).run P w = .ok ds w) (hd : ∀ w, (underlying d).run P w = .ok (.int kd) w) (hx : opv l x = some (.int k a)) (hw : kd.wrap a = a) : Y P w0 n l H o (.int kd a) := by
  have h := Y.conv (P := P) (w0 := w0) (n := n) (H := H) ho hs hd hx
  rwa [hw] at h
theorem Y.maxi {x y : Operand} {ts : Array TypeId} {k : IntKind} {a b : Int} (ho : o.op = .call { callee := .builtin .max, args := #[x, y], argTypes := ts }) (hx : opv l x = some (.int k a)) (hy : opv l y = some (.int k b)) : Y P w0 n l H o (.int k (Max.max a b)) := by
  intro ac w hf ha
  have : (if b > a then b else a) = Max.max a b := by
    by_cases h : b > a
    · rw [if_pos h]; omega
    · rw [if_neg h]; omega
  simp [execOp, ho, hf.eval hx, hf.eval hy, resolve, invoke, builtin, Builtin.max_, Builtin.max2, ← this]
theorem Y.maxi3 {x y z : Operand} {ts : Array TypeId} {k : IntKind} {a b c : Int} (ho : o.op = .call { callee := .builtin .max, args := #[x, y, z], argTypes := ts }) (hx : opv l x = some (.int k a)) (hy : opv l y = some (.int k b)) (hz : opv l z = some (.int k c)) : Y P w0 n l H o (.int k (Max.max (Max.max a b) c)) := by
  intro ac w hf ha
  have e : ∀ a b : Int, (if b > a then b else a) = Max.max a b := by
    intro a b
    by_cases h : b > a
    · rw [if_pos h]; omega
    · rw [if_neg h]; omega
  simp [execOp, ho, hf.eval hx, hf.eval hy, hf.eval hz, resolve, invoke, builtin, Builtin.max_, Builtin.max2, ← e]
theorem Y.mini {x y : Operand} {ts : Array TypeId} {k : IntKind} {a b : Int} (ho : o.op = .call { callee := .builtin .min, args := #[x, y], argTypes := ts }) (hx : opv l x = some (.int k a)) (hy : opv l y = some (.int k b)) : Y P w0 n l H o (.int k (Min.min a b)) := by
  intro ac w hf ha
  have : (if b < a then b else a) = Min.min a b := by
    by_cases h : b < a
    · rw [if_pos h]; omega
    · rw [if_neg h]; omega
  simp [execOp, ho, hf.eval hx, hf.eval hy, resolve, invoke, builtin, Builtin.min_, Builtin.min2, ← this]

theorem iv {k : IntKind} {a b : Int} (h : a = b) : some (Value.int k a) = some (.int k b) := by rw [h]
theorem ivv {k : IntKind} {a b : Int} (h : a = b) : Value.int k a = .int k b := by rw [h]
theorem bdec {p q : Prop} [Decidable p] [Decidable q] (h : p ↔ q) : Value.bool (decide p) = Value.bool (decide q) := by
  congr 1; exact decide_eq_decide.2 h
theorem bT {p : Prop} [Decidable p] (h : p) : Value.bool true = Value.bool (decide p) := by rw [decide_eq_true h]
theorem bF {p : Prop} [Decidable p] (h : ¬ p) : Value.bool false = Value.bool (decide p) := by rw [decide_eq_false h]
theorem Y.neg {x : Operand} {t : TypeId} {k : IntKind} {a : Int} (ho : o.op = .unOp .neg t x) (hx : opv l x = some (.int k a)) : Y P w0 n l H o (.int k (k.wrap (0 - a))) := by
  intro ac w hf ha; simp [execOp, ho, hf.eval hx, Op.unary, Op.intArith]
/-! structs held against one another -/
theorem Y.aeql {x y : Operand} {t u : TypeId} {xs ys : Array Value} {p : Prop} [Decidable p] (ho : o.op = .binOp .eql t x y u) (hm : P.eqGuardType P.depth t = false) (hE : ∀ w, (Op.equalIn 10000 t (.agg xs) (.agg ys)).run P w = .ok (decide p) w)
    (hx : opv l x = some (.agg xs)) (hy : opv l y = some (.agg ys)) : Y P w0 n l H o (.bool (decide p)) := by
  intro ac w hf ha
  simp [execOp, ho, hf.eval hx, hf.eval hy, run_eqGuard_agg _ _ _ _ _ _ _ hm, run_eql_struct, hE]
theorem Y.aneq {x y : Operand} {t u : TypeId} {xs ys : Array Value} {p : Prop} [Decidable p] (ho : o.op = .binOp .neq t x y u) (hm : P.eqGuardType P.depth t = false) (hE : ∀ w, (Op.equalIn 10000 t (.agg xs) (.agg ys)).run P w = .ok (decide p) w)
    (hx : opv l x = some (.agg xs)) (hy : opv l y = some (.agg ys)) : Y P w0 n l H o (.bool (decide (¬ p))) := by
  intro ac w hf ha
  simp [execOp, ho, hf.eval hx, hf.eval hy, run_eqGuard_agg _ _ _ _ _ _ _ hm, run_neq_struct, hE]

/-! texts -/
theorem bytes_ext {a : List UInt8} : (ByteArray.mk a.toArray).toList = a := by rw [ByteArray.toList_eq]
theorem str_beq {a b : List UInt8} : ((ByteArray.mk a.toArray).toList == (ByteArray.mk b.toArray).toList) = decide (a = b) := by
  rw [ByteArray.toList_eq, ByteArray.toList_eq]
  show (a == b) = decide (a = b)
  by_cases h : a = b <;> simp [h]
theorem Y.seql {x y : Operand} {t u : TypeId} {a b : List UInt8} (ho : o.op = .binOp .eql t x y u) (hx : opv l x = some (Str a)) (hy : opv l y = some (Str b)) : Y P w0 n l H o (.bool (decide (a = b))) := by
  intro ac w hf ha
  have h : (a == b) = decide (a = b) := by by_cases h : a = b <;> simp [h]
  simp [execOp, ho, hf.eval hx, hf.eval hy, binOp, Op.stringOp, eqGuard, Str, h]
theorem Y.sneq {x y : Operand} {t u : TypeId} {a b : List UInt8} (ho : o.op = .binOp .neq t x y u) (hx : opv l x = some (Str a)) (hy : opv l y = some (Str b)) : Y P w0 n l H o (.bool (decide (a ≠ b))) := by
  intro ac w hf ha
  have h : (a == b) = decide (a = b) := by by_cases h : a = b <;> simp [h]
  simp [execOp, ho, hf.eval hx, hf.eval hy, binOp, Op.stringOp, eqGuard, Str, h]
theorem Y.slss {x y : Operand} {t u : TypeId} {a b : List UInt8} (ho : o.op = .binOp .lss t x y u) (hx : opv l x = some (Str a)) (hy : opv l y = some (Str b)) : Y P w0 n l H o (.bool (Op.bytesLess a b)) := by
  intro ac w hf ha
  have e1 := ByteArray.toList_eq (ByteArray.mk a.toArray)
  have e2 := ByteArray.toList_eq (ByteArray.mk b.toArray)
  simp only at e1 e2
  simp [execOp, ho, hf.eval hx, hf.eval hy, binOp, Op.stringOp, eqGuard, Str, e1, e2]
theorem str_size (a : List UInt8) : (ByteArray.mk a.toArray).size = a.length := by simp [ByteArray.size]
theorem Y.sadd {x y : Operand} {t u : TypeId} {a b : List UInt8} (ho : o.op = .binOp .add t x y u) (hx : opv l x = some (Str a)) (hy : opv l y = some (Str b)) (hb : a.length + b.length ≤ 9223372036854775807) : Y P w0 n l H o (Str (a ++ b)) := by
  intro ac w hf ha
  have h64 : IntKind.i64.max = 9223372036854775807 := by decide
  have : ¬ (((ByteArray.mk a.toArray).size + (ByteArray.mk b.toArray).size : Nat) : Int) > IntKind.i64.max := by
    rw [str_size, str_size, h64]; omega
  have e : (ByteArray.mk a.toArray) ++ (ByteArray.mk b.toArray) = ByteArray.mk (a ++ b).toArray := by
    apply ByteArray.ext
    simp [ByteArray.data_append]
  simp only [execOp, ho, hf.eval hx, hf.eval hy, binOp, Op.stringOp, eqGuard, Str]
  rw [if_neg this, e]
  rfl
theorem Y.slen {x : Operand} {t : TypeId} {s : List UInt8} (ho : o.op = .call { callee := .builtin .len, args := #[x], argTypes := #[t] }) (ht : ∀ w, (underlying t).run P w = .ok .string w) (hx : opv l x = some (Str s)) : Y P w0 n l H o (.int .i64 s.length) := by
  have hsz := str_size s
  intro ac w hf ha; simp [execOp, ho, hf.eval hx, resolve, invoke, builtin, Builtin.len_, ht, goInt, Str, hsz]
theorem Y.sindex {x i : Operand} {t : TypeId} {s : List UInt8} {k : IntKind} {iv : Int} (j : Nat) (ho : o.op = .index t x i) (ht : ∀ w, (underlying t).run P w = .ok .string w) (hx : opv l x = some (Str s)) (hi : opv l i = some (.int k iv)) (hj : iv = j) (hlt : j < s.length) : Y P w0 n l H o (.int .u8 (s[j]'hlt).toNat) := by
  intro ac w hf ha
  subst hj
  have hs : (ByteArray.mk s.toArray)[j]? = some (s[j]'hlt) := by
    have hh : j < (ByteArray.mk s.toArray).size := by rw [str_size]; exact hlt
    rw [getElem?_pos _ j hh]
    simp [ByteArray.getElem_eq_getElem_data]
  simp [execOp, ho, hf.eval hx, hf.eval hi, Instr.index, asIntOf, ht, hs, Str]
theorem Y.sslice {x : Operand} {lo hi : Option Operand} {t : TypeId} {s : List UInt8} (i j : Nat) (ho : o.op = .slice t x lo hi none) (ht : ∀ w, (underlying t).run P w = .ok .string w) (hx : opv l x = some (Str s))
    (hlo : lo = none ∧ i = 0 ∨ ∃ p k iv, lo = some p ∧ opv l p = some (.int k iv) ∧ iv = (i : Int)) (hhi : hi = none ∧ j = s.length ∨ ∃ p k iv, hi = some p ∧ opv l p = some (.int k iv) ∧ iv = (j : Int)) (hij : i ≤ j) (hj : j ≤ s.length) : Y P w0 n l H o (Str ((s.take j).drop i)) := by
  intro ac w hf ha
  have e1 : ∀ w, (Instr.sliceBounds false s.length s.length (lo.map ac.eval) (hi.map ac.eval) none).run P w = .ok (i, j, s.length) w := by
    intro w
    rcases hlo with ⟨rfl, rfl⟩ | ⟨p, k, iv, rfl, h1, rfl⟩ <;> rcases hhi with ⟨rfl, rfl⟩ | ⟨p2, k2, iv2, rfl, h3, rfl⟩ <;>
      simp [Instr.sliceBounds, Instr.sliceBound, asIntOf, hf.eval, *]
  have hu : ∀ w, (underlying t).run P w = .ok .string w := ht
  have hsz : (ByteArray.mk s.toArray).size = s.length := str_size s
  have hex : (ByteArray.mk s.toArray).extract i j = ByteArray.mk ((s.take j).drop i).toArray := by
    apply ByteArray.ext
    simp [ByteArray.data_extract, List.extract_toArray, List.extract_eq_take_drop, List.drop_take]
  simp [execOp, ho, hf.eval hx, Instr.sliceAt, Instr.slice, hu, Str, hsz, e1, hex]

/-! slices, cells -/
section
variable {α : Type} {F : Nat → Prop} {f : α → List Value} {sz : Nat} {v : Value} {xs : List α}
theorem Y.len {x : Operand} {t e : TypeId} (h : Rd F H f sz v xs) (ho : o.op = .call { callee := .builtin .len, args := #[x], argTypes := #[t] }) (ht : ∀ w, (underlying t).run P w = .ok (.slice e) w) (hx : opv l x = some v) : Y P w0 n l H o (.int .i64 xs.length) := by
  obtain ⟨a, cap, rfl, _⟩ := h.ex
  intro ac w hf ha; simp [execOp, ho, hf.eval hx, resolve, invoke, builtin, Builtin.len_, ht, goInt]
theorem Y.lenv {x : Operand} {t e : TypeId} {a : Option Addr} {k c : Nat} (ho : o.op = .call { callee := .builtin .len, args := #[x], argTypes := #[t] }) (ht : ∀ w, (underlying t).run P w = .ok (.slice e) w) (hx : opv l x = some (.slice a k c)) : Y P w0 n l H o (.int .i64 k) := by
  intro ac w hf ha; simp [execOp, ho, hf.eval hx, resolve, invoke, builtin, Builtin.len_, ht, goInt]

theorem Y.indexAddr {x i : Operand} {t e : TypeId} {k : IntKind} {iv : Int} (h : Rd F H f sz v xs) (j : Nat) (ho : o.op = .indexAddr t x i) (ht : ∀ w, (underlying t).run P w = .ok (.slice e) w) (hs : ∀ w, (sizeOf e).run P w = .ok sz w)
    (hx : opv l x = some v) (hi : opv l i = some (.int k iv)) (hj : iv = j) (hlt : j < xs.length) : ∃ ad, (∀ H', Y P w0 n l H' o (.pointer (some ad))) ∧ Pt H ad (f xs[j]) := by
  obtain ⟨a, cap, rfl, h1, h2, h3⟩ := h.ex
  obtain ⟨ad, rfl, e2, e3, e4, e5⟩ := h3 (by intro e; subst e; simp at hlt)
  subst hj
  refine ⟨_, ?_, e5 j xs[j] (by simp [hlt])⟩
  intro H' ac w hf ha
  simp [execOp, ho, hf.eval hx, hf.eval hi, Instr.indexAt, asIntOf, ht, hs, hlt, add_eq e2]

theorem Y.load1 {x : Operand} {t : TypeId} {ad : Addr} {c : Value} {cs : List Value} (h : Pt H ad (c :: cs)) (ho : o.op = .load t x) (ht : ∀ w, (isAgg t).run P w = .ok false w) (hx : opv l x = some (.pointer (some ad))) : Y P w0 n l H o c := by
  intro ac w hf ha
  have hc := h.cells 0 c (by simp)
  have : ({ block := ad.block, off := ad.off + 0, spot := none } : Addr) = ad := by have := h.spot; obtain ⟨b, off, s⟩ := ad; simp_all
  rw [this, ← ha.cell] at hc
  simp [execOp, ho, hf.eval hx, Instr.loadAt, Instr.sureAddr, loadVar, ht, load, Sem.run, hc]

theorem run_loadCellsFrom {P : Program} {w : World} {ad : Addr} (hs : ad.spot = none) : ∀ (k i : Nat) (cs : List Value) (acc : Array Value), cs.length = k → (∀ j c, cs[j]? = some c → w.cell? ⟨ad.block, ad.off + (i + j), none⟩ = some c) →
    (loadCellsFrom ad i k acc).run P w = .ok (acc ++ cs.toArray) w
  | 0, i, cs, acc, hk, _ => by
    have : cs = [] := List.eq_nil_of_length_eq_zero hk
    subst this; simp [loadCellsFrom]
  | k + 1, i, cs, acc, hk, h => by
    match cs, hk with
    | c :: cs, hk =>
      have h0 := h 0 c (by simp)
      have := run_loadCellsFrom (P := P) (w := w) hs k (i + 1) cs (acc.push c) (by simpa using hk) (fun j c' e => by have := h (j + 1) c' (by simpa using e); rwa [show i + (j + 1) = i + 1 + j by omega] at this)
      simp only [Nat.add_zero] at h0
      simp [loadCellsFrom, load, Sem.run, add_eq hs, h0, this]

theorem Y.loadN {x : Operand} {t : TypeId} {ad : Addr} {cs : List Value} {k : Nat} (h : Pt H ad cs) (ho : o.op = .load t x) (ht : ∀ w, (isAgg t).run P w = .ok true w) (hs : ∀ w, (sizeOf t).run P w = .ok k w) (hk : cs.length = k) (hx : opv l x = some (.pointer (some ad))) : Y P w0 n l H o (.agg cs.toArray) := by
  intro ac w hf ha
  have := run_loadCellsFrom (P := P) (w := w) h.spot k 0 cs #[] hk (fun j c e => by rw [ha.cell]; simpa using h.cells j c e)
  simp [execOp, ho, hf.eval hx, Instr.loadAt, Instr.sureAddr, loadVar, ht, hs, loadCells, this]

theorem Y.fieldAddr {x : Operand} {s : TypeId} {k off sz2 : Nat} {ad : Addr} {cs : List Value} {fs : Array Field} {fd : Field} (h : Pt H ad cs) (ho : o.op = .fieldAddr s x k) (hu : ∀ w, (underlying s).run P w = .ok (.struct fs) w) (hk : fs[k]? = some fd) (hof : fd.offset = off)
    (hsz : ∀ w, (sizeOf fd.type).run P w = .ok sz2 w) (hz : sz2 ≠ 0) (hx : opv l x = some (.pointer (some ad))) : Y P w0 n l H o (.pointer (some (ad.add off))) := by
  intro ac w hf ha
  have _h := h
  simp [execOp, ho, hf.eval hx, Instr.fieldAt, Instr.sureAddr, fieldPlace, hu, hk, hof, hsz, hz]

theorem Y.slice {x : Operand} {lo hi : Option Operand} {t e : TypeId} (h : Rd F H f sz v xs) (i j : Nat) (ho : o.op = .slice t x lo hi none) (ht : ∀ w, (underlying t).run P w = .ok (.slice e) w) (hs : ∀ w, (sizeOf e).run P w = .ok sz w) (hx : opv l x = some v)
    (hlo : lo = none ∧ i = 0 ∨ ∃ p k iv, lo = some p ∧ opv l p = some (.int k iv) ∧ iv = (i : Int)) (hhi : hi = none ∧ j = xs.length ∨ ∃ p k iv, hi = some p ∧ opv l p = some (.int k iv) ∧ iv = (j : Int)) (hij : i ≤ j) (hj : j ≤ xs.length) :
    ∃ v', (∀ H', Y P w0 n l H' o v') ∧ Rd F H f sz v' ((xs.take j).drop i) := by
  obtain ⟨a, cap, rfl, h1, h2, h3⟩ := h.ex
  refine ⟨.slice (if cap = i then a else a.map (·.add (i * sz))) (j - i) (cap - i), ?_, ?_⟩
  · intro H' ac w hf ha
    have e1 : ∀ w, (Instr.sliceBounds true xs.length cap (lo.map ac.eval) (hi.map ac.eval) none).run P w = .ok (i, j, cap) w := by
      intro w
      have b2 : j ≤ cap := by omega
      rcases hlo with ⟨rfl, rfl⟩ | ⟨p, k, iv, rfl, h1, rfl⟩ <;> rcases hhi with ⟨rfl, rfl⟩ | ⟨p2, k2, iv2, rfl, h3, rfl⟩ <;>
        simp [Instr.sliceBounds, Instr.sliceBound, asIntOf, hf.eval, *]
    have hu : ∀ w, (underlying t).run P w = .ok (.slice e) w := ht
    simp [execOp, ho, hf.eval hx, Instr.sliceAt, Instr.slice, hu, hs, e1]
  · have hlen : ((xs.take j).drop i).length = j - i := by simp; omega
    refine ⟨_, _, by rw [hlen], by rw [hlen]; omega, by omega, fun hne => ?_⟩
    have hji : i < j := by
      apply Decidable.byContradiction; intro hc
      exact hne (List.eq_nil_of_length_eq_zero (by rw [hlen]; omega))
    obtain ⟨ad, rfl, e2, e3, e4, e5⟩ := h3 (by intro e; subst e; simp at hj; omega)
    rw [if_neg (by omega)]
    refine ⟨ad.add (i * sz), rfl, by rw [add_eq e2], by rw [add_eq e2]; exact e3, by rw [add_eq e2]; exact e4, fun q y hy => ?_⟩
    rw [add_eq e2]
    rw [List.getElem?_drop, List.getElem?_take] at hy
    split at hy
    · have := e5 (i + q) y hy
      simpa [Nat.add_mul, Nat.add_assoc] using this
    · cases hy
end
end
end Go.Proofs.YtfbfjhppppoilaaDoor.E
