/-
  Owned rows whose block is told by a number: for program-printed bookkeeping: no condition.
-/
import Derived.Test.YtgcnkjnbdeihhaaVar
import Derived.Laws.Pointers
import Derived.Laws.Cover3
namespace Go.Proofs.Ytgcnkjnbdeihhaa.E
set_option linter.unusedVariables false
set_option linter.unusedSimpArgs false
set_option linter.unusedSectionVars false

theorem Rd.cells1 {α : Type} {F : Nat → Prop} {H : Heap} {f : α → List Value} {sz : Nat} {v : Value} {l : List α} (h : Rd F H f sz v l) : v.cells.toList = [v] := by
  obtain ⟨a, cap, rfl, _⟩ := h.ex
  rfl
/-- a row that is ours alone; k: its block's number and one; 0: it has none -/
structure Ow {α : Type} (k : Nat) (e : TypeId) (H : Heap) (f : α → List Value) (sz : Nat) (v : Value) (l : List α) : Prop where
  own : Own (fun b => b + 1 = k) e H f sz v l
  le : k ≤ H.size

section
variable {α : Type} {k : Nat} {e : TypeId} {H H' : Heap} {f : α → List Value} {sz : Nat} {v : Value} {l : List α}
theorem Ow.rd (h : Ow k e H f sz v l) : Rd (fun b => b + 1 = k) H f sz v l := h.own.rd
theorem Ow.len (h : Ow k e H f sz v l) : l.length ≤ 9223372036854775807 := h.own.len
theorem Ow.sv (h : Ow k e H f sz v l) : (toSV v).v = v := h.own.sv
theorem Ow.up {S : Nat → Prop} (h : Ow k e H f sz v l) (s : Mo S H H') (hS : ∀ b, b < H.size → b + 1 = k → ¬ S b) : Ow k e H' f sz v l := ⟨h.own.up s hS, Nat.le_trans h.le s.size⟩
theorem Ow.nw (h : Ow k e H f sz v l) (s : Nw H H') : Ow k e H' f sz v l := h.up s (fun _ _ _ e => e)
theorem Ow.nil (hf : ∀ x, (f x).length = sz) (h1 : ∀ x, ∀ u ∈ f x, u.oneCell' = true) : Ow 0 e H f sz (.slice none 0 0) ([] : List α) := ⟨Own.nil hf h1, Nat.zero_le _⟩
theorem Ow.of {G : Nat → Prop} (h : Own G e H f sz v l) : ∃ k, Ow k e H f sz v l ∧ (k = 0 ∨ ∃ g, k = g + 1 ∧ G g) := by
  rcases h.ex with ⟨rfl, rfl⟩ | ⟨g, cap, cur, hv, hg, hh, r⟩
  · exact ⟨0, ⟨⟨h.cells, h.one, .inl ⟨rfl, rfl⟩⟩, Nat.zero_le _⟩, .inl rfl⟩
  · exact ⟨g + 1, ⟨⟨h.cells, h.one, .inr ⟨g, cap, cur, hv, rfl, hh, r⟩⟩, hh.lt⟩, .inr ⟨g, rfl, hg⟩⟩
theorem Ow.at {j : Nat} (h : Ow k e H f sz v l) (hj : j < l.length) : blk v + 1 = k := (h.own.at hj).1
theorem Ow.pt {j : Nat} (h : Ow k e H f sz v l) (hj : j < l.length) : Pt H ⟨blk v, j * sz, none⟩ (f l[j]) := h.own.pt hj
end

section
variable {P : Program} {w0 : World} {n : Nat} {l : FL} {H : Heap} {o : Oper} {α : Type} {k : Nat} {e : TypeId} {f : α → List Value} {sz : Nat} {v : Value} {xs ys : List α}
theorem Y.cast {v v2 : Value} (h : Y P w0 n l H o v) (e : v = v2) : Y P w0 n l H o v2 := e ▸ h
theorem Z.mono {R R' : Value → Heap → Prop} (h : Z P w0 n l H o R) (hr : ∀ v H', R v H' → R' v H') : Z P w0 n l H o R' := by
  intro a w hf ha
  obtain ⟨v, H', w', h1, h2, h3⟩ := h a w hf ha
  exact ⟨v, H', w', h1, h2, hr _ _ h3⟩
theorem S.mono {R R' : Heap → Prop} (h : S P w0 n l H o R) (hr : ∀ H', R H' → R' H') : S P w0 n l H o R' := by
  intro a w hf ha
  obtain ⟨H', w', h1, h2, h3⟩ := h a w hf ha
  exact ⟨H', w', h1, h2, hr _ h3⟩
theorem Z.apnd {F : Nat → Prop} {s x : Operand} {t : TypeId} {u : Value} {bytes : Nat} (h : Ow k e H f sz v xs) (hr : Rd F H f sz u ys) (ho : o.op = .call { callee := .builtin .append, args := #[s, x], argTypes := #[t, t] })
    (hinf : Inf P t e sz bytes) (hs : opv l s = some v) (hx : opv l x = some u) (hb : (xs.length + ys.length) * bytes ≤ 140737488355328) (hm : xs.length + ys.length ≤ 9223372036854775807) :
    Z P w0 n l H o (fun r H' => ∃ k', Ow k' e H' f sz r (xs ++ ys) ∧ (k' = 0 ∨ k' = k ∨ H.size < k') ∧ Mo (fun b => b + 1 = k) H H') :=
  (Z.append h.own hr ho hinf hs hx hb hm).mono fun r H' ⟨h1, h2⟩ => by
    obtain ⟨k', h3, h4⟩ := Ow.of h1
    refine ⟨k', h3, ?_, h2⟩
    rcases h4 with rfl | ⟨g, rfl, h5⟩
    · exact .inl rfl
    · omega
theorem Z.apndStr {v : Value} {xs ys : List UInt8} {s x : Operand} {t u : TypeId} (h : Ow k e H fB 1 v xs) (ho : o.op = .call { callee := .builtin .append, args := #[s, x], argTypes := #[t, u] })
    (hinf : Inf P t e 1 1) (hu : P.underlying u = some .string) (hs : opv l s = some v) (hx : opv l x = some (Str ys)) (hm : xs.length + ys.length ≤ 140737488355328) :
    Z P w0 n l H o (fun r H' => ∃ k', Ow k' e H' fB 1 r (xs ++ ys) ∧ (k' = 0 ∨ k' = k ∨ H.size < k') ∧ Mo (fun b => b + 1 = k) H H') :=
  (Z.appendStr h.own ho hinf hu hs hx hm).mono fun r H' ⟨h1, h2⟩ => by
    obtain ⟨k', h3, h4⟩ := Ow.of h1
    refine ⟨k', h3, ?_, h2⟩
    rcases h4 with rfl | ⟨g, rfl, h5⟩
    · exact .inl rfl
    · omega
theorem Ow.new {G : Nat → Prop} {H' : Heap} {c : Obj} (hG : ∀ b, G b → b = H.size) (h : Own G e H' f sz v xs) (hc : H' = H.push c) : Ow (H.size + 1) e H' f sz v xs :=
  ⟨h.imp (fun b _ hb => by rw [hG b hb]), by rw [hc]; simp⟩
theorem Z.litw {t : TypeId} {k bytes : Nat} {parts : List (Nat × Operand)} (vs : List Value) (zs : List α) (ho : o.op = .buildSlice t k parts.toArray) (hinf : Inf P t e sz bytes) (hp : opvs l (parts.map (·.2)) = some vs) (hi : parts.map (·.1) = List.range k) (hk : vs.length = k) (hks : k * sz ≤ 16777216) (hk16 : k ≤ 16777216)
    (hc : ∀ x, (f x).length = sz) (h1 : ∀ x, ∀ u ∈ f x, u.oneCell' = true) (hz : vs.map (fun v => v.cells.toList) = zs.map f) :
    Z P w0 n l H o (fun r H' => Ow (H.size + 1) e H' f sz r zs ∧ Nw H H' ∧ ∃ c, H' = H.push c) :=
  (Z.lit vs zs ho hinf hp hi hk hks hk16 hc h1 hz).mono fun r H' ⟨h1, h2, c, h3⟩ => ⟨Ow.new (fun _ e => e) h1 h3, h2, c, h3⟩
theorem Z.makew {t e : TypeId} {bytes : Nat} {x c : Operand} {kl kc : IntKind} {lv : Int} {z : Value} (k : Nat) (z0 : α) (ho : o.op = .makeSlice t x c) (hinf : Inf P t e sz bytes) (hz : ∀ w, (zeroValue e).run P w = .ok z w) (hz0 : f z0 = z.cells.toList)
    (hc : ∀ x, (f x).length = sz) (h1 : ∀ x, ∀ u ∈ f x, u.oneCell' = true) (hx : opv l x = some (.int kl lv)) (hcc : opv l c = some (.int kc lv)) (hk : lv = k) (hb : (bytes : Int) * k ≤ 281474976710656) (hk2 : k ≤ 9223372036854775807) :
    Z P w0 n l H o (fun r H' => Ow (H.size + 1) e H' f sz r (List.replicate k z0) ∧ Nw H H' ∧ ∃ ob, H' = H.push ob) :=
  (Z.makeSlice k z0 ho hinf hz hz0 hc h1 hx hcc hk hb hk2).mono fun r H' ⟨h1, h2, c, h3⟩ => ⟨Ow.new (fun _ e => e) h1 h3, h2, c, h3⟩
theorem Z.strbw {x : Operand} {t u e : TypeId} {ut : TypeDesc} {s : List UInt8} (ho : o.op = .convert t u x) (ht : P.underlying t = some ut) (hu : P.underlying u = some (.slice e)) (he : P.underlying e = some (.int .u8)) (hx : opv l x = some (Str s)) (hb : s.length ≤ 9223372036854775807) :
    Z P w0 n l H o (fun r H' => Ow (H.size + 1) e H' fB 1 r s ∧ Nw H H' ∧ H'.size = H.size + 1) :=
  (Z.strb ho ht hu he hx hb).mono fun r H' ⟨h1, h2, h3⟩ => ⟨⟨h1.imp (fun b _ hb => by rw [hb]), by rw [h3]; exact Nat.le_refl _⟩, h2, h3⟩
theorem Y.owAddr {x i : Operand} {t : TypeId} {k2 : IntKind} {iv : Int} (h : Ow k e H f sz v xs) (j : Nat) (ho : o.op = .indexAddr t x i) (ht : ∀ w, (underlying t).run P w = .ok (.slice e) w) (hs : ∀ w, (sizeOf e).run P w = .ok sz w)
    (hx : opv l x = some v) (hi : opv l i = some (.int k2 iv)) (hj : iv = j) (hlt : j < xs.length) : Y P w0 n l H o (.pointer (some ⟨blk v, j * sz, none⟩)) := Y.ownAddr h.own j ho ht hs hx hi hj hlt
theorem S.oww {x y : Operand} {t : TypeId} {c : Value} (h : Ow k e H f sz v xs) (j i : Nat) (z : α) (ho : o.op = .store t x y) (hx : opv l x = some (.pointer (some ⟨blk v, j * sz + i, none⟩))) (hy : opv l y = some c) (h1 : c.oneCell' = true)
    (hs : ∀ w, (sizeOf t).run P w = .ok 1 w) (hj : j < xs.length) (hk : i < sz) (hz : f z = (f xs[j]).set i c) : S P w0 n l H o (fun H' => Ow k e H' f sz v (xs.set j z) ∧ Mo (fun b => b + 1 = k) H H') :=
  (S.own h.own j i z ho hx hy h1 hs hj hk hz).mono fun H' ⟨h1, h2⟩ => ⟨⟨h1, Nat.le_trans h.le h2.size⟩, h2.weaken (fun b _ e => by have := h.at hj; omega)⟩
theorem S.owwN {x y : Operand} {t : TypeId} {c : Value} {m : Nat} (h : Ow k e H f sz v xs) (j i : Nat) (z : α) (vs : List Value) (ho : o.op = .store t x y) (hx : opv l x = some (.pointer (some ⟨blk v, j * sz + i, none⟩))) (hy : opv l y = some c) (hc : c.cells.toList = vs) (h1 : ∀ u ∈ vs, u.oneCell' = true)
    (hs : ∀ w, (sizeOf t).run P w = .ok m w) (hm : vs.length = m) (hj : j < xs.length) (hk : i + m ≤ sz) (hz : f z = splice (f xs[j]) i vs) : S P w0 n l H o (fun H' => Ow k e H' f sz v (xs.set j z) ∧ Mo (fun b => b + 1 = k) H H') :=
  (S.ownN h.own j i z vs ho hx hy hc h1 hs hm hj hk hz).mono fun H' ⟨h1, h2⟩ => ⟨⟨h1, Nat.le_trans h.le h2.size⟩, h2.weaken (fun b _ e => by have := h.at hj; omega)⟩

/-! against nil -/
theorem Y.peq {x y : Operand} {t u : TypeId} {p : Option Addr} (ho : o.op = .binOp .eql t x y u) (ht : P.underlying t = some (.pointer (P.pointee t))) (hm : P.eqGuardType P.depth t = false) (hx : opv l x = some (.pointer p)) (hy : opv l y = some (.pointer none)) : Y P w0 n l H o (.bool p.isNone) := by
  intro a w hf ha
  have h := run_equal_pointer_nil (w := w) t p ht
  simp [execOp, ho, hf.eval hx, hf.eval hy, binOp, eqGuard, h]
theorem Y.pne {x y : Operand} {t u : TypeId} {p : Option Addr} (ho : o.op = .binOp .neq t x y u) (ht : P.underlying t = some (.pointer (P.pointee t))) (hm : P.eqGuardType P.depth t = false) (hx : opv l x = some (.pointer p)) (hy : opv l y = some (.pointer none)) : Y P w0 n l H o (.bool p.isSome) := by
  intro a w hf ha
  have h := run_equal_pointer_nil (w := w) t p ht
  simp [execOp, ho, hf.eval hx, hf.eval hy, binOp, eqGuard, h]
theorem Y.sleq {x y : Operand} {t u e : TypeId} {p : Option Addr} {k c : Nat} (ho : o.op = .binOp .eql t x y u) (ht : P.underlying t = some (.slice e)) (hx : opv l x = some (.slice p k c)) (hy : opv l y = some (.slice none 0 0)) : Y P w0 n l H o (.bool p.isNone) := by
  intro a w hf ha
  have h := run_equal_slice_nil (w := w) t e p k c ht
  simp [execOp, ho, hf.eval hx, hf.eval hy, binOp, eqGuard, h]
theorem Y.slne {x y : Operand} {t u e : TypeId} {p : Option Addr} {k c : Nat} (ho : o.op = .binOp .neq t x y u) (ht : P.underlying t = some (.slice e)) (hx : opv l x = some (.slice p k c)) (hy : opv l y = some (.slice none 0 0)) : Y P w0 n l H o (.bool p.isSome) := by
  intro a w hf ha
  have h := run_equal_slice_nil (w := w) t e p k c ht
  simp [execOp, ho, hf.eval hx, hf.eval hy, binOp, eqGuard, h]
/-- []byte(".."), of a constant: the fresh row bears a mark behind its last cell -/
theorem Z.bconst {k2 : Nat} {x : Operand} {t e : TypeId} {v : Value} {xs : List UInt8} (h : Ow k2 e H fB 1 v xs) (hne : xs ≠ []) (ho : o.op = .convert t t x) (ht : P.underlying t = some (.slice e)) (he : P.underlying e = some (.int .u8)) (hx : opv l x = some v) :
    Z P w0 n l H o (fun r H' => r = v ∧ Ow k2 e H' fB 1 v xs ∧ Mo (fun b => b + 1 = k2) H H') := by
  intro a w hf ha
  rcases h.own.ex with ⟨rfl, rfl⟩ | ⟨g, cap, cur, hv, hg, hh, r1, r2, r3, r4⟩
  · exact absurd rfl hne
  · obtain ⟨⟨lo, hi⟩, hh, hs1, hs2⟩ := hh
    simp only at hs1 hs2
    have hw : w.heap[g]? = some (.cells cur e (lo, hi)) := by rw [ha.heap]; exact hh
    have hsh : w.shape? g = some (e, cur.size) := by unfold World.shape?; rw [hw]
    have hrun : (execOp a.eval o).run P w = .ok (.value v) (w.freeze ⟨g, cur.size, none⟩ 1) := by
      simp [execOp, ho, hf.eval hx, hv, convert, run_underlying ht, run_underlying he, markStringish, hsh]
    have hfr : (w.freeze ⟨g, cur.size, none⟩ 1).heap[g]? = some (.cells cur e (if lo == hi then (cur.size, cur.size + 1) else (min lo cur.size, max hi (cur.size + 1)))) := by
      unfold World.freeze
      rw [if_neg (by decide)]
      simp [Array.getElem?_modify, hw]
    have hmo : Mo (fun b => b + 1 = k2) H (w.freeze ⟨g, cur.size, none⟩ 1).heap := by
      unfold World.freeze
      rw [if_neg (by decide)]
      refine ⟨by simp [ha.heap], fun b hb hne2 => ?_⟩
      simp only [Array.getElem?_modify, ha.heap]
      rw [if_neg (by omega)]
    have hsz : (w.freeze ⟨g, cur.size, none⟩ 1).heap.size = H.size := by
      unfold World.freeze
      rw [if_neg (by decide)]
      simp [ha.heap]
    refine ⟨v, _, _, hrun, ⟨rfl, ?_, ?_, ?_⟩, rfl, ⟨⟨h.own.cells, h.own.one, .inr ⟨g, cap, cur, hv, hg, ⟨_, hfr, ?_⟩, r1, r2, r3, r4⟩⟩, by rw [hsz]; exact h.le⟩, hmo⟩
    · have := ha.os; unfold World.freeze; rw [if_neg (by decide)]; exact this
    · have := ha.tape; unfold World.freeze; rw [if_neg (by decide)]; exact this
    · have := ha.output; unfold World.freeze; rw [if_neg (by decide)]; exact this
    · by_cases hlh : lo = hi
      · subst hlh
        simp only [beq_self_eq_true, if_true]
        refine ⟨by simp only; omega, fun i hi2 hc => ?_⟩
        simp only at hc; omega
      · rw [if_neg (by simpa using hlh)]
        refine ⟨by simp only; omega, fun i hi2 hc => ?_⟩
        simp only at hc
        have := hs2 lo
        by_cases hl : lo < cur.size
        · have := hs2 lo hl; omega
        · omega
end
end Go.Proofs.Ytgcnkjnbdeihhaa.E
