/-
  Maps that are ours, told by their block's number: for program-printed bookkeeping: no condition.
-/
import Derived.Test.YtfbfjhppppoilaaDoorOw
import Derived.Test.YtfbfjhppppoilaaDoorMap
namespace Go.Proofs.YtfbfjhppppoilaaDoor.E
open Go.MapKept
set_option linter.unusedVariables false
set_option linter.unusedSimpArgs false
set_option linter.unusedSectionVars false
/-- the block b is a map that holds m -/
structure Mp {κ β : Type} (H : Heap) (fk : κ → Value) (fv : β → Value) (b : Nat) (m : List (κ × β)) : Prop where
  mo : MapOf (fun x => x = b) H fk fv (.map (some b)) m
section
variable {κ β : Type} {H H' : Heap} {fk : κ → Value} {fv : β → Value} {b k : Nat} {m : List (κ × β)} {ks : List Nat}
theorem Mp.lt (h : Mp H fk fv b m) : b < H.size := h.mo.blk_lt
theorem Mp.up {S : Nat → Prop} (h : Mp H fk fv b m) (s : Mo S H H') (hS : ¬ S b) : Mp H' fk fv b m := ⟨h.mo.up s (fun x _ e h2 => hS (by rw [← e]; exact h2))⟩
theorem Mp.nw (h : Mp H fk fv b m) (s : Nw H H') : Mp H' fk fv b m := ⟨h.mo.nw s⟩
theorem Mp.upL (x : Mp H fk fv b m) (s : Mo (Ms ks) H H') (d : DL (b + 1) ks) : Mp H' fk fv b m := x.up s (fun h2 => d (b + 1) h2 b rfl rfl)
theorem Mp.upA (x : Mp H fk fv b m) (s : Mo (fun c => k ≤ c) H H') (d : b + 1 ≤ k) : Mp H' fk fv b m := x.up s (by omega)
instance : Hp (Mp H fk fv b m) H H' (Mp H' fk fv b m) := ⟨fun s h => h.nw s⟩
instance : Hv (Mp H fk fv b m) H H' (Mp H' fk fv b m) (Dj (b + 1)) := ⟨fun s h d => h.upL s (DL.o d)⟩
end
section
variable {P : Program} {w0 : World} {n : Nat} {l : FL} {H : Heap} {o : Oper} {κ β : Type} [DecidableEq κ] {fk : κ → Value} {fv : β → Value} {b : Nat} {m : List (κ × β)} {d : TypeDesc}
theorem Z.makeMp (fk : κ → Value) (fv : β → Value) {t : TypeId} (ho : o.op = .makeMap t none) : Z P w0 n l H o (fun r H' => r = .map (some H.size) ∧ Mp H' fk fv H.size ([] : List (κ × β)) ∧ Nw H H' ∧ ∃ ob, H' = H.push ob) := by
  intro a w hf ha
  refine ⟨.map (some w.heap.size), H.push (.map #[] 0), w.alloc (.map #[] 0), ?_, ha.alloc _, by rw [ha.heap], ⟨H.size, #[], 0, rfl, rfl, by simp, stamped_empty 0, rfl⟩, Nw.pu _ _, _, rfl⟩
  simp [execOp, ho, Instr.makeMap]
theorem S.putMp {t kt et : TypeId} {x i y : Operand} {k : κ} (z : β) (h : Mp H fk fv b m) (hfk : KeyFn d fk) (ho : o.op = .mapUpdate t x i y) (hm : ∀ w, (underlying t).run P w = .ok (.map kt et) w) (hk : P.underlying kt = some d)
    (hx : opv l x = some (.map (some b))) (hi : opv l i = some (fk k)) (hy : opv l y = some (fv z)) : S P w0 n l H o (fun H' => Mp H' fk fv b (mput m k z) ∧ Mo (fun c => c = b) H H') :=
  (S.mapUpdate h.mo hfk ho hm hk hx hi hy).mono fun H' ⟨h1, h2⟩ => ⟨⟨h1⟩, h2⟩
end
theorem mget_put {κ β : Type} [DecidableEq κ] (m : List (κ × β)) (k : κ) (b : β) (q : κ) : mget (mput m k b) q = if q = k then some b else mget m q := by
  have h1 : ∀ m : List (κ × β), mget (m.map (fun p => if p.1 = k then (p.1, b) else p)) q = if q = k then (mget m q).map (fun _ => b) else mget m q := by
    intro m
    induction m with
    | nil => simp [mget]
    | cons p m ih =>
      simp only [List.map_cons]
      by_cases hp : p.1 = k
      · rw [if_pos hp]
        by_cases hq : q = p.1
        · have : q = k := hq.trans hp
          simp [mget, hq, hp]
        · simp only [mget]
          rw [if_neg hq, ih, if_neg hq]
      · rw [if_neg hp]
        by_cases hq : q = p.1
        · have : ¬ q = k := fun e => hp (by rw [← hq, e])
          simp [mget, hq, hp]
        · simp only [mget]
          rw [if_neg hq, ih, if_neg hq]
  have h2 : ∀ m : List (κ × β), mget (m ++ [(k, b)]) q = (mget m q).or (if q = k then some b else none) := by
    intro m
    induction m with
    | nil => simp [mget]
    | cons p m ih =>
      simp only [List.cons_append, mget]
      split
      · simp
      · exact ih
  unfold mput
  split
  · rename_i h
    rw [h1]
    by_cases hq : q = k
    · subst hq
      obtain ⟨z, hz⟩ := Option.isSome_iff_exists.1 h
      simp [hz]
    · simp [hq]
  · rename_i h
    rw [h2]
    by_cases hq : q = k
    · subst hq
      have : mget m q = none := by simpa using h
      simp [this]
    · simp [hq]
section
variable {P : Program} {w0 : World} {Q : Exit → Act → World → Prop} {n : Nat} {l : FL} {H : Heap} {ops : Array Oper} {rest : List Oper} {o : Oper}
/-- an operation that turns the heap, whose value nobody takes -/
theorem LR.zn {R : Value → Heap → Prop} (hz : Z P w0 n l H o R) (hw : Wd ops l o) (hd : o.dst = none)
    (h : ∀ v H', R v H' → LR false P w0 ops Q n l rest H') : LR false P w0 ops Q n l (o :: rest) H := by
  intro a w hf ha
  obtain ⟨v, H', w', hr, ha', hR⟩ := hz a w hf ha
  have hh := h v H' hR a w' hf ha'
  simp only [Md] at hh ⊢
  unfold wpList
  rw [if_pos (hw n a hf)]
  refine .inl ?_
  unfold Oper.wp
  rw [hr]
  show wpList P ops Q rest (a.put o.dst v) w'
  rw [hd]
  exact hh
end
section
variable {P : Program} {w0 : World} {Q : Exit → Act → World → Prop} {SH : Heap → Prop} {X : List Nat} {n k : Nat} {l : FL} {H : Heap} {ops : Array Oper} {o : Oper} {dn : List Nat}
theorem LH.four {i j m p : Nat} (hr : Region.ready .any ops (lst ops.size dn) = [i, j, m, p]) (h : LO P w0 ops Q SH X n k i dn l H) (h2 : LO P w0 ops Q SH X n k j dn l H) (h3 : LO P w0 ops Q SH X n k m dn l H) (h4 : LO P w0 ops Q SH X n k p dn l H) : LH P w0 ops Q SH X n (k + 1) dn l H :=
  fun a w hf ha => wpAnyE_all hr (by simp) (fun q hq => by
    simp only [List.mem_cons, List.not_mem_nil, or_false] at hq
    rcases hq with rfl | rfl | rfl | rfl
    · exact h a w hf ha
    · exact h2 a w hf ha
    · exact h3 a w hf ha
    · exact h4 a w hf ha)
theorem Y.sgtr {x y : Operand} {t u : TypeId} {a b : List UInt8} (ho : o.op = .binOp .gtr t x y u) (hx : opv l x = some (Str a)) (hy : opv l y = some (Str b)) : Y P w0 n l H o (.bool (!(Op.bytesLess a b) && !(decide (a = b)))) := by
  intro ac w hf ha
  have e1 := ByteArray.toList_eq (ByteArray.mk a.toArray)
  have e2 := ByteArray.toList_eq (ByteArray.mk b.toArray)
  have h : (a == b) = decide (a = b) := by by_cases h : a = b <;> simp [h]
  simp only at e1 e2
  simp [execOp, ho, hf.eval hx, hf.eval hy, binOp, Op.stringOp, eqGuard, Str, e1, e2, h]
theorem Y.stleq {x y : Operand} {t u : TypeId} {a b : List UInt8} (ho : o.op = .binOp .leq t x y u) (hx : opv l x = some (Str a)) (hy : opv l y = some (Str b)) : Y P w0 n l H o (.bool (Op.bytesLess a b || decide (a = b))) := by
  intro ac w hf ha
  have e1 := ByteArray.toList_eq (ByteArray.mk a.toArray)
  have e2 := ByteArray.toList_eq (ByteArray.mk b.toArray)
  have h : (a == b) = decide (a = b) := by by_cases h : a = b <;> simp [h]
  simp only at e1 e2
  simp [execOp, ho, hf.eval hx, hf.eval hy, binOp, Op.stringOp, eqGuard, Str, e1, e2, h]
end
end Go.Proofs.YtfbfjhppppoilaaDoor.E
