/-
  Rules for maps whose keys are texts, numbers or bools: no condition.
-/
import Derived.Test.YtfbfjhppppoilaaDoorOwn
import Derived.MapKept
namespace Go.Proofs.YtfbfjhppppoilaaDoor.E
set_option linter.unusedSectionVars false
open Go.MapKept

/-- a map's block reads as the list m of keys and values, in the order in which they came -/
structure MapOf {κ β : Type} (G : Nat → Prop) (H : Heap) (fk : κ → Value) (fv : β → Value) (v : Value) (m : List (κ × β)) : Prop where
  ex : ∃ r es clock, v = .map (some r) ∧ G r ∧ H[r]? = some (.map es clock) ∧ Stamped es clock ∧ es.toList.map (fun e => (e.key, e.val)) = m.map (fun p => (fk p.1, fv p.2))

section
variable {κ β : Type} {G : Nat → Prop} {H H' : Heap} {fk : κ → Value} {fv : β → Value} {v : Value} {m : List (κ × β)}
theorem MapOf.up {S : Nat → Prop} (h : MapOf G H fk fv v m) (s : Mo S H H') (hS : ∀ b, b < H.size → G b → ¬ S b) : MapOf G H' fk fv v m := by
  obtain ⟨r, es, clock, h1, h2, h3, h4⟩ := h.ex
  have hlt := (Array.getElem?_eq_some_iff.1 h3).1
  exact ⟨r, es, clock, h1, h2, by rw [s.same r hlt (hS r hlt h2)]; exact h3, h4⟩
theorem MapOf.nw (h : MapOf G H fk fv v m) (s : Nw H H') : MapOf G H' fk fv v m := h.up s (fun _ _ _ e => e)
theorem MapOf.imp {G' : Nat → Prop} (h : MapOf G H fk fv v m) (hG : ∀ b, b < H.size → G b → G' b) : MapOf G' H fk fv v m := by
  obtain ⟨r, es, clock, h1, h2, h3, h4⟩ := h.ex
  exact ⟨r, es, clock, h1, hG r (Array.getElem?_eq_some_iff.1 h3).1 h2, h3, h4⟩
theorem MapOf.size (h : MapOf G H fk fv v m) : ∃ r es clock, v = .map (some r) ∧ H[r]? = some (.map es clock) ∧ es.size = m.length := by
  obtain ⟨r, es, clock, h1, h2, h3, h4, h5⟩ := h.ex
  refine ⟨r, es, clock, h1, h3, ?_⟩
  have := congrArg List.length h5
  simpa using this
theorem MapOf.nodup (h : MapOf G H fk fv v m) : (m.map (·.1)).Nodup := by
  obtain ⟨r, es, clock, h1, h2, h3, h4, h5⟩ := h.ex
  have h6 := h4.2.2
  have : es.toList.map (·.key) = (m.map (·.1)).map fk := by
    have := congrArg (List.map Prod.fst) h5
    simpa [Function.comp_def] using this
  rw [this, List.nodup_iff_pairwise_ne, List.pairwise_map] at h6
  rw [List.nodup_iff_pairwise_ne]
  exact h6.imp (fun hne e => hne (by rw [e]))
theorem MapOf.keys (h : MapOf G H fk fv v m) {r : Nat} {es : Array MapEntry} {clock : Nat} (hv : v = .map (some r)) (hb : H[r]? = some (.map es clock)) : es.toList.map (fun e => (e.key, e.val)) = m.map (fun p => (fk p.1, fv p.2)) ∧ Stamped es clock := by
  obtain ⟨r', es', clock', h1, h2, h3, h4, h5⟩ := h.ex
  rw [hv] at h1
  simp only [Value.map.injEq, Option.some.injEq] at h1
  subst h1
  rw [hb] at h3
  simp only [Option.some.injEq, Obj.map.injEq] at h3
  obtain ⟨rfl, rfl⟩ := h3
  exact ⟨h5, h4⟩
end

theorem MapOf.lt {κ β : Type} {G : Nat → Prop} {H : Heap} {fk : κ → Value} {fv : β → Value} {v : Value} {m : List (κ × β)} (h : MapOf G H fk fv v m) : MapOf (fun b => b = blk v ∧ b < H.size) H fk fv v m := by
  obtain ⟨r, es, clock, h1, h2, h3, h4⟩ := h.ex
  exact ⟨r, es, clock, h1, ⟨by rw [h1]; rfl, (Array.getElem?_eq_some_iff.1 h3).1⟩, h3, h4⟩
theorem MapOf.blk_lt {κ β : Type} {G : Nat → Prop} {H : Heap} {fk : κ → Value} {fv : β → Value} {v : Value} {m : List (κ × β)} (h : MapOf G H fk fv v m) : blk v < H.size := by
  obtain ⟨r, es, clock, rfl, h2, h3, h4⟩ := h.ex
  exact (Array.getElem?_eq_some_iff.1 h3).1
/-- a row's block is no map's -/
theorem Rd.ne_map {α κ β : Type} {F G : Nat → Prop} {H : Heap} {f : α → List Value} {sz : Nat} {v u : Value} {l : List α} {fk : κ → Value} {fv : β → Value} {m : List (κ × β)} (h : Rd F H f sz v l) (hm : MapOf G H fk fv u m) (hf : ∀ x, 0 < (f x).length) : Rd (fun b => F b ∧ b ≠ blk u) H f sz v l := by
  obtain ⟨r, es, clock, rfl, h2, h3, h4⟩ := hm.ex
  obtain ⟨a, cap, hv, h1, h2, h3'⟩ := h.ex
  refine ⟨a, cap, hv, h1, h2, fun hl => ?_⟩
  obtain ⟨ad, e1, e2, e3, e4, e5⟩ := h3' hl
  refine ⟨ad, e1, e2, ⟨e3, ?_⟩, e4, e5⟩
  intro e
  have hlen : 0 < l.length := List.length_pos_iff.2 hl
  have hp := e5 0 l[0] (by simp [hlen])
  have hc := hp.cells 0 ((f l[0])[0]'(hf _)) (by simp [hf])
  simp only [cell] at hc
  have e' : ad.block = r := e
  rw [e', h3] at hc
  simp at hc

/-- what a list of keys and values has for a key -/
def mget {κ β : Type} [DecidableEq κ] : List (κ × β) → κ → Option β
  | [], _ => none
  | p :: m, k => if k = p.1 then some p.2 else mget m k

/-- what a key is, and that two keys are one value only where they are one -/
structure KeyFn {κ : Type} (d : TypeDesc) (fk : κ → Value) : Prop where
  key : ∀ k, IsKey d (fk k)
  inj : ∀ a b, fk a = fk b → a = b
theorem keyStr : KeyFn .string Str := ⟨fun _ => trivial, fun a b h => by simpa [Str] using h⟩
theorem keyInt (k : IntKind) : KeyFn (.int k) (Value.int k) := ⟨fun _ => rfl, fun a b h => by simpa using h⟩

def mput {κ β : Type} [DecidableEq κ] (m : List (κ × β)) (k : κ) (b : β) : List (κ × β) := if (mget m k).isSome then m.map (fun p => if p.1 = k then (p.1, b) else p) else m ++ [(k, b)]

section
variable {P : Program} {w0 : World} {n : Nat} {l : FL} {H : Heap} {o : Oper}
variable {κ β : Type} [DecidableEq κ] {G : Nat → Prop} {fk : κ → Value} {fv : β → Value} {v : Value} {m : List (κ × β)} {d : TypeDesc}

theorem find_entries {k : κ} (hfk : KeyFn d fk) : ∀ (es : List MapEntry) (m : List (κ × β)) (i : Nat), es.map (fun e => (e.key, e.val)) = m.map (fun p => (fk p.1, fv p.2)) →
    (mget m k = none ∧ Instr.findNow d (fk k) es i = some none ∧ ∀ x ∈ es, x.key ≠ fk k) ∨ ∃ j e b, mget m k = some b ∧ Instr.findNow d (fk k) es i = some (some (i + j, fv b)) ∧ es[j]? = some e ∧ e.key = fk k ∧ e.val = fv b
  | [], m, i, h => by
    have : m = [] := by cases m <;> simp_all
    subst this
    exact .inl ⟨rfl, rfl, by simp⟩
  | e :: es, m, i, h => by
    match m, h with
    | (a, b) :: m, h =>
      simp only [List.map_cons, List.cons.injEq, Prod.mk.injEq] at h
      obtain ⟨⟨h1, h2⟩, h3⟩ := h
      obtain ⟨r, hr, hiff⟩ := sameNow_of_keys (hfk.key k) (b := e.key) (by rw [h1]; exact hfk.key a)
      cases r with
      | true =>
        have hk : k = a := hfk.inj _ _ (by rw [hiff.1 rfl, h1])
        subst hk
        exact .inr ⟨0, e, b, by simp [mget], by simp [Instr.findNow, hr, h2], rfl, h1, h2⟩
      | false =>
        have hne : k ≠ a := fun q => by subst q; have := hiff.2 h1.symm; cases this
        rcases find_entries (k := k) hfk es m (i + 1) h3 with ⟨q1, q2, q3⟩ | ⟨j, e', b', q1, q2, q3, q4, q5⟩
        · refine .inl ⟨?_, by simp [Instr.findNow, hr, q2], ?_⟩
          · simp only [mget, hne, if_false]; exact q1
          · intro x hx
            cases hx with
            | head => intro q; exact hne (hfk.inj _ _ (by rw [← q, h1]))
            | tail _ hx => exact q3 x hx
        · refine .inr ⟨j + 1, e', b', ?_, ?_, by simpa using q3, q4, q5⟩
          · simp only [mget, hne, if_false]; exact q1
          · simp [Instr.findNow, hr, q2]; omega

theorem Z.makeMap {t : TypeId} (ho : o.op = .makeMap t none) : Z P w0 n l H o (fun r H' => MapOf (fun b => b = H.size) H' fk fv r ([] : List (κ × β)) ∧ Nw H H') := by
  intro a w hf ha
  refine ⟨.map (some w.heap.size), H.push (.map #[] 0), w.alloc (.map #[] 0), ?_, ha.alloc _, ⟨w.heap.size, #[], 0, rfl, by rw [ha.heap], ?_, stamped_empty 0, rfl⟩, Nw.pu _ _⟩
  · simp [execOp, ho, Instr.makeMap]
  · rw [ha.heap]; simp

theorem run_lookup {w : World} {t kt et : TypeId} {z : Value} {k : κ} {ok : Bool} (h : MapOf G H fk fv v m) (hfk : KeyFn d fk) (ha : At w0 H w) (hm : ∀ w, (underlying t).run P w = .ok (.map kt et) w) (hk : P.underlying kt = some d) (hz : ∀ w, (zeroValue et).run P w = .ok z w) :
    (Instr.lookup t v (fk k) ok).run P w = .ok (if ok then .tuple #[(match mget m k with | some b => fv b | none => z), .bool (mget m k).isSome] else (match mget m k with | some b => fv b | none => z)) w := by
  obtain ⟨r, es, clock, rfl, h2, h3, h4, h5⟩ := h.ex
  have h3' : w.heap[r]? = some (.map es clock) := by rw [ha.heap]; exact h3
  rcases find_entries (k := k) hfk es.toList m 0 h5 with ⟨q1, q2, q3⟩ | ⟨j, e', b', q1, q2, q3, q4, q5⟩
  · simp [Instr.lookup, hm, MapKept.run_getObj_map h3', MapKept.run_checkKey hk (hfk.key k), MapKept.run_findKey hk q2, q1, hz]
  · simp [Instr.lookup, hm, MapKept.run_getObj_map h3', MapKept.run_checkKey hk (hfk.key k), MapKept.run_findKey hk q2, q1]

theorem Y.lookupOk {t kt et : TypeId} {x i : Operand} {k : κ} {z0 : β} (h : MapOf G H fk fv v m) (hfk : KeyFn d fk) (ho : o.op = .lookup t x i true) (hm : ∀ w, (underlying t).run P w = .ok (.map kt et) w) (hk : P.underlying kt = some d) (hz : ∀ w, (zeroValue et).run P w = .ok (fv z0) w)
    (hx : opv l x = some v) (hi : opv l i = some (fk k)) : Y P w0 n l H o (.tuple #[fv ((mget m k).getD z0), .bool (mget m k).isSome]) := by
  intro ac w hf ha
  have hr := run_lookup (k := k) (ok := true) h hfk ha hm hk hz
  have : (match mget m k with | some b => fv b | none => fv z0) = fv ((mget m k).getD z0) := by cases mget m k <;> rfl
  rw [this] at hr
  simp [execOp, ho, hf.eval hx, hf.eval hi, hr]
theorem Y.lookup {t kt et : TypeId} {x i : Operand} {k : κ} {z0 : β} (h : MapOf G H fk fv v m) (hfk : KeyFn d fk) (ho : o.op = .lookup t x i false) (hm : ∀ w, (underlying t).run P w = .ok (.map kt et) w) (hk : P.underlying kt = some d) (hz : ∀ w, (zeroValue et).run P w = .ok (fv z0) w)
    (hx : opv l x = some v) (hi : opv l i = some (fk k)) : Y P w0 n l H o (fv ((mget m k).getD z0)) := by
  intro ac w hf ha
  have hr := run_lookup (k := k) (ok := false) h hfk ha hm hk hz
  have : (match mget m k with | some b => fv b | none => fv z0) = fv ((mget m k).getD z0) := by cases mget m k <;> rfl
  rw [this] at hr
  simp [execOp, ho, hf.eval hx, hf.eval hi, hr]
theorem Y.mlen {x : Operand} {t kt et : TypeId} (h : MapOf G H fk fv v m) (ho : o.op = .call { callee := .builtin .len, args := #[x], argTypes := #[t] }) (ht : ∀ w, (underlying t).run P w = .ok (.map kt et) w) (hx : opv l x = some v) : Y P w0 n l H o (.int .i64 m.length) := by
  obtain ⟨r, es, clock, rfl, h2, h3⟩ := h.size
  intro ac w hf ha
  have h2' : w.heap[r]? = some (.map es clock) := by rw [ha.heap]; exact h2
  simp [execOp, ho, hf.eval hx, resolve, invoke, builtin, Builtin.len_, ht, goInt, MapKept.run_getObj_map h2', h3]

theorem modify_entries {k : κ} {b : β} {key : Value} (hfk : KeyFn d fk) (hkey : key = fk k) : ∀ (es : List MapEntry) (m : List (κ × β)) (j : Nat) (e : MapEntry), es.map (fun e => (e.key, e.val)) = m.map (fun p => (fk p.1, fv p.2)) → (es.map (·.key)).Nodup → es[j]? = some e → e.key = fk k →
    (es.modify j (fun e => { e with key := key, val := fv b })).map (fun e => (e.key, e.val)) = (m.map (fun p => if p.1 = k then (p.1, b) else p)).map (fun p => (fk p.1, fv p.2))
  | [], _, _, _, _, _, h, _ => by simp at h
  | x :: es, m, j, e, h, hn, hj, he => by
    match m, h with
    | (a, c) :: m, h =>
      simp only [List.map_cons, List.cons.injEq, Prod.mk.injEq] at h
      obtain ⟨⟨h1, h2⟩, h3⟩ := h
      simp only [List.map_cons, List.nodup_cons] at hn
      cases j with
      | zero =>
        simp only [List.getElem?_cons_zero, Option.some.injEq] at hj
        subst hj
        have hak : a = k := hfk.inj _ _ (by rw [← h1, he])
        subst hak
        simp only [List.modify_zero_cons, List.map_cons, if_true, hkey]
        congr 1
        rw [h3, List.map_map]
        apply List.map_congr_left
        intro p hp
        have : p.1 ≠ a := by
          intro e
          apply hn.1
          have : (fk p.1, fv p.2) ∈ es.map (fun e => (e.key, e.val)) := by rw [h3]; exact List.mem_map.2 ⟨p, hp, rfl⟩
          obtain ⟨y, hy, hye⟩ := List.mem_map.1 this
          simp only [Prod.mk.injEq] at hye
          exact List.mem_map.2 ⟨y, hy, by rw [hye.1, e, h1]⟩
        simp [this]
      | succ j =>
        simp only [List.getElem?_cons_succ] at hj
        have hak : a ≠ k := by
          intro q
          subst q
          apply hn.1
          rw [h1, ← he]
          exact List.mem_map.2 ⟨e, List.mem_of_getElem? hj, rfl⟩
        simp only [List.modify_succ_cons, List.map_cons, hak, if_false, h1, h2]
        rw [modify_entries hfk hkey es m j e h3 hn.2 hj he]

theorem S.mapUpdate {t kt et : TypeId} {x i y : Operand} {k : κ} {b : β} (h : MapOf G H fk fv v m) (hfk : KeyFn d fk) (ho : o.op = .mapUpdate t x i y) (hm : ∀ w, (underlying t).run P w = .ok (.map kt et) w) (hk : P.underlying kt = some d)
    (hx : opv l x = some v) (hi : opv l i = some (fk k)) (hy : opv l y = some (fv b)) : S P w0 n l H o (fun H' => MapOf G H' fk fv v (mput m k b) ∧ Mo (fun c => c = blk v) H H') := by
  intro ac w hf ha
  obtain ⟨r, es, clock, hv, h2, h3, h4, h5⟩ := h.ex
  have h3' : w.heap[r]? = some (.map es clock) := by rw [ha.heap]; exact h3
  have hblk : blk v = r := by rw [hv]; rfl
  have hlt := (Array.getElem?_eq_some_iff.1 h3).1
  have hmo : ∀ ob, Mo (fun c => c = blk v) H (H.setIfInBounds r ob) := fun ob => ⟨by simp, fun b hb hne => by rw [hblk] at hne; simp [Ne.symm hne]⟩
  have hget : ∀ ob, (H.setIfInBounds r ob)[r]? = some ob := fun ob => by simp [hlt]
  rcases find_entries (k := k) hfk es.toList m 0 h5 with ⟨q1, q2, q3⟩ | ⟨j, e', b', q1, q2, q3, q4, q5⟩
  · refine ⟨H.setIfInBounds r (.map (es.push { key := fk k, val := fv b, born := clock }) (clock + 1)), { w with heap := H.setIfInBounds r (.map (es.push { key := fk k, val := fv b, born := clock }) (clock + 1)) }, ?_, ha.set, ⟨r, _, _, hv, h2, hget _, stamped_push h4 q3, ?_⟩, hmo _⟩
    · simp [execOp, ho, hf.eval hx, hf.eval hi, hf.eval hy, hv, Instr.mapUpdate, hm, MapKept.run_getObj_map h3', MapKept.run_checkKey hk (hfk.key k), MapKept.run_findKey hk q2, MapKept.run_setObj_map _ h3', ha.heap]
    · simp [mput, q1, h5]
  · have hj : es[j]? = some e' := by simpa using q3
    have hkey : ∀ e, es[j]? = some e → ({ e with key := fk k, val := fv b } : MapEntry).key = e.key := fun e he => by rw [hj] at he; cases he; exact q4.symm
    refine ⟨H.setIfInBounds r (.map (es.modify j fun e => { e with key := fk k, val := fv b }) clock), { w with heap := H.setIfInBounds r (.map (es.modify j fun e => { e with key := fk k, val := fv b }) clock) }, ?_, ha.set, ⟨r, _, _, hv, h2, hget _, stamped_modify h4 _ _ (fun _ _ => rfl) (fun e _ he => hkey e he), ?_⟩, hmo _⟩
    · simp [execOp, ho, hf.eval hx, hf.eval hi, hf.eval hy, hv, Instr.mapUpdate, hm, MapKept.run_getObj_map h3', MapKept.run_checkKey hk (hfk.key k), MapKept.run_findKey hk q2, hj, q4, MapKept.run_keyThatStays (hfk.key k), MapKept.run_setObj_map _ h3', ha.heap]
    · have := modify_entries (fv := fv) (b := b) hfk rfl es.toList m j e' h5 h4.2.2 q3 q4
      rw [Array.toList_modify, this]
      simp [mput, q1]

/-! new rows of a size -/
theorem Z.makeSlice {α : Type} {f : α → List Value} {sz bytes : Nat} {t e : TypeId} {x c : Operand} {kl kc : IntKind} {lv : Int} {z : Value} (k : Nat) (z0 : α) (ho : o.op = .makeSlice t x c) (hinf : Inf P t e sz bytes) (hz : ∀ w, (zeroValue e).run P w = .ok z w) (hz0 : f z0 = z.cells.toList)
    (hc : ∀ x, (f x).length = sz) (h1 : ∀ x, ∀ u ∈ f x, u.oneCell' = true) (hx : opv l x = some (.int kl lv)) (hcc : opv l c = some (.int kc lv)) (hk : lv = k) (hb : (bytes : Int) * k ≤ 281474976710656) (hk2 : k ≤ 9223372036854775807) :
    Z P w0 n l H o (fun r H' => Own (fun b => b = H.size) e H' f sz r (List.replicate k z0) ∧ Nw H H' ∧ ∃ ob, H' = H.push ob) := by
  obtain ⟨ht, i, z', hi, hz', hsz, hby, hzs⟩ := hinf
  intro ac w hf ha
  subst hk
  have hzz : z' = z := by
    have h1 := hz w
    simp [zeroValue, typeInfo, hi, hz'] at h1
    exact h1
  subst hzz
  have hr := run_make (P := P) w t e i z' ht hi hz' kl kc (k : Int) k (by omega) (by omega) (by rw [hby]; exact hb) (by omega)
  simp only [Int.toNat_natCast, hsz] at hr
  refine ⟨.slice (some ⟨w.heap.size, 0, none⟩) k k, H.push (.cells (madeCells z'.cells (k * sz)) e), w.alloc (.cells (madeCells z'.cells (k * sz)) e), ?_, ha.alloc _, ⟨hc, h1, .inr ⟨w.heap.size, k, madeCells z'.cells (k * sz), by simp, ha.heap ▸ rfl, .of (by rw [ha.heap]; simp), by simp, by unfold maxLen; omega, size_madeCells _ _, ?_⟩⟩, Nw.pu _ _, _, rfl⟩
  · simp [execOp, ho, hf.eval hx, hf.eval hcc, hr]
  · rw [List.length_replicate, List.take_of_length_le (by simp [size_madeCells])]
    apply List.ext_getElem?
    intro q
    by_cases hq : q < k * sz
    · have hszp : 0 < sz := by rcases Nat.eq_zero_or_pos sz with h | h; · subst h; simp at hq
                               · exact h
      have hdiv : q / sz < k := Nat.div_lt_of_lt_mul (by rw [Nat.mul_comm]; exact hq)
      have hmod := Nat.mod_lt q hszp
      have hg := get_flatMap hc (List.replicate k z0) (q / sz) (q % sz) z0 (z'.cells[q % sz]'(by rw [hzs]; exact hmod)) (by simp [hdiv]) (by rw [hz0]; simp [hzs, hmod])
      have hqq : q / sz * sz + q % sz = q := by rw [Nat.mul_comm]; exact Nat.div_add_mod q sz
      rw [hqq] at hg
      rw [hg]
      simp only [madeCells, hzs, Array.getElem?_toList]
      rw [Array.getElem?_map, Array.getElem?_range, if_pos hq]
      simp [hzs, hmod]
    · rw [List.getElem?_eq_none (by simp [size_madeCells]; omega), List.getElem?_eq_none (by rw [length_flatMap hc, List.length_replicate]; omega)]
end
end Go.Proofs.YtfbfjhppppoilaaDoor.E
