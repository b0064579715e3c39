/-
  Maps whose keys are arrays of bytes, deletes, entries written in place, ranges over maps, calls through an interface: no condition.
-/
import Derived.Test.YtfbfjhppppoilaaDoorMp
import Derived.Test.YtfbfjhppppoilaaDoorClo
import Derived.Maps.RangeRun
namespace Go.Proofs.YtfbfjhppppoilaaDoor.E
open Go.MapKept
set_option linter.unusedVariables false
set_option linter.unusedSimpArgs false
set_option linter.unusedSectionVars false

/-- 32 bytes -/
abbrev Ide := { l : List UInt8 // l.length = 32 }
def fA (x : Ide) : List Value := x.1.map (fun b => Value.int .u8 b.toNat)
def vA (x : Ide) : Value := .agg (fA x).toArray
theorem fA_len : ∀ x, (fA x).length = 32 := fun x => by simp [fA, x.2]
theorem fA_one : ∀ x, ∀ u ∈ fA x, u.oneCell' = true := fun x u hu => by
  obtain ⟨b, _, rfl⟩ := List.mem_map.1 hu
  rfl
theorem vA_id (x : Ide) : vA x = idV x.1 := rfl
def Zid : Ide := ⟨List.replicate 32 0, by simp⟩
instance : Inhabited Ide := ⟨Zid⟩
theorem bytes_inj {xs ys : List UInt8} (h : xs.map (fun b => Value.int .u8 (b.toNat : Int)) = ys.map (fun b => Value.int .u8 (b.toNat : Int))) : xs = ys := by
  refine (List.map_inj_right (fun a b h => ?_)).1 h
  simp only [Value.int.injEq, true_and] at h
  exact UInt8.toNat_inj.1 (by omega)
theorem vA_inj {x y : Ide} (h : vA x = vA y) : x = y := by
  unfold vA fA at h
  simp only [Value.agg.injEq] at h
  exact Subtype.ext (bytes_inj (by simpa using congrArg Array.toList h))
theorem fA_inj {x y : Ide} (h : fA x = fA y) : x = y := Subtype.ext (bytes_inj h)

theorem nodup_inj {α β : Type} {f : α → β} : ∀ {l : List α}, (l.map f).Nodup → ∀ {x y : α}, x ∈ l → y ∈ l → f x = f y → x = y
  | [], _, _, _, h, _, _ => by cases h
  | a :: l, hn, x, y, hx, hy, e => by
    simp only [List.map_cons, List.nodup_cons] at hn
    rcases List.mem_cons.1 hx with rfl | hx2 <;> rcases List.mem_cons.1 hy with rfl | hy2
    · rfl
    · exact (hn.1 (List.mem_map.2 ⟨y, hy2, e.symm⟩)).elim
    · exact (hn.1 (List.mem_map.2 ⟨x, hx2, e⟩)).elim
    · exact nodup_inj hn.2 hx2 hy2 e
theorem Ow.fre {α : Type} {k h : Nat} {e : TypeId} {H : Heap} {f : α → List Value} {sz : Nat} {v : Value} {l : List α} (x : Ow k e H f sz v l) (hk : Nx 0 h k) : Rd (fun b => h ≤ b) H f sz v l := x.rd.imp (fun b _ e => by unfold Nx at hk; omega)
/-- keys that are arrays -/
structure KeyA {κ : Type} [DecidableEq κ] (P : Program) (kt : TypeId) (fk : κ → Value) : Prop where
  und : ∃ len e, P.underlying kt = some (.array len e)
  check : ∀ em k w, (Instr.checkKey em 10000 kt (fk k)).run P w = .ok () w
  eq : ∀ a b w, (Op.equal kt (fk a) (fk b)).run P w = .ok (decide (a = b)) w
  same : ∀ k, Instr.sameBits 10000 (fk k) (fk k) = true
  inj : ∀ a b, fk a = fk b → a = b

theorem run_forIn_unit {P : Program} {w : World} {α : Type} : ∀ (l : List α) (body : α → PUnit → Sem (ForInStep PUnit)), (∀ a ∈ l, (body a ()).run P w = .ok (.yield ()) w) → (forIn l () body).run P w = .ok () w
  | [], body, h => by simp
  | a :: l, body, h => by
    rw [List.forIn_cons, Sem.run_bind, h a (.head _)]
    simp only [Result.andThen_ok]
    exact run_forIn_unit l body (fun b hb => h b (.tail _ hb))

theorem keyI {P : Program} {t e : TypeId} (ht : P.underlying t = some (.array 32 e)) (he : P.underlying e = some (.int .u8)) (hs : ∀ w, (sizeOf e).run P w = .ok 1 w) (hg : ∀ w, (isAgg e).run P w = .ok false w) : KeyA P t vA := by
  refine ⟨⟨_, _, ht⟩, fun em k w => ?_, fun a b w => ?_, fun k => ?_, fun a b h => vA_inj h⟩
  · show (Instr.checkKey em (9999 + 1) t (vA k)).run P w = _
    unfold Instr.checkKey vA
    simp only [Sem.run_bind, run_underlying ht, Result.andThen_ok]
    rw [Std.Legacy.Range.forIn_eq_forIn_range']
    refine (congrArg (fun r => Result.andThen r _) (run_forIn_unit _ _ (fun i hi => ?_))).trans rfl
    have hi' : i < 32 := by
      simp [Std.Legacy.Range.size] at hi
      omega
    have hl := fA_len k
    have p1 : (part e (fA k).toArray (i * 1)).run P w = .ok ((fA k)[i]'(by rw [hl]; exact hi')) w := by simp [part, hg, hl, hi']
    have p2 : ∀ b : UInt8, (Instr.checkKey em (9998 + 1) e (Value.int .u8 b.toNat)).run P w = .ok () w := by
      intro b
      unfold Instr.checkKey
      simp [run_underlying he]
    have p3 : (fA k)[i]'(by rw [hl]; exact hi') = Value.int .u8 ((k.1[i]'(by rw [k.2]; exact hi')).toNat : Int) := by simp [fA]
    simp only [Sem.run_bind, hs, p1, p3, Result.andThen_ok]
    rw [p2]
    simp
  · have h := run_equalIn_id (P := P) (Op.maxDepth - 2) (xs := a.1) (ys := b.1) ht he hs hg a.2 b.2 w
    rw [show decide (a = b) = decide (a.1 = b.1) from decide_eq_decide.2 Subtype.ext_iff]
    exact h
  · unfold vA
    show Instr.sameBits (9999 + 1) _ _ = true
    unfold Instr.sameBits
    simp only [beq_self_eq_true, Bool.true_and, List.all_eq_true]
    intro p hp
    obtain ⟨i, h1, h2⟩ := List.mem_iff_getElem.1 hp
    rw [List.getElem_zip] at h2
    subst h2
    simp [fA, Instr.sameBits]

section
variable {P : Program} {w0 : World} {n : Nat} {l : FL} {H : Heap} {o : Oper}
variable {κ β : Type} [DecidableEq κ] {G : Nat → Prop} {fk : κ → Value} {fv : β → Value} {v : Value} {m : List (κ × β)} {kt : TypeId} {b : Nat}

theorem find_entriesA {k : κ} {w : World} (hk : KeyA P kt fk) : ∀ (es : List MapEntry) (m : List (κ × β)) (i : Nat), es.map (fun e => (e.key, e.val)) = m.map (fun p => (fk p.1, fv p.2)) →
    (mget m k = none ∧ (Instr.findAsking kt (fk k) es i).run P w = .ok none w ∧ ∀ x ∈ es, x.key ≠ fk k) ∨ ∃ j e b, mget m k = some b ∧ (Instr.findAsking kt (fk k) es i).run P w = .ok (some (i + j, fv b)) w ∧ es[j]? = some e ∧ e.key = fk k ∧ e.val = fv b
  | [], m, i, h => by
    have : m = [] := by cases m <;> simp_all
    subst this
    exact .inl ⟨rfl, by simp [Instr.findAsking], by simp⟩
  | e :: es, m, i, h => by
    match m, h with
    | (a, c) :: m, h =>
      simp only [List.map_cons, List.cons.injEq, Prod.mk.injEq] at h
      obtain ⟨⟨h1, h2⟩, h3⟩ := h
      have hq := hk.eq k a w
      rw [← h1] at hq
      by_cases hka : k = a
      · subst hka
        simp only [decide_true] at hq
        exact .inr ⟨0, e, c, by simp [mget], by simp [Instr.findAsking, hq, h2], rfl, h1, h2⟩
      · simp only [hka, decide_false] at hq
        rcases find_entriesA (k := k) (w := w) hk es m (i + 1) h3 with ⟨q1, q2, q3⟩ | ⟨j, e', b', q1, q2, q3, q4, q5⟩
        · refine .inl ⟨?_, by simp [Instr.findAsking, hq, q2], ?_⟩
          · simp only [mget, hka, if_false]; exact q1
          · intro x hx
            cases hx with
            | head => intro q; exact hka (hk.inj _ _ (by rw [← q, h1]))
            | tail _ hx => exact q3 x hx
        · refine .inr ⟨j + 1, e', b', ?_, ?_, by simpa using q3, q4, q5⟩
          · simp only [mget, hka, if_false]; exact q1
          · simp [Instr.findAsking, hq, q2]; omega

theorem run_findKeyA {k : κ} {w : World} (hk : KeyA P kt fk) (es : List MapEntry) : (Instr.findKey kt (fk k) es).run P w = (Instr.findAsking kt (fk k) es 0).run P w := by
  obtain ⟨len, e, hu⟩ := hk.und
  cases es with
  | nil => simp [Instr.findKey, run_underlying hu, Instr.findNow, Instr.findAsking]
  | cons x es =>
    have : Instr.findNow (.array len e) (fk k) (x :: es) 0 = none := by
      unfold Instr.findNow Instr.sameNow
      rfl
    simp [Instr.findKey, run_underlying hu, this]
theorem run_staysA {k : κ} {w : World} (hk : KeyA P kt fk) : (Instr.keyThatStays (fk k) (fk k)).run P w = .ok (fk k) w := by
  simp [Instr.keyThatStays, hk.same]

theorem run_lookupA {w : World} {t et : TypeId} {z : Value} {k : κ} {ok : Bool} (h : MapOf G H fk fv v m) (hk : KeyA P kt fk) (ha : At w0 H w) (hm : ∀ w, (underlying t).run P w = .ok (.map kt et) w) (hz : ∀ w, (zeroValue et).run P w = .ok z w) :
    (Instr.lookup t v (fk k) ok).run P w = .ok (if ok then .tuple #[(match mget m k with | some b => fv b | none => z), .bool (mget m k).isSome] else (match mget m k with | some b => fv b | none => z)) w := by
  obtain ⟨r, es, clock, rfl, h2, h3, h4, h5⟩ := h.ex
  have h3' : w.heap[r]? = some (.map es clock) := by rw [ha.heap]; exact h3
  rcases find_entriesA (k := k) (w := w) hk es.toList m 0 h5 with ⟨q1, q2, q3⟩ | ⟨j, e', b', q1, q2, q3, q4, q5⟩
  · simp [Instr.lookup, hm, MapKept.run_getObj_map h3', hk.check, run_findKeyA hk, q2, q1, hz]
  · simp [Instr.lookup, hm, MapKept.run_getObj_map h3', hk.check, run_findKeyA hk, q2, q1]
theorem Y.lookupOkA {t et : TypeId} {x i : Operand} {k : κ} {z0 : β} (h : MapOf G H fk fv v m) (hk : KeyA P kt fk) (ho : o.op = .lookup t x i true) (hm : ∀ w, (underlying t).run P w = .ok (.map kt et) w) (hz : ∀ w, (zeroValue et).run P w = .ok (fv z0) w)
    (hx : opv l x = some v) (hi : opv l i = some (fk k)) : Y P w0 n l H o (.tuple #[fv ((mget m k).getD z0), .bool (mget m k).isSome]) := by
  intro ac w hf ha
  have hr := run_lookupA (k := k) (ok := true) h hk ha hm hz
  have : (match mget m k with | some b => fv b | none => fv z0) = fv ((mget m k).getD z0) := by cases mget m k <;> rfl
  rw [this] at hr
  simp [execOp, ho, hf.eval hx, hf.eval hi, hr]
theorem Y.lookupA {t et : TypeId} {x i : Operand} {k : κ} {z0 : β} (h : MapOf G H fk fv v m) (hk : KeyA P kt fk) (ho : o.op = .lookup t x i false) (hm : ∀ w, (underlying t).run P w = .ok (.map kt et) w) (hz : ∀ w, (zeroValue et).run P w = .ok (fv z0) w)
    (hx : opv l x = some v) (hi : opv l i = some (fk k)) : Y P w0 n l H o (fv ((mget m k).getD z0)) := by
  intro ac w hf ha
  have hr := run_lookupA (k := k) (ok := false) h hk ha hm hz
  have : (match mget m k with | some b => fv b | none => fv z0) = fv ((mget m k).getD z0) := by cases mget m k <;> rfl
  rw [this] at hr
  simp [execOp, ho, hf.eval hx, hf.eval hi, hr]

theorem mo_set {r : Nat} (ob : Obj) : Mo (fun c => c = r) H (H.setIfInBounds r ob) := ⟨by simp, fun b hb hne => by simp [Ne.symm hne]⟩
theorem modify_entriesA {k : κ} {b : β} {key : Value} (hinj : ∀ a b, fk a = fk b → a = b) (hkey : key = fk k) : ∀ (es : List MapEntry) (m : List (κ × β)) (j : Nat) (e : MapEntry), es.map (fun e => (e.key, e.val)) = m.map (fun p => (fk p.1, fv p.2)) → (es.map (·.key)).Nodup → es[j]? = some e → e.key = fk k →
    (es.modify j (fun e => { e with key := key, val := fv b })).map (fun e => (e.key, e.val)) = (m.map (fun p => if p.1 = k then (p.1, b) else p)).map (fun p => (fk p.1, fv p.2))
  | [], _, _, _, _, _, h, _ => by simp at h
  | x :: es, m, j, e, h, hn, hj, he => by
    match m, h with
    | (a, c) :: m, h =>
      simp only [List.map_cons, List.cons.injEq, Prod.mk.injEq] at h
      obtain ⟨⟨h1, h2⟩, h3⟩ := h
      simp only [List.map_cons, List.nodup_cons] at hn
      cases j with
      | zero =>
        simp only [List.getElem?_cons_zero, Option.some.injEq] at hj
        subst hj
        have hak : a = k := hinj _ _ (by rw [← h1, he])
        subst hak
        simp only [List.modify_zero_cons, List.map_cons, if_true, hkey]
        congr 1
        rw [h3, List.map_map]
        apply List.map_congr_left
        intro p hp
        have : p.1 ≠ a := by
          intro e
          apply hn.1
          have : (fk p.1, fv p.2) ∈ es.map (fun e => (e.key, e.val)) := by rw [h3]; exact List.mem_map.2 ⟨p, hp, rfl⟩
          obtain ⟨y, hy, hye⟩ := List.mem_map.1 this
          simp only [Prod.mk.injEq] at hye
          exact List.mem_map.2 ⟨y, hy, by rw [hye.1, e, h1]⟩
        simp [this]
      | succ j =>
        simp only [List.getElem?_cons_succ] at hj
        have hak : a ≠ k := by
          intro q
          subst q
          apply hn.1
          rw [h1, ← he]
          exact List.mem_map.2 ⟨e, List.mem_of_getElem? hj, rfl⟩
        simp only [List.modify_succ_cons, List.map_cons, hak, if_false, h1, h2]
        rw [modify_entriesA hinj hkey es m j e h3 hn.2 hj he]

theorem S.putA {t et : TypeId} {x i y : Operand} {k : κ} (z : β) (h : Mp H fk fv b m) (hk : KeyA P kt fk) (ho : o.op = .mapUpdate t x i y) (hm : ∀ w, (underlying t).run P w = .ok (.map kt et) w)
    (hx : opv l x = some (.map (some b))) (hi : opv l i = some (fk k)) (hy : opv l y = some (fv z)) : S P w0 n l H o (fun H' => Mp H' fk fv b (mput m k z) ∧ Mo (fun c => c = b) H H') := by
  intro ac w hf ha
  obtain ⟨r, es, clock, hv, h2, h3, h4, h5⟩ := h.mo.ex
  obtain rfl := h2
  have h3' : w.heap[r]? = some (.map es clock) := by rw [ha.heap]; exact h3
  have hlt := (Array.getElem?_eq_some_iff.1 h3).1
  have hget : ∀ ob, (H.setIfInBounds r ob)[r]? = some ob := fun ob => by simp [hlt]
  rcases find_entriesA (k := k) (w := w) hk es.toList m 0 h5 with ⟨q1, q2, q3⟩ | ⟨j, e', b', q1, q2, q3, q4, q5⟩
  · refine ⟨H.setIfInBounds r (.map (es.push { key := fk k, val := fv z, born := clock }) (clock + 1)), { w with heap := H.setIfInBounds r (.map (es.push { key := fk k, val := fv z, born := clock }) (clock + 1)) }, ?_, ha.set, ⟨⟨r, _, _, rfl, rfl, hget _, stamped_push h4 q3, ?_⟩⟩, mo_set _⟩
    · simp [execOp, ho, hf.eval hx, hf.eval hi, hf.eval hy, Instr.mapUpdate, hm, MapKept.run_getObj_map h3', hk.check, run_findKeyA hk, q2, MapKept.run_setObj_map _ h3', ha.heap]
    · simp [mput, q1, h5]
  · have hj : es[j]? = some e' := by simpa using q3
    have hkey : ∀ e, es[j]? = some e → ({ e with key := fk k, val := fv z } : MapEntry).key = e.key := fun e he => by rw [hj] at he; cases he; exact q4.symm
    refine ⟨H.setIfInBounds r (.map (es.modify j fun e => { e with key := fk k, val := fv z }) clock), { w with heap := H.setIfInBounds r (.map (es.modify j fun e => { e with key := fk k, val := fv z }) clock) }, ?_, ha.set, ⟨⟨r, _, _, rfl, rfl, hget _, stamped_modify h4 _ _ (fun _ _ => rfl) (fun e _ he => hkey e he), ?_⟩⟩, mo_set _⟩
    · simp [execOp, ho, hf.eval hx, hf.eval hi, hf.eval hy, Instr.mapUpdate, hm, MapKept.run_getObj_map h3', hk.check, run_findKeyA hk, q2, hj, q4, run_staysA hk, MapKept.run_setObj_map _ h3', ha.heap]
    · have := modify_entriesA (fv := fv) (b := z) hk.inj rfl es.toList m j e' h5 h4.2.2 q3 q4
      rw [Array.toList_modify, this]
      simp [mput, q1]

/-- without a key -/
def mdel (m : List (κ × β)) (k : κ) : List (κ × β) := m.filter (fun p => decide (p.1 ≠ k))
theorem mget_del (m : List (κ × β)) (k q : κ) : mget (mdel m k) q = if q = k then none else mget m q := by
  induction m with
  | nil => simp [mdel, mget]
  | cons p m ih =>
    unfold mdel at ih ⊢
    by_cases hp : p.1 = k
    · rw [List.filter_cons_of_neg (by simp [hp]), ih]
      by_cases hq : q = k
      · simp [hq]
      · rw [if_neg hq, if_neg hq]; simp only [mget]; rw [if_neg (fun e => hq (e.trans hp))]
    · rw [List.filter_cons_of_pos (by simp [hp])]
      simp only [mget]
      by_cases hq : q = p.1
      · rw [if_pos hq, if_pos hq, if_neg (fun e => hp (hq.symm.trans e))]
      · rw [if_neg hq, if_neg hq, ih]
theorem mget_mem {m : List (κ × β)} {k : κ} {z : β} (h : mget m k = some z) : (k, z) ∈ m := by
  induction m with
  | nil => cases h
  | cons p m ih =>
    simp only [mget] at h
    split at h
    · rename_i e; cases h; rw [e]; exact .head _
    · exact .tail _ (ih h)
theorem mget_none {m : List (κ × β)} {k : κ} (h : mget m k = none) : ∀ p ∈ m, p.1 ≠ k := by
  induction m with
  | nil => simp
  | cons p m ih =>
    simp only [mget] at h
    split at h
    · cases h
    · rename_i hne
      intro q hq e
      cases hq with
      | head => exact hne e.symm
      | tail _ hq => exact ih h q hq e
theorem mget_of_mem {m : List (κ × β)} (hn : (m.map (·.1)).Nodup) {k : κ} {z : β} (h : (k, z) ∈ m) : mget m k = some z := by
  induction m with
  | nil => cases h
  | cons p m ih =>
    simp only [List.map_cons, List.nodup_cons] at hn
    simp only [mget]
    cases h with
    | head => simp
    | tail _ h =>
      rw [if_neg ?_]
      · exact ih hn.2 h
      · intro e
        exact hn.1 (List.mem_map.2 ⟨(k, z), h, e⟩)
theorem isSome_iff_key {m : List (κ × β)} {k : κ} : (mget m k).isSome = true ↔ k ∈ m.map (·.1) := by
  constructor
  · intro h
    obtain ⟨z, hz⟩ := Option.isSome_iff_exists.1 h
    exact List.mem_map.2 ⟨_, mget_mem hz, rfl⟩
  · intro h
    obtain ⟨p, hp, e⟩ := List.mem_map.1 h
    cases hg : mget m k with
    | some z => rfl
    | none => exact absurd e (mget_none hg p hp)
theorem erase_entries {k : κ} (hinj : ∀ a b, fk a = fk b → a = b) : ∀ (es : List MapEntry) (m : List (κ × β)) (j : Nat) (e : MapEntry), es.map (fun e => (e.key, e.val)) = m.map (fun p => (fk p.1, fv p.2)) → (es.map (·.key)).Nodup → es[j]? = some e → e.key = fk k →
    (es.eraseIdx j).map (fun e => (e.key, e.val)) = (mdel m k).map (fun p => (fk p.1, fv p.2))
  | [], _, _, _, _, _, h, _ => by simp at h
  | x :: es, m, j, e, h, hn, hj, he => by
    match m, h with
    | (a, c) :: m, h =>
      simp only [List.map_cons, List.cons.injEq, Prod.mk.injEq] at h
      obtain ⟨⟨h1, h2⟩, h3⟩ := h
      simp only [List.map_cons, List.nodup_cons] at hn
      cases j with
      | zero =>
        simp only [List.getElem?_cons_zero, Option.some.injEq] at hj
        subst hj
        have hak : a = k := hinj _ _ (by rw [← h1, he])
        subst hak
        have hm : mdel ((a, c) :: m) a = m := by
          unfold mdel
          rw [List.filter_cons_of_neg (by simp)]
          apply List.filter_eq_self.2
          intro p hp
          simp only [decide_eq_true_eq]
          intro e
          apply hn.1
          have : (fk p.1, fv p.2) ∈ es.map (fun e => (e.key, e.val)) := by rw [h3]; exact List.mem_map.2 ⟨p, hp, rfl⟩
          obtain ⟨y, hy, hye⟩ := List.mem_map.1 this
          simp only [Prod.mk.injEq] at hye
          exact List.mem_map.2 ⟨y, hy, by rw [hye.1, e, h1]⟩
        rw [hm]
        simpa using h3
      | succ j =>
        simp only [List.getElem?_cons_succ] at hj
        have hak : a ≠ k := by
          intro q
          subst q
          apply hn.1
          rw [h1, ← he]
          exact List.mem_map.2 ⟨e, List.mem_of_getElem? hj, rfl⟩
        have hm : mdel ((a, c) :: m) k = (a, c) :: mdel m k := by
          unfold mdel
          rw [List.filter_cons_of_pos (by simp [hak])]
        rw [hm]
        simp only [List.eraseIdx_cons_succ, List.map_cons, h1, h2]
        rw [erase_entries hinj es m j e h3 hn.2 hj he]
theorem Z.delA {t u et : TypeId} {x i : Operand} {k : κ} (h : Mp H fk fv b m) (hk : KeyA P kt fk) (ho : o.op = .call { callee := .builtin .delete, args := #[x, i], argTypes := #[t, u] }) (hm : ∀ w, (underlying t).run P w = .ok (.map kt et) w)
    (hx : opv l x = some (.map (some b))) (hi : opv l i = some (fk k)) : Z P w0 n l H o (fun r H' => r = .tuple #[] ∧ Mp H' fk fv b (mdel m k) ∧ Mo (fun c => c = b) H H') := by
  intro ac w hf ha
  obtain ⟨r, es, clock, hv, h2, h3, h4, h5⟩ := h.mo.ex
  obtain rfl := h2
  have h3' : w.heap[r]? = some (.map es clock) := by rw [ha.heap]; exact h3
  have hlt := (Array.getElem?_eq_some_iff.1 h3).1
  have hget : ∀ ob, (H.setIfInBounds r ob)[r]? = some ob := fun ob => by simp [hlt]
  rcases find_entriesA (k := k) (w := w) hk es.toList m 0 h5 with ⟨q1, q2, q3⟩ | ⟨j, e', b', q1, q2, q3, q4, q5⟩
  · refine ⟨_, H.setIfInBounds r (.map es clock), { w with heap := H.setIfInBounds r (.map es clock) }, ?_, ha.set, rfl, ⟨⟨r, _, _, rfl, rfl, hget _, h4, ?_⟩⟩, mo_set _⟩
    · simp [execOp, ho, hf.eval hx, hf.eval hi, resolve, invoke, builtin, Builtin.delete_, hm, MapKept.run_getObj_map h3', hk.check, run_findKeyA hk, q2, MapKept.run_setObj_map _ h3', ha.heap]
    · rw [h5]
      congr 1
      unfold mdel
      exact (List.filter_eq_self.2 (fun p hp => by simpa using mget_none q1 p hp)).symm
  · have hj : es[j]? = some e' := by simpa using q3
    refine ⟨_, H.setIfInBounds r (.map (es.eraseIdxIfInBounds j) clock), { w with heap := H.setIfInBounds r (.map (es.eraseIdxIfInBounds j) clock) }, ?_, ha.set, rfl, ⟨⟨r, _, _, rfl, rfl, hget _, stamped_erase h4 _, ?_⟩⟩, mo_set _⟩
    · simp [execOp, ho, hf.eval hx, hf.eval hi, resolve, invoke, builtin, Builtin.delete_, hm, MapKept.run_getObj_map h3', hk.check, run_findKeyA hk, q2, MapKept.run_setObj_map _ h3', ha.heap]
    · have hjl : j < es.size := (Array.getElem?_eq_some_iff.1 hj).1
      rw [Array.eraseIdxIfInBounds, dif_pos hjl, Array.toList_eraseIdx]
      exact erase_entries hk.inj es.toList m j e' h5 h4.2.2 q3 q4

/-! ### entries that are written in place -/
def ment (m : List (κ × β)) (k : κ) (z : β) : List (κ × β) := if (mget m k).isSome then m else m ++ [(k, z)]
theorem mget_ment (m : List (κ × β)) (k : κ) (z : β) (q : κ) : mget (ment m k z) q = if q = k then some ((mget m k).getD z) else mget m q := by
  unfold ment
  cases hg : mget m k with
  | some y =>
    simp only [Option.isSome_some, if_true, Option.getD_some]
    split
    · rename_i e; rw [e, hg]
    · rfl
  | none =>
    simp only [Option.isSome_none, Bool.false_eq_true, if_false, Option.getD_none]
    have := mget_put m k z q
    unfold mput at this
    rw [hg] at this
    simpa using this
/-- the block b is a map that holds m; the entry of k was made at q -/
structure Mq (H : Heap) (fk : κ → Value) (fv : β → Value) (b : Nat) (m : List (κ × β)) (k : κ) (q : Int) : Prop where
  ex : ∃ es clock, H[b]? = some (.map es clock) ∧ Stamped es clock ∧ es.toList.map (fun e => (e.key, e.val)) = m.map (fun p => (fk p.1, fv p.2)) ∧ ∃ e ∈ es.toList, (e.born : Int) = q ∧ e.key = fk k
theorem Mq.mp {k : κ} {q : Int} (h : Mq H fk fv b m k q) : Mp H fk fv b m := by
  obtain ⟨es, clock, h1, h2, h3, _⟩ := h.ex
  exact ⟨⟨b, es, clock, rfl, rfl, h1, h2, h3⟩⟩
theorem Mq.lt {k : κ} {q : Int} (h : Mq H fk fv b m k q) : b < H.size := h.mp.lt
theorem Mq.up {k : κ} {q : Int} {H' : Heap} {S : Nat → Prop} (h : Mq H fk fv b m k q) (s : Mo S H H') (hS : ¬ S b) : Mq H' fk fv b m k q := by
  obtain ⟨es, clock, h1, h2⟩ := h.ex
  exact ⟨es, clock, by rw [s.same b h.lt hS]; exact h1, h2⟩
theorem Mq.nw {k : κ} {q : Int} {H' : Heap} (h : Mq H fk fv b m k q) (s : Nw H H') : Mq H' fk fv b m k q := h.up s (fun e => e)
theorem Mq.upL {k : κ} {q : Int} {H' : Heap} {ks : List Nat} (h : Mq H fk fv b m k q) (s : Mo (Ms ks) H H') (d : DL (b + 1) ks) : Mq H' fk fv b m k q := h.up s (fun h2 => d (b + 1) h2 b rfl rfl)
theorem Z.entA {t et : TypeId} {x i : Operand} {k : κ} {z0 : β} (h : Mp H fk fv b m) (hk : KeyA P kt fk) (ho : o.op = .mapEntry t x i) (hm : ∀ w, (underlying t).run P w = .ok (.map kt et) w) (hz : ∀ w, (zeroValue et).run P w = .ok (fv z0) w)
    (hx : opv l x = some (.map (some b))) (hi : opv l i = some (fk k)) : Z P w0 n l H o (fun r H' => ∃ q, r = .tuple #[fv ((mget m k).getD z0), .int .i64 q] ∧ Mq H' fk fv b (ment m k z0) k q ∧ Mo (fun c => c = b) H H') := by
  intro ac w hf ha
  obtain ⟨r, es, clock, hv, h2, h3, h4, h5⟩ := h.mo.ex
  obtain rfl := h2
  have h3' : w.heap[r]? = some (.map es clock) := by rw [ha.heap]; exact h3
  have hlt := (Array.getElem?_eq_some_iff.1 h3).1
  have hget : ∀ ob, (H.setIfInBounds r ob)[r]? = some ob := fun ob => by simp [hlt]
  rcases find_entriesA (k := k) (w := w) hk es.toList m 0 h5 with ⟨q1, q2, q3⟩ | ⟨j, e', b', q1, q2, q3, q4, q5⟩
  · refine ⟨.tuple #[fv z0, .int .i64 (clock : Int)], H.setIfInBounds r (.map (es.push { key := fk k, val := fv z0, born := clock }) (clock + 1)), { w with heap := H.setIfInBounds r (.map (es.push { key := fk k, val := fv z0, born := clock }) (clock + 1)) }, ?_, ha.set, (clock : Int), by rw [q1]; rfl, ⟨_, _, hget _, stamped_push h4 q3, ?_, ?_⟩, mo_set _⟩
    · simp [execOp, ho, hf.eval hx, hf.eval hi, Instr.mapEntry, hm, MapKept.run_getObj_map h3', hk.check, run_findKeyA hk, q2, hz, goInt, MapKept.run_setObj_map _ h3', ha.heap]
    · simp [ment, q1, h5]
    · exact ⟨{ key := fk k, val := fv z0, born := clock }, by simp, rfl, rfl⟩
  · have hj : es[j]? = some e' := by simpa using q3
    have hkey : ∀ e, es[j]? = some e → ({ e with key := fk k } : MapEntry).key = e.key := fun e he => by rw [hj] at he; cases he; exact q4.symm
    have hes : (es.modify j fun e => { e with key := fk k }) = es := by
      apply Array.ext_getElem?
      intro q
      rw [Array.getElem?_modify]
      split
      · rename_i e; subst e; rw [hj]; simp [← q4]
      · rfl
    refine ⟨.tuple #[fv b', .int .i64 (e'.born : Int)], H.setIfInBounds r (.map (es.modify j fun e => { e with key := fk k }) clock), { w with heap := H.setIfInBounds r (.map (es.modify j fun e => { e with key := fk k }) clock) }, ?_, ha.set, (e'.born : Int), by rw [q1]; rfl, ⟨_, _, hget _, by rw [hes]; exact h4, ?_, ?_⟩, mo_set _⟩
    · simp [execOp, ho, hf.eval hx, hf.eval hi, Instr.mapEntry, hm, MapKept.run_getObj_map h3', hk.check, run_findKeyA hk, q2, hj, q4, run_staysA hk, goInt, MapKept.run_setObj_map _ h3', ha.heap]
    · rw [hes, h5]
      simp [ment, q1]
    · rw [hes]
      exact ⟨e', List.mem_of_getElem? q3, rfl, q4⟩
theorem S.entA {t : TypeId} {x i y : Operand} {k : κ} {q : Int} (z : β) (h : Mq H fk fv b m k q) (hinj : ∀ a b, fk a = fk b → a = b) (ho : o.op = .entryStore t x i y)
    (hx : opv l x = some (.map (some b))) (hi : opv l i = some (.int .i64 q)) (hy : opv l y = some (fv z)) : S P w0 n l H o (fun H' => Mp H' fk fv b (m.map (fun p => if p.1 = k then (p.1, z) else p)) ∧ Mo (fun c => c = b) H H') := by
  intro ac w hf ha
  obtain ⟨es, clock, h3, h4, h5, e, he1, he2, he3⟩ := h.ex
  have h3' : w.heap[b]? = some (.map es clock) := by rw [ha.heap]; exact h3
  have hlt := (Array.getElem?_eq_some_iff.1 h3).1
  have hget : ∀ ob, (H.setIfInBounds b ob)[b]? = some ob := fun ob => by simp [hlt]
  obtain ⟨j, hjl, hj⟩ := List.mem_iff_getElem.1 he1
  have hj' : es.toList[j]? = some e := by rw [List.getElem?_eq_getElem hjl, hj]
  have hjs : j < es.size := by simpa using hjl
  have hja : es[j]? = some e := by simpa using hj'
  have hidx : es.findIdx? (fun e => (e.born : Int) == q) = some j := by
    rw [Array.findIdx?_eq_some_iff_getElem]
    refine ⟨hjs, ?_, ?_⟩
    · have : es[j] = e := by rw [Array.getElem?_eq_getElem hjs] at hja; exact Option.some.inj hja
      simp [this, he2]
    · intro i hij
      have hne : es[i].born ≠ e.born := by
        intro hb
        have hnd := h4.2.1
        have h1 : (es.toList.map (·.born))[i]? = some e.born := by simp [show i < es.size by omega, hb]
        have h2 : (es.toList.map (·.born))[j]? = some e.born := by rw [List.getElem?_map, hj']; rfl
        have hi2 : i < (es.toList.map (·.born)).length := by simp; omega
        have hj2 : j < (es.toList.map (·.born)).length := by simpa using hjs
        have := (List.getElem_inj (h₀ := hi2) (h₁ := hj2) hnd).1 (by rw [List.getElem?_eq_getElem hi2] at h1; rw [List.getElem?_eq_getElem hj2] at h2; rw [Option.some.inj h1, Option.some.inj h2])
        omega
      have : ((es[i].born : Int) == q) = false := by
        rw [← he2]
        simp only [beq_eq_false_iff_ne, ne_eq]
        omega
      simp [this]
  have hmod : (es.modify j fun e => { e with val := fv z }) = es.modify j fun e => { e with key := fk k, val := fv z } := by
    apply Array.ext_getElem?
    intro i
    rw [Array.getElem?_modify, Array.getElem?_modify]
    split
    · rename_i e'; subst e'; rw [hja]; simp [he3]
    · rfl
  refine ⟨H.setIfInBounds b (.map (es.modify j fun e => { e with val := fv z }) clock), { w with heap := H.setIfInBounds b (.map (es.modify j fun e => { e with val := fv z }) clock) }, ?_, ha.set, ⟨⟨b, _, _, rfl, rfl, hget _, stamped_modify h4 _ _ (fun _ _ => rfl) (fun _ _ _ => rfl), ?_⟩⟩, mo_set _⟩
  · simp [execOp, ho, hf.eval hx, hf.eval hi, hf.eval hy, Instr.entryStore, MapKept.run_getObj_map h3', asInt, asIntOf, hidx, MapKept.run_setObj_map _ h3', ha.heap]
  · have := modify_entriesA (fv := fv) (b := z) hinj rfl es.toList m j e h5 h4.2.2 hj' he3
    rw [hmod, Array.toList_modify, this]
theorem ment_put (m : List (κ × β)) (k : κ) (z0 z : β) : (ment m k z0).map (fun p => if p.1 = k then (p.1, z) else p) = mput m k z := by
  unfold ment mput
  split
  · rfl
  · rename_i h
    have hn : mget m k = none := by simpa using h
    rw [List.map_append]
    congr 1
    · exact (List.map_congr_left (fun p hp => by rw [if_neg (mget_none hn p hp)])).trans (by simp)
    · simp

theorem Mp.le (h : Mp H fk fv b m) : b + 1 ≤ H.size := h.lt
/-! ### ranges over a map that is not turned -/
structure Mr (H : Heap) (fk : κ → Value) (fv : β → Value) (b : Nat) (m : List (κ × β)) (es : Array MapEntry) (clock : Nat) : Prop where
  at_ : H[b]? = some (.map es clock)
  st : Stamped es clock
  eq : es.toList.map (fun e => (e.key, e.val)) = m.map (fun p => (fk p.1, fv p.2))
theorem Mp.raw (h : Mp H fk fv b m) : ∃ es clock, Mr H fk fv b m es clock := by
  obtain ⟨r, es, clock, hv, h2, h3, h4, h5⟩ := h.mo.ex
  obtain rfl := h2
  exact ⟨es, clock, h3, h4, h5⟩
section
variable {es : Array MapEntry} {clock : Nat} {H' : Heap}
theorem Mr.mp (h : Mr H fk fv b m es clock) : Mp H fk fv b m := ⟨⟨b, es, clock, rfl, rfl, h.at_, h.st, h.eq⟩⟩
theorem Mr.lt (h : Mr H fk fv b m es clock) : b < H.size := h.mp.lt
theorem Mr.up {S : Nat → Prop} (h : Mr H fk fv b m es clock) (s : Mo S H H') (hS : ¬ S b) : Mr H' fk fv b m es clock := ⟨by rw [s.same b h.lt hS]; exact h.at_, h.st, h.eq⟩
theorem Mr.nw (h : Mr H fk fv b m es clock) (s : Nw H H') : Mr H' fk fv b m es clock := h.up s (fun e => e)
instance : Hp (Mr H fk fv b m es clock) H H' (Mr H' fk fv b m es clock) := ⟨fun s h => h.nw s⟩
theorem Mr.upL {ks : List Nat} (h : Mr H fk fv b m es clock) (s : Mo (Ms ks) H H') (d : DL (b + 1) ks) : Mr H' fk fv b m es clock := h.up s (fun h2 => d (b + 1) h2 b rfl rfl)
instance : Hv (Mr H fk fv b m es clock) H H' (Mr H' fk fv b m es clock) (Dj (b + 1)) := ⟨fun s h d => h.upL s (DL.o d)⟩
theorem Mr.mo (h : Mr H fk fv b m es clock) : MapOf (fun x => x = b) H fk fv (.map (some b)) m := h.mp.mo
end
/-- the block b is an iterator over the map in block r; the keys dn have come -/
structure Itr (H : Heap) (b r : Nat) (fk : κ → Value) (es : Array MapEntry) (clock : Nat) (dn : List κ) : Prop where
  ex : ∃ vis : List MapEntry, H[b]? = some (.mapIter (some r) clock (vis.map (·.born)).toArray clock) ∧ (∀ e ∈ vis, e ∈ es.toList) ∧ vis.map (·.key) = dn.map fk
section
variable {es : Array MapEntry} {clock r : Nat} {H' : Heap} {dn : List κ}
theorem Itr.lt (h : Itr H b r fk es clock dn) : b < H.size := by
  obtain ⟨vis, h1, _⟩ := h.ex
  exact (Array.getElem?_eq_some_iff.1 h1).1
theorem Itr.up {S : Nat → Prop} (h : Itr H b r fk es clock dn) (s : Mo S H H') (hS : ¬ S b) : Itr H' b r fk es clock dn := by
  obtain ⟨vis, h1, h2⟩ := h.ex
  exact ⟨vis, by rw [s.same b h.lt hS]; exact h1, h2⟩
theorem Itr.nw (h : Itr H b r fk es clock dn) (s : Nw H H') : Itr H' b r fk es clock dn := h.up s (fun e => e)
theorem Itr.upL {ks : List Nat} (h : Itr H b r fk es clock dn) (s : Mo (Ms ks) H H') (d : DL (b + 1) ks) : Itr H' b r fk es clock dn := h.up s (fun h2 => d (b + 1) h2 b rfl rfl)
instance : Hp (Itr H b r fk es clock dn) H H' (Itr H' b r fk es clock dn) := ⟨fun s h => h.nw s⟩
instance : Hv (Itr H b r fk es clock dn) H H' (Itr H' b r fk es clock dn) (Dj (b + 1)) := ⟨fun s h d => h.upL s (DL.o d)⟩
theorem Z.rangeA {t et : TypeId} {x : Operand} (h : Mr H fk fv b m es clock) (ho : o.op = .range t x) (hm : ∀ w, (underlying t).run P w = .ok (.map kt et) w) (hx : opv l x = some (.map (some b))) :
    Z P w0 n l H o (fun v H' => v = .pointer (some ⟨H.size, 0, none⟩) ∧ Itr H' H.size b fk es clock ([] : List κ) ∧ Nw H H' ∧ ∃ ob, H' = H.push ob) := by
  intro ac w hf ha
  have h3' : w.heap[b]? = some (.map es clock) := by rw [ha.heap]; exact h.at_
  refine ⟨.pointer (some ⟨w.heap.size, 0, none⟩), H.push (.mapIter (some b) clock #[] clock), w.alloc (.mapIter (some b) clock #[] clock), ?_, ha.alloc _, by rw [ha.heap], ⟨[], by simp, by simp, rfl⟩, Nw.pu _ _, _, rfl⟩
  simp [execOp, ho, hf.eval hx, Instr.range, hm, MapKept.run_getObj_map h3']
theorem Mr.le (h : Mr H fk fv b m es clock) : b + 1 ≤ H.size := h.lt
theorem Itr.le (h : Itr H b r fk es clock dn) : b + 1 ≤ H.size := h.lt
/-- what 'next' hands back -/
def nxt (q : Bool) (a c : Value) : Value := .tuple (if q then #[.bool true, a, c] else #[.bool false])
theorem Y.ext0 {x : Operand} {q : Bool} {a c : Value} (ho : o.op = .extract x 0) (hx : opv l x = some (nxt q a c)) : Y P w0 n l H o (.bool q) := by
  intro ac w hf ha
  cases q <;> simp [execOp, ho, hf.eval hx, nxt, Instr.extract]
theorem seen_mem (hinj : ∀ a b, fk a = fk b → a = b) {m : List (κ × β)} {vis : List MapEntry} (hs : Stamped es clock) (hv : ∀ e ∈ vis, e ∈ es.toList) (hd : vis.map (·.key) = dn.map fk) {e : MapEntry} (he : e ∈ es.toList) {a : κ} (ha : e.key = fk a) : e.born ∈ vis.map (·.born) ↔ a ∈ dn := by
  have uniqB : ∀ x ∈ es.toList, ∀ y ∈ es.toList, x.born = y.born → x = y := fun x hx y hy hb => nodup_inj hs.2.1 hx hy hb
  have uniqK : ∀ x ∈ es.toList, ∀ y ∈ es.toList, x.key = y.key → x = y := fun x hx y hy hb => nodup_inj hs.2.2 hx hy hb
  constructor
  · intro h
    obtain ⟨y, hy, hb⟩ := List.mem_map.1 h
    have := uniqB y (hv y hy) e he hb
    subst this
    have h2 : y.key ∈ dn.map fk := by rw [← hd]; exact List.mem_map.2 ⟨y, hy, rfl⟩
    obtain ⟨c, hc, hce⟩ := List.mem_map.1 h2
    rw [hinj _ _ (ha.symm.trans hce.symm)]
    exact hc
  · intro h
    have h2 : fk a ∈ vis.map (·.key) := by rw [hd]; exact List.mem_map.2 ⟨a, h, rfl⟩
    obtain ⟨y, hy, hk⟩ := List.mem_map.1 h2
    have := uniqK y (hv y hy) e he (hk.trans ha.symm)
    subst this
    exact List.mem_map.2 ⟨y, hy, rfl⟩
theorem Z.nextA {x : Operand} [Inhabited κ] [Inhabited β] (h : Itr H b r fk es clock dn) (hmr : Mr H fk fv r m es clock) (hinj : ∀ a b, fk a = fk b → a = b) (ho : o.op = .next x false) (hx : opv l x = some (.pointer (some ⟨b, 0, none⟩))) :
    Z P w0 n l H o (fun v H' => ∃ (q : Bool) (a : κ) (c : β) (dn' : List κ), v = nxt q (fk a) (fv c) ∧ Itr H' b r fk es clock dn' ∧ (q = true → (a, c) ∈ m ∧ a ∉ dn ∧ dn' = dn ++ [a]) ∧ (q = false → (∀ p ∈ m, p.1 ∈ dn) ∧ dn' = dn) ∧ Mo (fun g => g = b) H H') := by
  intro ac w hf ha
  obtain ⟨vis, h1, h2, h3⟩ := h.ex
  have h1' : w.heap[b]? = some (.mapIter (some r) clock (vis.map (·.born)).toArray clock) := by rw [ha.heap]; exact h1
  have hm' : w.heap[r]? = some (.map es clock) := by rw [ha.heap]; exact hmr.at_
  have hold : ∀ x ∈ es.toList, x.born < clock := hmr.st.1
  have hlt := h.lt
  have pairs : ∀ e ∈ es.toList, ∃ a c, (a, c) ∈ m ∧ e.key = fk a ∧ e.val = fv c := by
    intro e he
    have : (e.key, e.val) ∈ m.map (fun p => (fk p.1, fv p.2)) := by rw [← hmr.eq]; exact List.mem_map.2 ⟨e, he, rfl⟩
    obtain ⟨p, hp, hpe⟩ := List.mem_map.1 this
    simp only [Prod.mk.injEq] at hpe
    exact ⟨p.1, p.2, hp, hpe.1.symm, hpe.2.symm⟩
  rcases run_next_at (P := P) w o.type b r clock clock _ es clock h1' hm' hold (Nat.le_refl _) with ⟨hl, hr⟩ | ⟨e, he, w1, hw1, hr⟩
  · refine ⟨.tuple #[.bool false], H, w, by simp [execOp, ho, hf.eval hx, hr], ha, false, default, default, dn, rfl, h, by simp, fun _ => ⟨fun p hp => ?_, rfl⟩, Mo.refl _ _⟩
    have : (fk p.1, fv p.2) ∈ es.toList.map (fun e => (e.key, e.val)) := by rw [hmr.eq]; exact List.mem_map.2 ⟨p, hp, rfl⟩
    obtain ⟨e, he, hee⟩ := List.mem_map.1 this
    simp only [Prod.mk.injEq] at hee
    have hs := all_seen es _ hl e he
    refine (seen_mem (m := m) hinj hmr.st h2 h3 he hee.1).1 ?_
    simpa using hs
  · obtain ⟨hes, hns⟩ := mem_left he
    obtain ⟨a, c, hac, hk, hv⟩ := pairs e hes
    have hw1' : At w0 H w1 := by
      rcases hw1 with rfl | rfl
      · exact ha
      · exact ha.drew
    refine ⟨.tuple #[.bool true, e.key, e.val], H.setIfInBounds b (.mapIter (some r) clock ((vis.map (·.born)).toArray.push e.born) clock), _, by simp [execOp, ho, hf.eval hx, hr]; rfl, ?_, true, a, c, dn ++ [a], by rw [hk, hv]; rfl, ⟨vis ++ [e], ?_, ?_, ?_⟩, fun _ => ⟨hac, ?_, rfl⟩, by simp, mo_set _⟩
    · exact ⟨by simp [ChangeMaps.setBlock, hw1'.heap], hw1'.os, hw1'.tape, hw1'.output, hw1'.dr⟩
    · simp [hlt]
    · intro x hx
      rcases List.mem_append.1 hx with h | h
      · exact h2 x h
      · simp only [List.mem_singleton] at h; subst h; exact hes
    · simp [h3, hk]
    · intro had
      have := (seen_mem (m := m) hinj hmr.st h2 h3 hes hk).2 had
      simp at hns
      simp at this
      obtain ⟨x, hx, hxe⟩ := this
      exact hns x hx hxe
theorem Y.entryA {x : Operand} {a : κ} {c : β} (h : Itr H b r fk es clock (dn ++ [a])) (hmr : Mr H fk fv r m es clock) (hinj : ∀ a b, fk a = fk b → a = b) (hac : (a, c) ∈ m) (ho : o.op = .entry x) (hx : opv l x = some (.pointer (some ⟨b, 0, none⟩))) : Y P w0 n l H o (.tuple #[fk a, fv c]) := by
  intro ac w hf ha
  obtain ⟨vis, h1, h2, h3⟩ := h.ex
  have h1' : w.heap[b]? = some (.mapIter (some r) clock (vis.map (·.born)).toArray clock) := by rw [ha.heap]; exact h1
  have hm' : w.heap[r]? = some (.map es clock) := by rw [ha.heap]; exact hmr.at_
  have hne : vis ≠ [] := by intro e; subst e; simp at h3
  obtain ⟨e, he⟩ : ∃ e, vis.getLast? = some e := by
    rw [List.getLast?_eq_some_getLast hne]; exact ⟨_, rfl⟩
  have hev : e ∈ vis := List.mem_of_getLast? he
  have hek : e.key = fk a := by
    have := congrArg List.getLast? h3
    simpa [he] using this
  have hes := h2 e hev
  have hback : (vis.map (·.born)).toArray.back? = some e.born := by simp [he]
  have hfind : es.find? (fun x => x.born == e.born) = some e := by
    rw [← Array.find?_toList]
    obtain ⟨x, hx⟩ : ∃ x, es.toList.find? (fun x => x.born == e.born) = some x := by
      rw [← Option.isSome_iff_exists, List.find?_isSome]
      exact ⟨e, hes, by simp⟩
    have hxm := List.mem_of_find?_eq_some hx
    have hxb := List.find?_some hx
    simp only [beq_iff_eq] at hxb
    rw [hx, nodup_inj hmr.st.2.1 hxm hes hxb]
  have hval : e.val = fv c := by
    have : (fk a, fv c) ∈ es.toList.map (fun e => (e.key, e.val)) := by rw [hmr.eq]; exact List.mem_map.2 ⟨_, hac, rfl⟩
    obtain ⟨y, hy, hye⟩ := List.mem_map.1 this
    simp only [Prod.mk.injEq] at hye
    have := nodup_inj hmr.st.2.2 hy hes (hye.1.trans hek.symm)
    rw [← this]; exact hye.2
  simp [execOp, ho, hf.eval hx, Instr.entry, getObj, Sem.run, h1', hm', hback, hfind, hek, hval]
end
end

/-! ### errors that are numbers -/
/-- no error, or one of this number -/
def erV (t : TypeId) (e : Nat) : Value := if e = 0 then .nilIface else .iface t (.int .i64 e)
section
variable {P : Program} {w0 : World} {n : Nat} {l : FL} {H : Heap} {o : Oper}
theorem Y.mki {x : Operand} {t : TypeId} {d : TypeDesc} {v : Value} (ho : o.op = .makeInterface t x) (ht : ∀ w, (underlying t).run P w = .ok d w) (hd : ∀ ms, d ≠ .interface ms) (hx : opv l x = some v) : Y P w0 n l H o (.iface t v) := by
  intro ac w hf ha
  have : (Instr.makeInterface t v).run P w = .ok (.iface t v) w := by
    simp only [Instr.makeInterface, Sem.run_bind, ht, Result.andThen]
    cases d <;> first | rfl | exact absurd rfl (hd _)
  simp [execOp, ho, hf.eval hx, this]
theorem run_err0 {u : TypeId} {ms : Array (String × TypeId)} (w : World) (ht : P.underlying u = some (.interface ms)) : (Op.equal u .nilIface .nilIface).run P w = .ok true w := by
  show (Op.equalIn (9999 + 1) u .nilIface .nilIface).run P w = _
  unfold Op.equalIn
  simp [run_underlying ht]
theorem run_err1 {t u : TypeId} {v : Value} {ms : Array (String × TypeId)} (w : World) (ht : P.underlying u = some (.interface ms)) : (Op.equal u (.iface t v) .nilIface).run P w = .ok false w := by
  show (Op.equalIn (9999 + 1) u (.iface t v) .nilIface).run P w = _
  unfold Op.equalIn
  simp [run_underlying ht]
theorem Y.eeq {x : Operand} {t u u2 : TypeId} {ms : Array (String × TypeId)} {e : Nat} (ho : o.op = .binOp .eql u x (.const .nilIface) u2) (ht : P.underlying u = some (.interface ms)) (hx : opv l x = some (erV t e)) : Y P w0 n l H o (.bool (decide (e = 0))) := by
  intro a w hf ha
  have he : a.eval (.const .nilIface) = .nilIface := rfl
  have hv := hf.eval hx
  unfold erV at hv
  by_cases h0 : e = 0
  · rw [if_pos h0] at hv
    simp [execOp, ho, he, hv, eqGuard, binOp, run_err0 w ht, h0]
  · rw [if_neg h0] at hv
    simp [execOp, ho, he, hv, eqGuard, binOp, run_err1 w ht, h0]
theorem Y.ene {x : Operand} {t u u2 : TypeId} {ms : Array (String × TypeId)} {e : Nat} (ho : o.op = .binOp .neq u x (.const .nilIface) u2) (ht : P.underlying u = some (.interface ms)) (hx : opv l x = some (erV t e)) : Y P w0 n l H o (.bool (decide (e ≠ 0))) := by
  intro a w hf ha
  have he : a.eval (.const .nilIface) = .nilIface := rfl
  have hv := hf.eval hx
  unfold erV at hv
  by_cases h0 : e = 0
  · rw [if_pos h0] at hv
    simp [execOp, ho, he, hv, eqGuard, binOp, run_err0 w ht, h0]
  · rw [if_neg h0] at hv
    simp [execOp, ho, he, hv, eqGuard, binOp, run_err1 w ht, h0]
end

/-! ### a call through an interface -/
section
variable {P : Program} {w0 : World} {Q : Exit → Act → World → Prop} {n : Nat} {l : FL} {H : Heap} {ops : Array Oper} {rest : List Oper} {o : Oper}
/-- the method of the value behind an interface is this function; its receiver is this value -/
def Mth (P : Program) (t : TypeId) (v : Value) (name : String) (f : FuncId) : Prop := (∀ w, (method (P.types.size + Made.depth) t v name).run P w = .ok (f, v) w) ∧ ∀ (vs : Array Value) (w : World), (callFunc f vs).run P w = .ok (.enter f vs) w
theorem LR.calli {R : Value → Heap → Prop} {f d : Nat} {x : Operand} {name : String} {t : TypeId} {v : Value} {args : List Operand} {ats : Array TypeId} {vs : List Value} (hm : Mth P t v name f) (ho : o.op = .call { callee := .invoke x name, args := args.toArray, argTypes := ats })
    (hx : opv l x = some (.iface t v)) (hv : opvs l args = some vs) (hw : Wd ops l o) (hd : o.dst = some d) (hn : Nat.blt d n = true) (hc : Ct P w0 f (v :: vs).toArray H R)
    (h : ∀ v H', R v H' → LR false P w0 ops Q n ((d, v) :: l) rest H') : LR false P w0 ops Q n l (o :: rest) H := by
  intro a w hf ha
  simp only [Md]
  have hr : (execOp a.eval o).run P w = .ok (.enter f (v :: vs).toArray) w := by
    have h2 := hf.evals hv
    have h3 : (args.toArray.map a.eval) = vs.toArray := by rw [List.map_toArray, h2]
    have h4 : ((#[Value.iface t v] ++ vs.toArray).extract 1 (#[Value.iface t v] ++ vs.toArray).size) = vs.toArray := by
      apply Array.ext'
      simp
    simp [execOp, ho, resolve, hf.eval hx, invoke, h2, callMethod, hm.1, hm.2]
  unfold wpList
  rw [if_pos (hw n a hf)]
  refine .inl ?_
  unfold Oper.wp
  rw [hr]
  show Calls P f (v :: vs).toArray w _
  refine (hc w ha).mono ?_
  rintro e w' ⟨r, H', rfl, ha', hR⟩
  have hp := hf.put hn r
  rw [← hd] at hp
  exact h r H' hR _ w' hp ha'
end
section
variable {P : Program} {w0 : World} {Q : Exit → Act → World → Prop} {n k i : Nat} {dn : List Nat} {l : FL} {H : Heap} {ops : Array Oper} {o : Oper} {SH : Heap → Prop} {X : List Nat}
theorem LO.calld {R : Value → Heap → Prop} {d : Nat} {c : Operand} {cv : Value} {args : List Operand} {ats : Array TypeId} {vs : List Value} (hi : ops[i]? = some o) (ho : o.op = .call { callee := .value c, args := args.toArray, argTypes := ats })
    (hcv : opv l c = some cv) (hv : opvs l args = some vs) (hw : Wd ops l o) (hd : o.dst = some d) (hn : Nat.blt d n = true) (hc : Clo P w0 cv vs H R)
    (h : ∀ v H', R v H' → (X.contains i = true ∨ SH H') ∧ LH P w0 ops Q SH X n k (i :: dn) ((d, v) :: l) H') : LO P w0 ops Q SH X n k i dn l H := by
  intro a w hf ha
  obtain ⟨f, caps, rfl, hcall, hct⟩ := hc
  have hr : (execOp a.eval o).run P w = .ok (.enter f (vs.toArray ++ caps)) w := by
    have h2 := hf.evals hv
    have h3 : (args.toArray.map a.eval) = vs.toArray := by rw [List.map_toArray, h2]
    simp [execOp, ho, resolve, Deferred.ofValue, hf.eval hcv, invoke, hcall, h2]
  unfold wpOp
  simp only [hi]
  rw [if_pos (hw n a hf)]
  refine .inl ?_
  unfold Oper.wp
  rw [hr]
  show Calls P f (vs.toArray ++ caps) w _
  refine (hct w ha).mono ?_
  rintro e w' ⟨r, H', rfl, ha', hR⟩
  obtain ⟨h1, h2⟩ := h r H' hR
  have hp := hf.put hn r
  rw [← hd] at hp
  exact ⟨h1.imp id (fun h1 => ⟨H', ha', h1⟩), h2 _ w' hp ha'⟩
end
end Go.Proofs.YtfbfjhppppoilaaDoor.E
