/-
  Maps whose keys are arrays of bytes, deletes, entries written in place, ranges over maps, calls through an interface: no condition.
-/
import Derived.Test.YtfbfjhppppoilaaDoorMp
import Derived.Test.YtfbfjhppppoilaaDoorClo
import Derived.Maps.RangeRun
namespace Go.Proofs.YtfbfjhppppoilaaDoor.E
open Go.MapKept
set_option linter.unusedVariables false
set_option linter.unusedSimpArgs false
set_option linter.unusedSectionVars false

/-- 32 bytes -/
abbrev Ide := { l : List UInt8 // l.length = 32 }
def Zid : Ide := ⟨List.replicate 32 0, by simp⟩
instance : Inhabited Ide := ⟨Zid⟩
theorem nodup_inj {α β : Type} {f : α → β} : ∀ {l : List α}, (l.map f).Nodup → ∀ {x y : α}, x ∈ l → y ∈ l → f x = f y → x = y
  | [], _, _, _, h, _, _ => by cases h
  | a :: l, hn, x, y, hx, hy, e => by
    simp only [List.map_cons, List.nodup_cons] at hn
    rcases List.mem_cons.1 hx with rfl | hx2 <;> rcases List.mem_cons.1 hy with rfl | hy2
    · rfl
    · exact (hn.1 (List.mem_map.2 ⟨y, hy2, e.symm⟩)).elim
    · exact (hn.1 (List.mem_map.2 ⟨x, hx2, e⟩)).elim
    · exact nodup_inj hn.2 hx2 hy2 e
/-- keys that are arrays -/
structure KeyA {κ : Type} [DecidableEq κ] (P : Program) (kt : TypeId) (fk : κ → Value) : Prop where
  und : ∃ len e, P.underlying kt = some (.array len e)
  check : ∀ em k w, (Instr.checkKey em 10000 kt (fk k)).run P w = .ok () w
  eq : ∀ a b w, (Op.equal kt (fk a) (fk b)).run P w = .ok (decide (a = b)) w
  same : ∀ k, Instr.sameBits 10000 (fk k) (fk k) = true
  inj : ∀ a b, fk a = fk b → a = b

section
variable {P : Program} {w0 : World} {n : Nat} {l : FL} {H : Heap} {o : Oper}
variable {κ β : Type} [DecidableEq κ] {G : Nat → Prop} {fk : κ → Value} {fv : β → Value} {v : Value} {m : List (κ × β)} {kt : TypeId} {b : Nat}

theorem find_entriesA {k : κ} {w : World} (hk : KeyA P kt fk) : ∀ (es : List MapEntry) (m : List (κ × β)) (i : Nat), es.map (fun e => (e.key, e.val)) = m.map (fun p => (fk p.1, fv p.2)) →
    (mget m k = none ∧ (Instr.findAsking kt (fk k) es i).run P w = .ok none w ∧ ∀ x ∈ es, x.key ≠ fk k) ∨ ∃ j e b, mget m k = some b ∧ (Instr.findAsking kt (fk k) es i).run P w = .ok (some (i + j, fv b)) w ∧ es[j]? = some e ∧ e.key = fk k ∧ e.val = fv b
  | [], m, i, h => by
    have : m = [] := by cases m <;> simp_all
    subst this
    exact .inl ⟨rfl, by simp [Instr.findAsking], by simp⟩
  | e :: es, m, i, h => by
    match m, h with
    | (a, c) :: m, h =>
      simp only [List.map_cons, List.cons.injEq, Prod.mk.injEq] at h
      obtain ⟨⟨h1, h2⟩, h3⟩ := h
      have hq := hk.eq k a w
      rw [← h1] at hq
      by_cases hka : k = a
      · subst hka
        simp only [decide_true] at hq
        exact .inr ⟨0, e, c, by simp [mget], by simp [Instr.findAsking, hq, h2], rfl, h1, h2⟩
      · simp only [hka, decide_false] at hq
        rcases find_entriesA (k := k) (w := w) hk es m (i + 1) h3 with ⟨q1, q2, q3⟩ | ⟨j, e', b', q1, q2, q3, q4, q5⟩
        · refine .inl ⟨?_, by simp [Instr.findAsking, hq, q2], ?_⟩
          · simp only [mget, hka, if_false]; exact q1
          · intro x hx
            cases hx with
            | head => intro q; exact hka (hk.inj _ _ (by rw [← q, h1]))
            | tail _ hx => exact q3 x hx
        · refine .inr ⟨j + 1, e', b', ?_, ?_, by simpa using q3, q4, q5⟩
          · simp only [mget, hka, if_false]; exact q1
          · simp [Instr.findAsking, hq, q2]; omega

theorem mo_set {r : Nat} (ob : Obj) : Mo (fun c => c = r) H (H.setIfInBounds r ob) := ⟨by simp, fun b hb hne => by simp [Ne.symm hne]⟩
theorem modify_entriesA {k : κ} {b : β} {key : Value} (hinj : ∀ a b, fk a = fk b → a = b) (hkey : key = fk k) : ∀ (es : List MapEntry) (m : List (κ × β)) (j : Nat) (e : MapEntry), es.map (fun e => (e.key, e.val)) = m.map (fun p => (fk p.1, fv p.2)) → (es.map (·.key)).Nodup → es[j]? = some e → e.key = fk k →
    (es.modify j (fun e => { e with key := key, val := fv b })).map (fun e => (e.key, e.val)) = (m.map (fun p => if p.1 = k then (p.1, b) else p)).map (fun p => (fk p.1, fv p.2))
  | [], _, _, _, _, _, h, _ => by simp at h
  | x :: es, m, j, e, h, hn, hj, he => by
    match m, h with
    | (a, c) :: m, h =>
      simp only [List.map_cons, List.cons.injEq, Prod.mk.injEq] at h
      obtain ⟨⟨h1, h2⟩, h3⟩ := h
      simp only [List.map_cons, List.nodup_cons] at hn
      cases j with
      | zero =>
        simp only [List.getElem?_cons_zero, Option.some.injEq] at hj
        subst hj
        have hak : a = k := hinj _ _ (by rw [← h1, he])
        subst hak
        simp only [List.modify_zero_cons, List.map_cons, if_true, hkey]
        congr 1
        rw [h3, List.map_map]
        apply List.map_congr_left
        intro p hp
        have : p.1 ≠ a := by
          intro e
          apply hn.1
          have : (fk p.1, fv p.2) ∈ es.map (fun e => (e.key, e.val)) := by rw [h3]; exact List.mem_map.2 ⟨p, hp, rfl⟩
          obtain ⟨y, hy, hye⟩ := List.mem_map.1 this
          simp only [Prod.mk.injEq] at hye
          exact List.mem_map.2 ⟨y, hy, by rw [hye.1, e, h1]⟩
        simp [this]
      | succ j =>
        simp only [List.getElem?_cons_succ] at hj
        have hak : a ≠ k := by
          intro q
          subst q
          apply hn.1
          rw [h1, ← he]
          exact List.mem_map.2 ⟨e, List.mem_of_getElem? hj, rfl⟩
        simp only [List.modify_succ_cons, List.map_cons, hak, if_false, h1, h2]
        rw [modify_entriesA hinj hkey es m j e h3 hn.2 hj he]

/-- without a key -/
def mdel (m : List (κ × β)) (k : κ) : List (κ × β) := m.filter (fun p => decide (p.1 ≠ k))
theorem mget_del (m : List (κ × β)) (k q : κ) : mget (mdel m k) q = if q = k then none else mget m q := by
  induction m with
  | nil => simp [mdel, mget]
  | cons p m ih =>
    unfold mdel at ih ⊢
    by_cases hp : p.1 = k
    · rw [List.filter_cons_of_neg (by simp [hp]), ih]
      by_cases hq : q = k
      · simp [hq]
      · rw [if_neg hq, if_neg hq]; simp only [mget]; rw [if_neg (fun e => hq (e.trans hp))]
    · rw [List.filter_cons_of_pos (by simp [hp])]
      simp only [mget]
      by_cases hq : q = p.1
      · rw [if_pos hq, if_pos hq, if_neg (fun e => hp (hq.symm.trans e))]
      · rw [if_neg hq, if_neg hq, ih]
theorem mget_mem {m : List (κ × β)} {k : κ} {z : β} (h : mget m k = some z) : (k, z) ∈ m := by
  induction m with
  | nil => cases h
  | cons p m ih =>
    simp only [mget] at h
    split at h
    · rename_i e; cases h; rw [e]; exact .head _
    · exact .tail _ (ih h)
theorem mget_none {m : List (κ × β)} {k : κ} (h : mget m k = none) : ∀ p ∈ m, p.1 ≠ k := by
  induction m with
  | nil => simp
  | cons p m ih =>
    simp only [mget] at h
    split at h
    · cases h
    · rename_i hne
      intro q hq e
      cases hq with
      | head => exact hne e.symm
      | tail _ hq => exact ih h q hq e
theorem mget_of_mem {m : List (κ × β)} (hn : (m.map (·.1)).Nodup) {k : κ} {z : β} (h : (k, z) ∈ m) : mget m k = some z := by
  induction m with
  | nil => cases h
  | cons p m ih =>
    simp only [List.map_cons, List.nodup_cons] at hn
    simp only [mget]
    cases h with
    | head => simp
    | tail _ h =>
      rw [if_neg ?_]
      · exact ih hn.2 h
      · intro e
        exact hn.1 (List.mem_map.2 ⟨(k, z), h, e⟩)
theorem isSome_iff_key {m : List (κ × β)} {k : κ} : (mget m k).isSome = true ↔ k ∈ m.map (·.1) := by
  constructor
  · intro h
    obtain ⟨z, hz⟩ := Option.isSome_iff_exists.1 h
    exact List.mem_map.2 ⟨_, mget_mem hz, rfl⟩
  · intro h
    obtain ⟨p, hp, e⟩ := List.mem_map.1 h
    cases hg : mget m k with
    | some z => rfl
    | none => exact absurd e (mget_none hg p hp)
theorem erase_entries {k : κ} (hinj : ∀ a b, fk a = fk b → a = b) : ∀ (es : List MapEntry) (m : List (κ × β)) (j : Nat) (e : MapEntry), es.map (fun e => (e.key, e.val)) = m.map (fun p => (fk p.1, fv p.2)) → (es.map (·.key)).Nodup → es[j]? = some e → e.key = fk k →
    (es.eraseIdx j).map (fun e => (e.key, e.val)) = (mdel m k).map (fun p => (fk p.1, fv p.2))
  | [], _, _, _, _, _, h, _ => by simp at h
  | x :: es, m, j, e, h, hn, hj, he => by
    match m, h with
    | (a, c) :: m, h =>
      simp only [List.map_cons, List.cons.injEq, Prod.mk.injEq] at h
      obtain ⟨⟨h1, h2⟩, h3⟩ := h
      simp only [List.map_cons, List.nodup_cons] at hn
      cases j with
      | zero =>
        simp only [List.getElem?_cons_zero, Option.some.injEq] at hj
        subst hj
        have hak : a = k := hinj _ _ (by rw [← h1, he])
        subst hak
        have hm : mdel ((a, c) :: m) a = m := by
          unfold mdel
          rw [List.filter_cons_of_neg (by simp)]
          apply List.filter_eq_self.2
          intro p hp
          simp only [decide_eq_true_eq]
          intro e
          apply hn.1
          have : (fk p.1, fv p.2) ∈ es.map (fun e => (e.key, e.val)) := by rw [h3]; exact List.mem_map.2 ⟨p, hp, rfl⟩
          obtain ⟨y, hy, hye⟩ := List.mem_map.1 this
          simp only [Prod.mk.injEq] at hye
          exact List.mem_map.2 ⟨y, hy, by rw [hye.1, e, h1]⟩
        rw [hm]
        simpa using h3
      | succ j =>
        simp only [List.getElem?_cons_succ] at hj
        have hak : a ≠ k := by
          intro q
          subst q
          apply hn.1
          rw [h1, ← he]
          exact List.mem_map.2 ⟨e, List.mem_of_getElem? hj, rfl⟩
        have hm : mdel ((a, c) :: m) k = (a, c) :: mdel m k := by
          unfold mdel
          rw [List.filter_cons_of_pos (by simp [hak])]
        rw [hm]
        simp only [List.eraseIdx_cons_succ, List.map_cons, h1, h2]
        rw [erase_entries hinj es m j e h3 hn.2 hj he]
/-! ### entries that are written in place -/
/-- the block b is a map that holds m; the entry of k was made at q -/
structure Mq (H : Heap) (fk : κ → Value) (fv : β → Value) (b : Nat) (m : List (κ × β)) (k : κ) (q : Int) : Prop where
  ex : ∃ es clock, H[b]? = some (.map es clock) ∧ Stamped es clock ∧ es.toList.map (fun e => (e.key, e.val)) = m.map (fun p => (fk p.1, fv p.2)) ∧ ∃ e ∈ es.toList, (e.born : Int) = q ∧ e.key = fk k
theorem Mq.mp {k : κ} {q : Int} (h : Mq H fk fv b m k q) : Mp H fk fv b m := by
  obtain ⟨es, clock, h1, h2, h3, _⟩ := h.ex
  exact ⟨⟨b, es, clock, rfl, rfl, h1, h2, h3⟩⟩
theorem Mq.lt {k : κ} {q : Int} (h : Mq H fk fv b m k q) : b < H.size := h.mp.lt
theorem Mq.up {k : κ} {q : Int} {H' : Heap} {S : Nat → Prop} (h : Mq H fk fv b m k q) (s : Mo S H H') (hS : ¬ S b) : Mq H' fk fv b m k q := by
  obtain ⟨es, clock, h1, h2⟩ := h.ex
  exact ⟨es, clock, by rw [s.same b h.lt hS]; exact h1, h2⟩
theorem Mq.nw {k : κ} {q : Int} {H' : Heap} (h : Mq H fk fv b m k q) (s : Nw H H') : Mq H' fk fv b m k q := h.up s (fun e => e)
theorem Mq.upL {k : κ} {q : Int} {H' : Heap} {ks : List Nat} (h : Mq H fk fv b m k q) (s : Mo (Ms ks) H H') (d : DL (b + 1) ks) : Mq H' fk fv b m k q := h.up s (fun h2 => d (b + 1) h2 b rfl rfl)
theorem Mp.le (h : Mp H fk fv b m) : b + 1 ≤ H.size := h.lt
/-! ### ranges over a map that is not turned -/
structure Mr (H : Heap) (fk : κ → Value) (fv : β → Value) (b : Nat) (m : List (κ × β)) (es : Array MapEntry) (clock : Nat) : Prop where
  at_ : H[b]? = some (.map es clock)
  st : Stamped es clock
  eq : es.toList.map (fun e => (e.key, e.val)) = m.map (fun p => (fk p.1, fv p.2))
theorem Mp.raw (h : Mp H fk fv b m) : ∃ es clock, Mr H fk fv b m es clock := by
  obtain ⟨r, es, clock, hv, h2, h3, h4, h5⟩ := h.mo.ex
  obtain rfl := h2
  exact ⟨es, clock, h3, h4, h5⟩
section
variable {es : Array MapEntry} {clock : Nat} {H' : Heap}
theorem Mr.mp (h : Mr H fk fv b m es clock) : Mp H fk fv b m := ⟨⟨b, es, clock, rfl, rfl, h.at_, h.st, h.eq⟩⟩
theorem Mr.lt (h : Mr H fk fv b m es clock) : b < H.size := h.mp.lt
theorem Mr.up {S : Nat → Prop} (h : Mr H fk fv b m es clock) (s : Mo S H H') (hS : ¬ S b) : Mr H' fk fv b m es clock := ⟨by rw [s.same b h.lt hS]; exact h.at_, h.st, h.eq⟩
theorem Mr.nw (h : Mr H fk fv b m es clock) (s : Nw H H') : Mr H' fk fv b m es clock := h.up s (fun e => e)
theorem Mr.upL {ks : List Nat} (h : Mr H fk fv b m es clock) (s : Mo (Ms ks) H H') (d : DL (b + 1) ks) : Mr H' fk fv b m es clock := h.up s (fun h2 => d (b + 1) h2 b rfl rfl)
theorem Mr.mo (h : Mr H fk fv b m es clock) : MapOf (fun x => x = b) H fk fv (.map (some b)) m := h.mp.mo
end
/-- the block b is an iterator over the map in block r; the keys dn have come -/
structure Itr (H : Heap) (b r : Nat) (fk : κ → Value) (es : Array MapEntry) (clock : Nat) (dn : List κ) : Prop where
  ex : ∃ vis : List MapEntry, H[b]? = some (.mapIter (some r) clock (vis.map (·.born)).toArray clock) ∧ (∀ e ∈ vis, e ∈ es.toList) ∧ vis.map (·.key) = dn.map fk
section
variable {es : Array MapEntry} {clock r : Nat} {H' : Heap} {dn : List κ}
theorem Itr.lt (h : Itr H b r fk es clock dn) : b < H.size := by
  obtain ⟨vis, h1, _⟩ := h.ex
  exact (Array.getElem?_eq_some_iff.1 h1).1
theorem Itr.up {S : Nat → Prop} (h : Itr H b r fk es clock dn) (s : Mo S H H') (hS : ¬ S b) : Itr H' b r fk es clock dn := by
  obtain ⟨vis, h1, h2⟩ := h.ex
  exact ⟨vis, by rw [s.same b h.lt hS]; exact h1, h2⟩
theorem Itr.nw (h : Itr H b r fk es clock dn) (s : Nw H H') : Itr H' b r fk es clock dn := h.up s (fun e => e)
theorem Itr.upL {ks : List Nat} (h : Itr H b r fk es clock dn) (s : Mo (Ms ks) H H') (d : DL (b + 1) ks) : Itr H' b r fk es clock dn := h.up s (fun h2 => d (b + 1) h2 b rfl rfl)
theorem Z.rangeA {t et : TypeId} {x : Operand} (h : Mr H fk fv b m es clock) (ho : o.op = .range t x) (hm : ∀ w, (underlying t).run P w = .ok (.map kt et) w) (hx : opv l x = some (.map (some b))) :
    Z P w0 n l H o (fun v H' => v = .pointer (some ⟨H.size, 0, none⟩) ∧ Itr H' H.size b fk es clock ([] : List κ) ∧ Nw H H' ∧ ∃ ob, H' = H.push ob) := by
  intro ac w hf ha
  have h3' : w.heap[b]? = some (.map es clock) := by rw [ha.heap]; exact h.at_
  refine ⟨.pointer (some ⟨w.heap.size, 0, none⟩), H.push (.mapIter (some b) clock #[] clock), w.alloc (.mapIter (some b) clock #[] clock), ?_, ha.alloc _, by rw [ha.heap], ⟨[], by simp, by simp, rfl⟩, Nw.pu _ _, _, rfl⟩
  simp [execOp, ho, hf.eval hx, Instr.range, hm, MapKept.run_getObj_map h3']
theorem Mr.le (h : Mr H fk fv b m es clock) : b + 1 ≤ H.size := h.lt
theorem Itr.le (h : Itr H b r fk es clock dn) : b + 1 ≤ H.size := h.lt
/-- what 'next' hands back -/
def nxt (q : Bool) (a c : Value) : Value := .tuple (if q then #[.bool true, a, c] else #[.bool false])
theorem Y.ext0 {x : Operand} {q : Bool} {a c : Value} (ho : o.op = .extract x 0) (hx : opv l x = some (nxt q a c)) : Y P w0 n l H o (.bool q) := by
  intro ac w hf ha
  cases q <;> simp [execOp, ho, hf.eval hx, nxt, Instr.extract]
theorem seen_mem (hinj : ∀ a b, fk a = fk b → a = b) {m : List (κ × β)} {vis : List MapEntry} (hs : Stamped es clock) (hv : ∀ e ∈ vis, e ∈ es.toList) (hd : vis.map (·.key) = dn.map fk) {e : MapEntry} (he : e ∈ es.toList) {a : κ} (ha : e.key = fk a) : e.born ∈ vis.map (·.born) ↔ a ∈ dn := by
  have uniqB : ∀ x ∈ es.toList, ∀ y ∈ es.toList, x.born = y.born → x = y := fun x hx y hy hb => nodup_inj hs.2.1 hx hy hb
  have uniqK : ∀ x ∈ es.toList, ∀ y ∈ es.toList, x.key = y.key → x = y := fun x hx y hy hb => nodup_inj hs.2.2 hx hy hb
  constructor
  · intro h
    obtain ⟨y, hy, hb⟩ := List.mem_map.1 h
    have := uniqB y (hv y hy) e he hb
    subst this
    have h2 : y.key ∈ dn.map fk := by rw [← hd]; exact List.mem_map.2 ⟨y, hy, rfl⟩
    obtain ⟨c, hc, hce⟩ := List.mem_map.1 h2
    rw [hinj _ _ (ha.symm.trans hce.symm)]
    exact hc
  · intro h
    have h2 : fk a ∈ vis.map (·.key) := by rw [hd]; exact List.mem_map.2 ⟨a, h, rfl⟩
    obtain ⟨y, hy, hk⟩ := List.mem_map.1 h2
    have := uniqK y (hv y hy) e he (hk.trans ha.symm)
    subst this
    exact List.mem_map.2 ⟨y, hy, rfl⟩
theorem Z.nextA {x : Operand} [Inhabited κ] [Inhabited β] (h : Itr H b r fk es clock dn) (hmr : Mr H fk fv r m es clock) (hinj : ∀ a b, fk a = fk b → a = b) (ho : o.op = .next x false) (hx : opv l x = some (.pointer (some ⟨b, 0, none⟩))) :
    Z P w0 n l H o (fun v H' => ∃ (q : Bool) (a : κ) (c : β) (dn' : List κ), v = nxt q (fk a) (fv c) ∧ Itr H' b r fk es clock dn' ∧ (q = true → (a, c) ∈ m ∧ a ∉ dn ∧ dn' = dn ++ [a]) ∧ (q = false → (∀ p ∈ m, p.1 ∈ dn) ∧ dn' = dn) ∧ Mo (fun g => g = b) H H') := by
  intro ac w hf ha
  obtain ⟨vis, h1, h2, h3⟩ := h.ex
  have h1' : w.heap[b]? = some (.mapIter (some r) clock (vis.map (·.born)).toArray clock) := by rw [ha.heap]; exact h1
  have hm' : w.heap[r]? = some (.map es clock) := by rw [ha.heap]; exact hmr.at_
  have hold : ∀ x ∈ es.toList, x.born < clock := hmr.st.1
  have hlt := h.lt
  have pairs : ∀ e ∈ es.toList, ∃ a c, (a, c) ∈ m ∧ e.key = fk a ∧ e.val = fv c := by
    intro e he
    have : (e.key, e.val) ∈ m.map (fun p => (fk p.1, fv p.2)) := by rw [← hmr.eq]; exact List.mem_map.2 ⟨e, he, rfl⟩
    obtain ⟨p, hp, hpe⟩ := List.mem_map.1 this
    simp only [Prod.mk.injEq] at hpe
    exact ⟨p.1, p.2, hp, hpe.1.symm, hpe.2.symm⟩
  rcases run_next_at (P := P) w o.type b r clock clock _ es clock h1' hm' hold (Nat.le_refl _) with ⟨hl, hr⟩ | ⟨e, he, w1, hw1, hr⟩
  · refine ⟨.tuple #[.bool false], H, w, by simp [execOp, ho, hf.eval hx, hr], ha, false, default, default, dn, rfl, h, by simp, fun _ => ⟨fun p hp => ?_, rfl⟩, Mo.refl _ _⟩
    have : (fk p.1, fv p.2) ∈ es.toList.map (fun e => (e.key, e.val)) := by rw [hmr.eq]; exact List.mem_map.2 ⟨p, hp, rfl⟩
    obtain ⟨e, he, hee⟩ := List.mem_map.1 this
    simp only [Prod.mk.injEq] at hee
    have hs := all_seen es _ hl e he
    refine (seen_mem (m := m) hinj hmr.st h2 h3 he hee.1).1 ?_
    simpa using hs
  · obtain ⟨hes, hns⟩ := mem_left he
    obtain ⟨a, c, hac, hk, hv⟩ := pairs e hes
    have hw1' : At w0 H w1 := by
      rcases hw1 with rfl | rfl
      · exact ha
      · exact ha.drew
    refine ⟨.tuple #[.bool true, e.key, e.val], H.setIfInBounds b (.mapIter (some r) clock ((vis.map (·.born)).toArray.push e.born) clock), _, by simp [execOp, ho, hf.eval hx, hr]; rfl, ?_, true, a, c, dn ++ [a], by rw [hk, hv]; rfl, ⟨vis ++ [e], ?_, ?_, ?_⟩, fun _ => ⟨hac, ?_, rfl⟩, by simp, mo_set _⟩
    · exact ⟨by simp [ChangeMaps.setBlock, hw1'.heap], hw1'.os, hw1'.tape, hw1'.output, hw1'.dr⟩
    · simp [hlt]
    · intro x hx
      rcases List.mem_append.1 hx with h | h
      · exact h2 x h
      · simp only [List.mem_singleton] at h; subst h; exact hes
    · simp [h3, hk]
    · intro had
      have := (seen_mem (m := m) hinj hmr.st h2 h3 hes hk).2 had
      simp at hns
      simp at this
      obtain ⟨x, hx, hxe⟩ := this
      exact hns x hx hxe
theorem Y.entryA {x : Operand} {a : κ} {c : β} (h : Itr H b r fk es clock (dn ++ [a])) (hmr : Mr H fk fv r m es clock) (hinj : ∀ a b, fk a = fk b → a = b) (hac : (a, c) ∈ m) (ho : o.op = .entry x) (hx : opv l x = some (.pointer (some ⟨b, 0, none⟩))) : Y P w0 n l H o (.tuple #[fk a, fv c]) := by
  intro ac w hf ha
  obtain ⟨vis, h1, h2, h3⟩ := h.ex
  have h1' : w.heap[b]? = some (.mapIter (some r) clock (vis.map (·.born)).toArray clock) := by rw [ha.heap]; exact h1
  have hm' : w.heap[r]? = some (.map es clock) := by rw [ha.heap]; exact hmr.at_
  have hne : vis ≠ [] := by intro e; subst e; simp at h3
  obtain ⟨e, he⟩ : ∃ e, vis.getLast? = some e := by
    rw [List.getLast?_eq_some_getLast hne]; exact ⟨_, rfl⟩
  have hev : e ∈ vis := List.mem_of_getLast? he
  have hek : e.key = fk a := by
    have := congrArg List.getLast? h3
    simpa [he] using this
  have hes := h2 e hev
  have hback : (vis.map (·.born)).toArray.back? = some e.born := by simp [he]
  have hfind : es.find? (fun x => x.born == e.born) = some e := by
    rw [← Array.find?_toList]
    obtain ⟨x, hx⟩ : ∃ x, es.toList.find? (fun x => x.born == e.born) = some x := by
      rw [← Option.isSome_iff_exists, List.find?_isSome]
      exact ⟨e, hes, by simp⟩
    have hxm := List.mem_of_find?_eq_some hx
    have hxb := List.find?_some hx
    simp only [beq_iff_eq] at hxb
    rw [hx, nodup_inj hmr.st.2.1 hxm hes hxb]
  have hval : e.val = fv c := by
    have : (fk a, fv c) ∈ es.toList.map (fun e => (e.key, e.val)) := by rw [hmr.eq]; exact List.mem_map.2 ⟨_, hac, rfl⟩
    obtain ⟨y, hy, hye⟩ := List.mem_map.1 this
    simp only [Prod.mk.injEq] at hye
    have := nodup_inj hmr.st.2.2 hy hes (hye.1.trans hek.symm)
    rw [← this]; exact hye.2
  simp [execOp, ho, hf.eval hx, Instr.entry, getObj, Sem.run, h1', hm', hback, hfind, hek, hval]
end
end

/-! ### errors that are numbers -/
section
variable {P : Program} {w0 : World} {n : Nat} {l : FL} {H : Heap} {o : Oper}
end

/-! ### a call through an interface -/
section
variable {P : Program} {w0 : World} {Q : Exit → Act → World → Prop} {n : Nat} {l : FL} {H : Heap} {ops : Array Oper} {rest : List Oper} {o : Oper}
end
section
variable {P : Program} {w0 : World} {Q : Exit → Act → World → Prop} {n k i : Nat} {dn : List Nat} {l : FL} {H : Heap} {ops : Array Oper} {o : Oper} {SH : Heap → Prop} {X : List Nat}
end
end Go.Proofs.YtfbfjhppppoilaaDoor.E
