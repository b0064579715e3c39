/-
  Rules for statements whose order is open and that turn the heap: what reads is taken first, the rest in every order: no condition.
-/
import Derived.Test.YtfbfjhppppoilaaDoorOps
import Derived.OrdersHeld
import Derived.Deep.RegionHeld3
import Derived.StillTail
namespace Go.Proofs.YtfbfjhppppoilaaDoor.E
set_option linter.unusedVariables false
set_option linter.unusedSimpArgs false
set_option linter.unusedSectionVars false

section
variable {P : Program} {ops : Array Oper} {md : Region.Mode} {Q : Exit → Act → World → Prop} {S : World → Prop} {X : List Nat}
/-- whatever order is picked, and S holds behind every operation but those of X -/
def wpAnyE (P : Program) (md : Region.Mode) (ops : Array Oper) (Q : Exit → Act → World → Prop) (S : World → Prop) (X : List Nat) : Nat → Array Bool → Act → World → Prop
  | 0, listed, a, w => Region.ready md ops listed = [] ∧ Q .normal a w
  | fuel + 1, listed, a, w =>
    (Region.ready md ops listed = [] → Q .normal a w) ∧
    ∀ i ∈ Region.ready md ops listed, wpOp P ops Q i (fun a' w' => (X.contains i = true ∨ S w') ∧ wpAnyE P md ops Q S X fuel (listed.setIfInBounds i true) a' w') a w
theorem wpAny_of_E : ∀ (fuel : Nat) (listed : Array Bool) (a : Act) (w : World), wpAnyE P md ops Q S X fuel listed a w → wpAny P md ops Q fuel listed a w
  | 0, _, _, _, h => h
  | fuel + 1, _, _, _, h => ⟨h.1, fun i hi => wpOp_mono (fun a' w' h' => wpAny_of_E fuel _ a' w' h'.2) (h.2 i hi)⟩
theorem wpAnyE_first {i : Nat} {oi : Oper} {v : Value} (hi : ops[i]? = some oi) (hsel : ∀ (j : Nat) (o : Oper) cs b, ops[j]? = some o → o.op ≠ .select cs b)
    (hQ : ∀ c a w, Q (.panic c) (a.put oi.dst v) w → Q (.panic c) a w) (hX : ∀ j, X.contains j = true → j = i ∨ Region.waitsFor md ops j i = true) :
    ∀ (fuel : Nat) (listed : Array Bool) (a : Act) (w : World),
      (∀ j oj, ops[j]? = some oj → j ≠ i → listed.getD j true = false → (∀ e ∈ oj.after, Region.binds md e = true → e.on ≠ i) → oi.apart ops oj = true) →
      i ∈ Region.ready md ops listed → YieldsIf P ops S oi v a → S w →
      wpAnyE P md ops Q S X fuel (listed.setIfInBounds i true) (a.put oi.dst v) w → wpAnyE P md ops Q S X (fuel + 1) listed a w := by
  intro fuel
  induction fuel with
  | zero =>
    intro listed a w _ hr hy hS H
    refine ⟨fun h => (by rw [h] at hr; cases hr), fun j hj => ?_⟩
    by_cases hji : j = i
    · subst hji; exact hy.wpOp hi hS ⟨.inr hS, H⟩
    · have := ready_mono hj hji
      rw [H.1] at this
      cases this
  | succ fuel ih =>
    intro listed a w hfree hr hy hS H
    refine ⟨fun h => (by rw [h] at hr; cases hr), fun j hj => ?_⟩
    by_cases hji : j = i
    · subst hji; exact hy.wpOp hi hS ⟨.inr hS, H⟩
    · have h1 := H.2 j (ready_mono hj hji)
      obtain ⟨hjun, oj, hoj, hall⟩ := mem_ready.1 hj
      have hnot : ∀ e ∈ oj.after, Region.binds md e = true → e.on ≠ i := fun e he hb heq => by
        have h1 := hall e he hb
        have h0 := (mem_ready.1 hr).1
        rw [heq] at h1
        rcases Nat.lt_or_ge i listed.size with h' | h'
        · simp [h'] at h0 h1; rw [h0] at h1; cases h1
        · simp [Array.getElem?_eq_none h'] at h1
      have hjX : ¬ X.contains j = true := fun hc => by
        rcases hX j hc with h | h
        · exact hji h
        · obtain ⟨oj', hoj', e, he, hb, hon⟩ := Region.waitsFor_spec h
          have : oj' = oj := Option.some.inj (hoj'.symm.trans hoj)
          subst this
          exact hnot e he hb hon
      have h2 := wpOp_putIf hoj (hfree j oj hoj hji hjun hnot) (fun cs b => hsel i oi cs b hi) (fun cs b => hsel j oj cs b hoj) hQ hy h1
      have hfree' : ∀ k ok, ops[k]? = some ok → k ≠ i → (listed.setIfInBounds j true).getD k true = false →
          (∀ e ∈ ok.after, Region.binds md e = true → e.on ≠ i) → oi.apart ops ok = true := fun k ok hk hki hun hno => by
        refine hfree k ok hk hki ?_ hno
        by_cases hjk : j = k
        · subst hjk; exact hjun
        · rw [getD_set_ne true hjk] at hun; exact hun
      refine wpOp_mono (fun a' w' h3 => ?_) h2
      have hS' : S w' := h3.2.1.resolve_left hjX
      refine ⟨.inr hS', ih (listed.setIfInBounds j true) a' w' hfree' (ready_mono hr (Ne.symm hji)) h3.1 hS' ?_⟩
      rw [Array.setIfInBounds_comm _ _ hji]
      exact h3.2.2
theorem wpAnyE_take {i : Nat} {oi : Oper} {v : Value} {fuel : Nat} {listed : Array Bool} {a : Act} {w : World} (hX : X.all (fun j => Nat.beq j i || Region.waitsFor md ops j i) = true) (hi : ops[i]? = some oi)
    (hs : Region.noSelect ops = true) (hf : Region.free md ops listed i = true) (hr : (Region.ready md ops listed).contains i = true)
    (hQ : ∀ c a w, Q (.panic c) (a.put oi.dst v) w → Q (.panic c) a w) (hy : YieldsIf P ops S oi v a) (hS : S w)
    (h : wpAnyE P md ops Q S X fuel (listed.setIfInBounds i true) (a.put oi.dst v) w) : wpAnyE P md ops Q S X (fuel + 1) listed a w :=
  wpAnyE_first hi (Region.noSelect_spec hs) hQ (fun j hj => by
    have := List.all_eq_true.1 hX j (by simpa using hj)
    rw [Bool.or_eq_true] at this
    exact this.imp Nat.eq_of_beq_eq_true id) fuel listed a w (Region.free_spec hi hf) (by simpa using hr) hy hS h
theorem wpAnyE_all {rs : List Nat} {fuel : Nat} {listed : Array Bool} {a : Act} {w : World} (hr : Region.ready md ops listed = rs) (hne : rs ≠ [])
    (h : ∀ i ∈ rs, wpOp P ops Q i (fun a' w' => (X.contains i = true ∨ S w') ∧ wpAnyE P md ops Q S X fuel (listed.setIfInBounds i true) a' w') a w) : wpAnyE P md ops Q S X (fuel + 1) listed a w :=
  ⟨fun h0 => absurd (hr ▸ h0) hne, hr ▸ h⟩
theorem wpAnyE_done {listed : Array Bool} {a : Act} {w : World} (hr : Region.ready md ops listed = []) (h : Q .normal a w) : ∀ fuel, wpAnyE P md ops Q S X fuel listed a w
  | 0 => ⟨hr, h⟩
  | _ + 1 => ⟨fun _ => h, by rw [hr]; simp⟩
end

def lst (n : Nat) (dn : List Nat) : Array Bool := dn.foldr (fun i a => a.setIfInBounds i true) (Array.replicate n false)

/-- the operations 'dn' have come up, k are left; 'SH' holds of the heap all the while -/
def LH (P : Program) (w0 : World) (ops : Array Oper) (Q : Exit → Act → World → Prop) (SH : Heap → Prop) (X : List Nat) (n k : Nat) (dn : List Nat) (l : FL) (H : Heap) : Prop :=
  ∀ a w, Fr n l a → At w0 H w → wpAnyE P .any ops (NoPanic Q) (fun w' => ∃ H', At w0 H' w' ∧ SH H') X k (lst ops.size dn) a w

/-- operation i comes up now -/
def LO (P : Program) (w0 : World) (ops : Array Oper) (Q : Exit → Act → World → Prop) (SH : Heap → Prop) (X : List Nat) (n k i : Nat) (dn : List Nat) (l : FL) (H : Heap) : Prop :=
  ∀ a w, Fr n l a → At w0 H w → wpOp P ops (NoPanic Q) i (fun a' w' => (X.contains i = true ∨ ∃ H', At w0 H' w' ∧ SH H') ∧ wpAnyE P .any ops (NoPanic Q) (fun w' => ∃ H', At w0 H' w' ∧ SH H') X k (lst ops.size (i :: dn)) a' w') a w

section
variable {P : Program} {w0 : World} {Q : Exit → Act → World → Prop} {n k i : Nat} {dn : List Nat} {l : FL} {H : Heap} {ops : Array Oper} {o : Oper} {SH : Heap → Prop} {X : List Nat}

theorem CW.region_any {id : Nat} {lo : List Oper} (SH : Heap → Prop) (X : List Nat) (hm : P.follows .mixedOrders = true) (h : LH P w0 lo.toArray Q SH X n lo.length [] l H) : CW P w0 Q n l (.region id lo.toArray true) H := by
  intro a w hf ha
  refine wp_region_noPanic (wp_region_any hm (wpAny_of_E (S := fun w' => ∃ H', At w0 H' w' ∧ SH H') (X := X) _ _ _ _ ?_))
  have := h a _ hf ha.drew
  simpa [lst] using this

theorem LH.take {v : Value} {d : Nat} (i : Nat) (hX : X.all (fun j => Nat.beq j i || Region.waitsFor .any ops j i) = true) (hi : ops[i]? = some o) (hs : Region.noSelect ops = true) (hfr : Region.free .any ops (lst ops.size dn) i = true) (hr : (Region.ready .any ops (lst ops.size dn)).contains i = true)
    (hy : ∀ H', SH H' → Y P w0 n l H' o v) (hw : Wd ops l o) (hd : o.dst = some d) (hn : Nat.blt d n = true) (hS : SH H) (h : LH P w0 ops Q SH X n k (i :: dn) ((d, v) :: l) H) : LH P w0 ops Q SH X n (k + 1) dn l H := by
  intro a w hf ha
  have hp := hf.put hn v
  rw [← hd] at hp
  exact wpAnyE_take hX hi hs hfr hr (fun _ _ _ h => h) (.inl ⟨hw n a hf, fun w' ⟨H', ha', hS'⟩ => hy H' hS' a w' hf ha'⟩) ⟨H, ha, hS⟩ (h _ w hp ha)
theorem LH.e {α : Type} {g : α → Value} {φ : α → Prop} {d : Nat} (i : Nat) (hX : X.all (fun j => Nat.beq j i || Region.waitsFor .any ops j i) = true) (hi : ops[i]? = some o) (hs : Region.noSelect ops = true) (hfr : Region.free .any ops (lst ops.size dn) i = true) (hr : (Region.ready .any ops (lst ops.size dn)).contains i = true)
    (hy : ∃ x, (∀ H', Y P w0 n l H' o (g x)) ∧ φ x) (hw : Wd ops l o) (hd : o.dst = some d) (hn : Nat.blt d n = true) (hS : SH H) (h : ∀ x, φ x → LH P w0 ops Q SH X n k (i :: dn) ((d, g x) :: l) H) : LH P w0 ops Q SH X n (k + 1) dn l H :=
  let ⟨x, h1, h2⟩ := hy
  LH.take i hX hi hs hfr hr (fun H' _ => h1 H') hw hd hn hS (h x h2)
theorem LH.gs {d j e : Nat} {b c : Bool} (i : Nat) (hX : X.all (fun j => Nat.beq j i || Region.waitsFor .any ops j i) = true) (hi : ops[i]? = some o) (hs : Region.noSelect ops = true) (hfr : Region.free .any ops (lst ops.size dn) i = true) (hr : (Region.ready .any ops (lst ops.size dn)).contains i = true)
    (hg : o.guard = some (j, b)) (hj : (ops[j]?).bind (·.dst) = some e) (hc : lk l e = some (.bool c)) (hne : (c == b) = false) (hd : o.dst = some d) (hn : Nat.blt d n = true) (hS : SH H) (h : LH P w0 ops Q SH X n k (i :: dn) ((d, undef) :: l) H) : LH P w0 ops Q SH X n (k + 1) dn l H := by
  intro a w hf ha
  have hw : Region.wanted o (yielded ops a.tmps) = false := by
    have hne' : c ≠ b := by intro e; subst e; simp at hne
    simp [Region.wanted, hg, yielded_of hf hj hc, hne']
  have hp := hf.put hn undef
  rw [← hd] at hp
  exact wpAnyE_take hX hi hs hfr hr (fun _ _ _ h => h) (.inr ⟨hw, rfl⟩) ⟨H, ha, hS⟩ (h _ w hp ha)
theorem LH.gsu {d j e : Nat} {b : Bool} (i : Nat) (hX : X.all (fun j => Nat.beq j i || Region.waitsFor .any ops j i) = true) (hi : ops[i]? = some o) (hs : Region.noSelect ops = true) (hfr : Region.free .any ops (lst ops.size dn) i = true) (hr : (Region.ready .any ops (lst ops.size dn)).contains i = true)
    (hg : o.guard = some (j, b)) (hj : (ops[j]?).bind (·.dst) = some e) (hc : lk l e = some undef) (hd : o.dst = some d) (hn : Nat.blt d n = true) (hS : SH H) (h : LH P w0 ops Q SH X n k (i :: dn) ((d, undef) :: l) H) : LH P w0 ops Q SH X n (k + 1) dn l H := by
  intro a w hf ha
  have hw : Region.wanted o (yielded ops a.tmps) = false := by
    have h1 := hf.get e _ hc
    have h2 : (ops[j]?).bind (fun o => o.dst) = some e := hj
    have h3 : yielded ops a.tmps j = none := by
      unfold yielded
      rw [h2]
      simp [h1, undef]
    simp [Region.wanted, hg, h3]
  have hp := hf.put hn undef
  rw [← hd] at hp
  exact wpAnyE_take hX hi hs hfr hr (fun _ _ _ h => h) (.inr ⟨hw, rfl⟩) ⟨H, ha, hS⟩ (h _ w hp ha)
theorem LH.splitp {d : Nat} {p : Prop} [Decidable p] (hc : lk l d = some (.bool (decide p))) (ht : p → LH P w0 ops Q SH X n k dn ((d, .bool true) :: l) H) (he : ¬p → LH P w0 ops Q SH X n k dn ((d, .bool false) :: l) H) : LH P w0 ops Q SH X n k dn l H := by
  intro a w hf ha
  by_cases hp : p
  · rw [decide_eq_true hp] at hc; exact ht hp a w (hf.same hc) ha
  · rw [decide_eq_false hp] at hc; exact he hp a w (hf.same hc) ha
theorem LH.split {d : Nat} {b : Bool} (hc : lk l d = some (.bool b)) (ht : b = true → LH P w0 ops Q SH X n k dn ((d, .bool true) :: l) H) (he : b = false → LH P w0 ops Q SH X n k dn ((d, .bool false) :: l) H) : LH P w0 ops Q SH X n k dn l H := by
  intro a w hf ha
  cases b
  · exact he rfl a w (hf.same hc) ha
  · exact ht rfl a w (hf.same hc) ha
theorem wpAnyE_narrow {md : Region.Mode} {Q : Exit → Act → World → Prop} {S S2 : World → Prop} (hS : ∀ w, S2 w → S w) : ∀ (fuel : Nat) (listed : Array Bool) (a : Act) (w : World), wpAnyE P md ops Q S2 X fuel listed a w → wpAnyE P md ops Q S X fuel listed a w
  | 0, _, _, _, h => h
  | fuel + 1, _, _, _, h => ⟨h.1, fun i hi => wpOp_mono (fun a' w' h' => ⟨h'.1.imp id (hS w'), wpAnyE_narrow hS fuel _ a' w' h'.2⟩) (h.2 i hi)⟩
/-- less may turn from here on -/
theorem LH.narrow {SH2 : Heap → Prop} (hS : ∀ H', SH2 H' → SH H') (h : LH P w0 ops Q SH2 X n k dn l H) : LH P w0 ops Q SH X n k dn l H :=
  fun a w hf ha => wpAnyE_narrow (fun _ ⟨H', h1, h2⟩ => ⟨H', h1, hS H' h2⟩) _ _ _ _ (h a w hf ha)
theorem LH.done (hr : Region.ready .any ops (lst ops.size dn) = []) (h : QN w0 Q n l H) : LH P w0 ops Q SH X n k dn l H :=
  fun a w hf ha => wpAnyE_done (Q := NoPanic Q) hr (NoPanic.normal (h a w hf ha)) _
theorem LH.one {i : Nat} (hr : Region.ready .any ops (lst ops.size dn) = [i]) (h : LO P w0 ops Q SH X n k i dn l H) : LH P w0 ops Q SH X n (k + 1) dn l H :=
  fun a w hf ha => wpAnyE_all hr (by simp) (fun j hj => by
    simp only [List.mem_singleton] at hj
    subst hj; exact h a w hf ha)
theorem LH.two {i j : Nat} (hr : Region.ready .any ops (lst ops.size dn) = [i, j]) (h : LO P w0 ops Q SH X n k i dn l H) (h2 : LO P w0 ops Q SH X n k j dn l H) : LH P w0 ops Q SH X n (k + 1) dn l H :=
  fun a w hf ha => wpAnyE_all hr (by simp) (fun q hq => by
    simp only [List.mem_cons, List.not_mem_nil, or_false] at hq
    rcases hq with rfl | rfl
    · exact h a w hf ha
    · exact h2 a w hf ha)
theorem LH.three {i j m : Nat} (hr : Region.ready .any ops (lst ops.size dn) = [i, j, m]) (h : LO P w0 ops Q SH X n k i dn l H) (h2 : LO P w0 ops Q SH X n k j dn l H) (h3 : LO P w0 ops Q SH X n k m dn l H) : LH P w0 ops Q SH X n (k + 1) dn l H :=
  fun a w hf ha => wpAnyE_all hr (by simp) (fun q hq => by
    simp only [List.mem_cons, List.not_mem_nil, or_false] at hq
    rcases hq with rfl | rfl | rfl
    · exact h a w hf ha
    · exact h2 a w hf ha
    · exact h3 a w hf ha)

theorem LO.z {R : Value → Heap → Prop} {d : Nat} (hi : ops[i]? = some o) (hz : Z P w0 n l H o R) (hw : Wd ops l o) (hd : o.dst = some d) (hn : Nat.blt d n = true)
    (h : ∀ v H', R v H' → (X.contains i = true ∨ SH H') ∧ LH P w0 ops Q SH X n k (i :: dn) ((d, v) :: l) H') : LO P w0 ops Q SH X n k i dn l H := by
  intro a w hf ha
  obtain ⟨v, H', w', hr, ha', hR⟩ := hz a w hf ha
  obtain ⟨h1, h2⟩ := h v H' hR
  have hp := hf.put hn v
  rw [← hd] at hp
  unfold wpOp
  simp only [hi]
  rw [if_pos (hw n a hf)]
  refine .inl ?_
  unfold Oper.wp
  rw [hr]
  exact ⟨h1.imp id (fun h1 => ⟨H', ha', h1⟩), h2 _ w' hp ha'⟩
theorem LO.v {v : Value} {d : Nat} (hi : ops[i]? = some o) (hy : Y P w0 n l H o v) (hw : Wd ops l o) (hd : o.dst = some d) (hn : Nat.blt d n = true) (hS : X.contains i = true ∨ SH H)
    (h : LH P w0 ops Q SH X n k (i :: dn) ((d, v) :: l) H) : LO P w0 ops Q SH X n k i dn l H :=
  LO.z (R := fun u H' => u = v ∧ H' = H) hi (fun a w hf ha => ⟨v, H, w, hy a w hf ha, ha, rfl, rfl⟩) hw hd hn (fun u H' ⟨e1, e2⟩ => by subst e1; subst e2; exact ⟨hS, h⟩)
theorem LO.s {R : Heap → Prop} (hi : ops[i]? = some o) (hz : S P w0 n l H o R) (hw : Wd ops l o) (hd : o.dst = none)
    (h : ∀ H', R H' → (X.contains i = true ∨ SH H') ∧ LH P w0 ops Q SH X n k (i :: dn) l H') : LO P w0 ops Q SH X n k i dn l H := by
  intro a w hf ha
  obtain ⟨H', w', hr, ha', hR⟩ := hz a w hf ha
  obtain ⟨h1, h2⟩ := h H' hR
  unfold wpOp
  simp only [hi]
  rw [if_pos (hw n a hf)]
  refine .inl ?_
  unfold Oper.wp
  rw [hr]
  show (fun a' w' => (X.contains i = true ∨ ∃ H', At w0 H' w' ∧ SH H') ∧ wpAnyE P .any ops (NoPanic Q) (fun w' => ∃ H', At w0 H' w' ∧ SH H') X k (lst ops.size (i :: dn)) a' w') (a.put o.dst undef) w'
  rw [hd]
  exact ⟨h1.imp id (fun h1 => ⟨H', ha', h1⟩), h2 a w' hf ha'⟩
theorem LO.gs {d j e : Nat} {b c : Bool} (hi : ops[i]? = some o) (hg : o.guard = some (j, b)) (hj : (ops[j]?).bind (·.dst) = some e) (hc : lk l e = some (.bool c)) (hne : (c == b) = false) (hd : o.dst = some d) (hn : Nat.blt d n = true) (hS : X.contains i = true ∨ SH H)
    (h : LH P w0 ops Q SH X n k (i :: dn) ((d, undef) :: l) H) : LO P w0 ops Q SH X n k i dn l H := by
  intro a w hf ha
  have hw : Region.wanted o (yielded ops a.tmps) = false := by
    have hne' : c ≠ b := by intro e; subst e; simp at hne
    simp [Region.wanted, hg, yielded_of hf hj hc, hne']
  have hp := hf.put hn undef
  rw [← hd] at hp
  unfold wpOp
  simp only [hi]
  rw [if_neg (by simp [hw])]
  exact ⟨hS.imp id (fun hS => ⟨H, ha, hS⟩), h _ w hp ha⟩
theorem LO.gsu {d j e : Nat} {b : Bool} (hi : ops[i]? = some o) (hg : o.guard = some (j, b)) (hj : (ops[j]?).bind (·.dst) = some e) (hc : lk l e = some undef) (hd : o.dst = some d) (hn : Nat.blt d n = true) (hS : X.contains i = true ∨ SH H)
    (h : LH P w0 ops Q SH X n k (i :: dn) ((d, undef) :: l) H) : LO P w0 ops Q SH X n k i dn l H := by
  intro a w hf ha
  have hw : Region.wanted o (yielded ops a.tmps) = false := by
    have h1 := hf.get e _ hc
    have h2 : (ops[j]?).bind (fun o => o.dst) = some e := hj
    have h3 : yielded ops a.tmps j = none := by
      unfold yielded
      rw [h2]
      simp [h1, undef]
    simp [Region.wanted, hg, h3]
  have hp := hf.put hn undef
  rw [← hd] at hp
  unfold wpOp
  simp only [hi]
  rw [if_neg (by simp [hw])]
  exact ⟨hS.imp id (fun hS => ⟨H, ha, hS⟩), h _ w hp ha⟩
theorem LO.call {R : Value → Heap → Prop} {f d : Nat} {args : List Operand} {ats : Array TypeId} {vs : List Value} (hi : ops[i]? = some o) (ho : o.op = .call { callee := .value (.func f), args := args.toArray, argTypes := ats })
    (hcall : ∀ (vs : Array Value) (w : World), (callFunc f vs).run P w = .ok (.enter f vs) w) (hv : opvs l args = some vs) (hw : Wd ops l o) (hd : o.dst = some d) (hn : Nat.blt d n = true) (hc : Ct P w0 f vs.toArray H R)
    (h : ∀ v H', R v H' → (X.contains i = true ∨ SH H') ∧ LH P w0 ops Q SH X n k (i :: dn) ((d, v) :: l) H') : LO P w0 ops Q SH X n k i dn l H := by
  intro a w hf ha
  have hr := run_call (P := P) (ρ := a.eval) (w := w) ho rfl hcall
  rw [List.map_toArray, hf.evals hv] at hr
  unfold wpOp
  simp only [hi]
  rw [if_pos (hw n a hf)]
  refine .inl ?_
  unfold Oper.wp
  rw [hr]
  show Calls P f vs.toArray w _
  refine (hc w ha).mono ?_
  rintro e w' ⟨r, H', rfl, ha', hR⟩
  obtain ⟨h1, h2⟩ := h r H' hR
  have hp := hf.put hn r
  rw [← hd] at hp
  exact ⟨h1.imp id (fun h1 => ⟨H', ha', h1⟩), h2 _ w' hp ha'⟩
end
end Go.Proofs.YtfbfjhppppoilaaDoor.E
