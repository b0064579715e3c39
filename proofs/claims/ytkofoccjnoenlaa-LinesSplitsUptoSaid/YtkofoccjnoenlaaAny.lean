/-
  Rules for statements whose order is open and that turn the heap: what reads is taken first, the rest in every order: no condition.
-/
import Derived.Test.YtkofoccjnoenlaaOps
import Derived.OrdersHeld
import Derived.Deep.RegionHeld3
namespace Go.Proofs.Ytkofoccjnoenlaa.E
set_option linter.unusedVariables false
set_option linter.unusedSimpArgs false
set_option linter.unusedSectionVars false

def lst (n : Nat) (dn : List Nat) : Array Bool := dn.foldr (fun i a => a.setIfInBounds i true) (Array.replicate n false)

/-- the operations 'dn' have come up, k are left; 'SH' holds of the heap all the while -/
def LH (P : Program) (w0 : World) (ops : Array Oper) (Q : Exit → Act → World → Prop) (SH : Heap → Prop) (n k : Nat) (dn : List Nat) (l : FL) (H : Heap) : Prop :=
  ∀ a w, Fr n l a → At w0 H w → wpAnyH P .any ops (NoPanic Q) (fun w' => ∃ H', At w0 H' w' ∧ SH H') k (lst ops.size dn) a w

/-- operation i comes up now -/
def LO (P : Program) (w0 : World) (ops : Array Oper) (Q : Exit → Act → World → Prop) (SH : Heap → Prop) (n k i : Nat) (dn : List Nat) (l : FL) (H : Heap) : Prop :=
  ∀ a w, Fr n l a → At w0 H w → wpOp P ops (NoPanic Q) i (fun a' w' => (∃ H', At w0 H' w' ∧ SH H') ∧ wpAnyH P .any ops (NoPanic Q) (fun w' => ∃ H', At w0 H' w' ∧ SH H') k (lst ops.size (i :: dn)) a' w') a w

section
variable {P : Program} {w0 : World} {Q : Exit → Act → World → Prop} {n k i : Nat} {dn : List Nat} {l : FL} {H : Heap} {ops : Array Oper} {o : Oper} {SH : Heap → Prop}

theorem CW.region_any {id : Nat} {lo : List Oper} (SH : Heap → Prop) (hm : P.follows .mixedOrders = true) (h : LH P w0 lo.toArray Q SH n lo.length [] l H) : CW P w0 Q n l (.region id lo.toArray true) H := by
  intro a w hf ha
  refine wp_region_noPanic (wp_region_held (S := fun w' => ∃ H', At w0 H' w' ∧ SH H') hm ?_)
  have := h a _ hf ha.drew
  simpa [lst] using this

theorem LH.take {v : Value} {d : Nat} (i : Nat) (hi : ops[i]? = some o) (hs : Region.noSelect ops = true) (hfr : Region.free .any ops (lst ops.size dn) i = true) (hr : (Region.ready .any ops (lst ops.size dn)).contains i = true)
    (hy : ∀ H', SH H' → Y P w0 n l H' o v) (hw : Wd ops l o) (hd : o.dst = some d) (hn : Nat.blt d n = true) (hS : SH H) (h : LH P w0 ops Q SH n k (i :: dn) ((d, v) :: l) H) : LH P w0 ops Q SH n (k + 1) dn l H := by
  intro a w hf ha
  have hp := hf.put hn v
  rw [← hd] at hp
  exact wpAnyH_take hi hs hfr hr (fun _ _ _ h => h) (.inl ⟨hw n a hf, fun w' ⟨H', ha', hS'⟩ => hy H' hS' a w' hf ha'⟩) ⟨H, ha, hS⟩ (h _ w hp ha)
theorem LH.e {α : Type} {g : α → Value} {φ : α → Prop} {d : Nat} (i : Nat) (hi : ops[i]? = some o) (hs : Region.noSelect ops = true) (hfr : Region.free .any ops (lst ops.size dn) i = true) (hr : (Region.ready .any ops (lst ops.size dn)).contains i = true)
    (hy : ∃ x, (∀ H', Y P w0 n l H' o (g x)) ∧ φ x) (hw : Wd ops l o) (hd : o.dst = some d) (hn : Nat.blt d n = true) (hS : SH H) (h : ∀ x, φ x → LH P w0 ops Q SH n k (i :: dn) ((d, g x) :: l) H) : LH P w0 ops Q SH n (k + 1) dn l H :=
  let ⟨x, h1, h2⟩ := hy
  LH.take i hi hs hfr hr (fun H' _ => h1 H') hw hd hn hS (h x h2)
theorem LH.gs {d j e : Nat} {b c : Bool} (i : Nat) (hi : ops[i]? = some o) (hs : Region.noSelect ops = true) (hfr : Region.free .any ops (lst ops.size dn) i = true) (hr : (Region.ready .any ops (lst ops.size dn)).contains i = true)
    (hg : o.guard = some (j, b)) (hj : (ops[j]?).bind (·.dst) = some e) (hc : lk l e = some (.bool c)) (hne : (c == b) = false) (hd : o.dst = some d) (hn : Nat.blt d n = true) (hS : SH H) (h : LH P w0 ops Q SH n k (i :: dn) ((d, undef) :: l) H) : LH P w0 ops Q SH n (k + 1) dn l H := by
  intro a w hf ha
  have hw : Region.wanted o (yielded ops a.tmps) = false := by
    have hne' : c ≠ b := by intro e; subst e; simp at hne
    simp [Region.wanted, hg, yielded_of hf hj hc, hne']
  have hp := hf.put hn undef
  rw [← hd] at hp
  exact wpAnyH_take hi hs hfr hr (fun _ _ _ h => h) (.inr ⟨hw, rfl⟩) ⟨H, ha, hS⟩ (h _ w hp ha)
theorem LH.splitp {d : Nat} {p : Prop} [Decidable p] (hc : lk l d = some (.bool (decide p))) (ht : p → LH P w0 ops Q SH n k dn ((d, .bool true) :: l) H) (he : ¬p → LH P w0 ops Q SH n k dn ((d, .bool false) :: l) H) : LH P w0 ops Q SH n k dn l H := by
  intro a w hf ha
  by_cases hp : p
  · rw [decide_eq_true hp] at hc; exact ht hp a w (hf.same hc) ha
  · rw [decide_eq_false hp] at hc; exact he hp a w (hf.same hc) ha
theorem LH.split {d : Nat} {b : Bool} (hc : lk l d = some (.bool b)) (ht : b = true → LH P w0 ops Q SH n k dn ((d, .bool true) :: l) H) (he : b = false → LH P w0 ops Q SH n k dn ((d, .bool false) :: l) H) : LH P w0 ops Q SH n k dn l H := by
  intro a w hf ha
  cases b
  · exact he rfl a w (hf.same hc) ha
  · exact ht rfl a w (hf.same hc) ha
theorem wpAnyH_narrow {md : Region.Mode} {Q : Exit → Act → World → Prop} {S S2 : World → Prop} (hS : ∀ w, S2 w → S w) : ∀ (fuel : Nat) (listed : Array Bool) (a : Act) (w : World), wpAnyH P md ops Q S2 fuel listed a w → wpAnyH P md ops Q S fuel listed a w
  | 0, _, _, _, h => h
  | fuel + 1, _, _, _, h => ⟨h.1, fun i hi => wpOp_mono (fun a' w' h' => ⟨hS w' h'.1, wpAnyH_narrow hS fuel _ a' w' h'.2⟩) (h.2 i hi)⟩
/-- less may turn from here on -/
theorem LH.narrow {SH2 : Heap → Prop} (hS : ∀ H', SH2 H' → SH H') (h : LH P w0 ops Q SH2 n k dn l H) : LH P w0 ops Q SH n k dn l H :=
  fun a w hf ha => wpAnyH_narrow (fun _ ⟨H', h1, h2⟩ => ⟨H', h1, hS H' h2⟩) _ _ _ _ (h a w hf ha)
theorem LH.done (hr : Region.ready .any ops (lst ops.size dn) = []) (h : QN w0 Q n l H) : LH P w0 ops Q SH n k dn l H :=
  fun a w hf ha => wpAnyH_done (Q := NoPanic Q) hr (NoPanic.normal (h a w hf ha)) _
theorem LH.one {i : Nat} (hr : Region.ready .any ops (lst ops.size dn) = [i]) (h : LO P w0 ops Q SH n k i dn l H) : LH P w0 ops Q SH n (k + 1) dn l H :=
  fun a w hf ha => wpAnyH_all hr (by simp) (fun j hj => by
    simp only [List.mem_singleton] at hj
    subst hj; exact h a w hf ha)
theorem LH.two {i j : Nat} (hr : Region.ready .any ops (lst ops.size dn) = [i, j]) (h : LO P w0 ops Q SH n k i dn l H) (h2 : LO P w0 ops Q SH n k j dn l H) : LH P w0 ops Q SH n (k + 1) dn l H :=
  fun a w hf ha => wpAnyH_all hr (by simp) (fun q hq => by
    simp only [List.mem_cons, List.not_mem_nil, or_false] at hq
    rcases hq with rfl | rfl
    · exact h a w hf ha
    · exact h2 a w hf ha)
theorem LH.three {i j m : Nat} (hr : Region.ready .any ops (lst ops.size dn) = [i, j, m]) (h : LO P w0 ops Q SH n k i dn l H) (h2 : LO P w0 ops Q SH n k j dn l H) (h3 : LO P w0 ops Q SH n k m dn l H) : LH P w0 ops Q SH n (k + 1) dn l H :=
  fun a w hf ha => wpAnyH_all hr (by simp) (fun q hq => by
    simp only [List.mem_cons, List.not_mem_nil, or_false] at hq
    rcases hq with rfl | rfl | rfl
    · exact h a w hf ha
    · exact h2 a w hf ha
    · exact h3 a w hf ha)

theorem LO.z {R : Value → Heap → Prop} {d : Nat} (hi : ops[i]? = some o) (hz : Z P w0 n l H o R) (hw : Wd ops l o) (hd : o.dst = some d) (hn : Nat.blt d n = true)
    (h : ∀ v H', R v H' → SH H' ∧ LH P w0 ops Q SH n k (i :: dn) ((d, v) :: l) H') : LO P w0 ops Q SH n k i dn l H := by
  intro a w hf ha
  obtain ⟨v, H', w', hr, ha', hR⟩ := hz a w hf ha
  obtain ⟨h1, h2⟩ := h v H' hR
  have hp := hf.put hn v
  rw [← hd] at hp
  unfold wpOp
  simp only [hi]
  rw [if_pos (hw n a hf)]
  refine .inl ?_
  unfold Oper.wp
  rw [hr]
  exact ⟨⟨H', ha', h1⟩, h2 _ w' hp ha'⟩
theorem LO.v {v : Value} {d : Nat} (hi : ops[i]? = some o) (hy : Y P w0 n l H o v) (hw : Wd ops l o) (hd : o.dst = some d) (hn : Nat.blt d n = true) (hS : SH H)
    (h : LH P w0 ops Q SH n k (i :: dn) ((d, v) :: l) H) : LO P w0 ops Q SH n k i dn l H :=
  LO.z (R := fun u H' => u = v ∧ H' = H) hi (fun a w hf ha => ⟨v, H, w, hy a w hf ha, ha, rfl, rfl⟩) hw hd hn (fun u H' ⟨e1, e2⟩ => by subst e1; subst e2; exact ⟨hS, h⟩)
theorem LO.s {R : Heap → Prop} (hi : ops[i]? = some o) (hz : S P w0 n l H o R) (hw : Wd ops l o) (hd : o.dst = none)
    (h : ∀ H', R H' → SH H' ∧ LH P w0 ops Q SH n k (i :: dn) l H') : LO P w0 ops Q SH n k i dn l H := by
  intro a w hf ha
  obtain ⟨H', w', hr, ha', hR⟩ := hz a w hf ha
  obtain ⟨h1, h2⟩ := h H' hR
  unfold wpOp
  simp only [hi]
  rw [if_pos (hw n a hf)]
  refine .inl ?_
  unfold Oper.wp
  rw [hr]
  show (fun a' w' => (∃ H', At w0 H' w' ∧ SH H') ∧ wpAnyH P .any ops (NoPanic Q) (fun w' => ∃ H', At w0 H' w' ∧ SH H') k (lst ops.size (i :: dn)) a' w') (a.put o.dst undef) w'
  rw [hd]
  exact ⟨⟨H', ha', h1⟩, h2 a w' hf ha'⟩
theorem LO.gs {d j e : Nat} {b c : Bool} (hi : ops[i]? = some o) (hg : o.guard = some (j, b)) (hj : (ops[j]?).bind (·.dst) = some e) (hc : lk l e = some (.bool c)) (hne : (c == b) = false) (hd : o.dst = some d) (hn : Nat.blt d n = true) (hS : SH H)
    (h : LH P w0 ops Q SH n k (i :: dn) ((d, undef) :: l) H) : LO P w0 ops Q SH n k i dn l H := by
  intro a w hf ha
  have hw : Region.wanted o (yielded ops a.tmps) = false := by
    have hne' : c ≠ b := by intro e; subst e; simp at hne
    simp [Region.wanted, hg, yielded_of hf hj hc, hne']
  have hp := hf.put hn undef
  rw [← hd] at hp
  unfold wpOp
  simp only [hi]
  rw [if_neg (by simp [hw])]
  exact ⟨⟨H, ha, hS⟩, h _ w hp ha⟩
theorem LO.call {R : Value → Heap → Prop} {f d : Nat} {args : List Operand} {ats : Array TypeId} {vs : List Value} (hi : ops[i]? = some o) (ho : o.op = .call { callee := .value (.func f), args := args.toArray, argTypes := ats })
    (hcall : ∀ (vs : Array Value) (w : World), (callFunc f vs).run P w = .ok (.enter f vs) w) (hv : opvs l args = some vs) (hw : Wd ops l o) (hd : o.dst = some d) (hn : Nat.blt d n = true) (hc : Ct P w0 f vs.toArray H R)
    (h : ∀ v H', R v H' → SH H' ∧ LH P w0 ops Q SH n k (i :: dn) ((d, v) :: l) H') : LO P w0 ops Q SH n k i dn l H := by
  intro a w hf ha
  have hr := run_call (P := P) (ρ := a.eval) (w := w) ho rfl hcall
  rw [List.map_toArray, hf.evals hv] at hr
  unfold wpOp
  simp only [hi]
  rw [if_pos (hw n a hf)]
  refine .inl ?_
  unfold Oper.wp
  rw [hr]
  show Calls P f vs.toArray w _
  refine (hc w ha).mono ?_
  rintro e w' ⟨r, H', rfl, ha', hR⟩
  obtain ⟨h1, h2⟩ := h r H' hR
  have hp := hf.put hn r
  rw [← hd] at hp
  exact ⟨⟨H', ha', h1⟩, h2 _ w' hp ha'⟩
end
end Go.Proofs.Ytkofoccjnoenlaa.E
