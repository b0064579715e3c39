/-
  The disk: how full it is (plain data).
-/
import Derived.Test.YtfbfjhppppoilaaDoorSimYA
namespace Go.Proofs.YtfbfjhppppoilaaDoor.SimYE
open Go.Proofs.YtfbfjhppppoilaaDoor.E Go.RowKit Go.Proofs.YtfbfjhppppoilaaDoor.SimA Go.Proofs.YtfbfjhppppoilaaDoor.SimB Go.Proofs.YtfbfjhppppoilaaDoor.SimC Go.Proofs.YtfbfjhppppoilaaDoor.SimD Go.Proofs.YtfbfjhppppoilaaDoor.SimE Go.Proofs.YtfbfjhppppoilaaDoor.SimF Go.Proofs.YtfbfjhppppoilaaDoor.SimG Go.Proofs.YtfbfjhppppoilaaDoor.SimH Go.Proofs.YtfbfjhppppoilaaDoor.SimI Go.Proofs.YtfbfjhppppoilaaDoor.SimJ Go.Proofs.YtfbfjhppppoilaaDoor.SimK Go.Proofs.YtfbfjhppppoilaaDoor.SimL Go.Proofs.YtfbfjhppppoilaaDoor.SimM Go.Proofs.YtfbfjhppppoilaaDoor.SimN Go.Proofs.YtfbfjhppppoilaaDoor.SimP Go.Proofs.YtfbfjhppppoilaaDoor.SimQ Go.Proofs.YtfbfjhppppoilaaDoor.SimR Go.Proofs.YtfbfjhppppoilaaDoor.SimS Go.Proofs.YtfbfjhppppoilaaDoor.SimU Go.Proofs.YtfbfjhppppoilaaDoor.SimY Go.Proofs.YtfbfjhppppoilaaDoor.SimYA
set_option maxRecDepth 20000
set_option linter.unusedVariables false
set_option linter.unusedSimpArgs false
set_option linter.unusedSectionVars false

/-- each name has a file of its own -/
def Own1 (D : Dk) : Prop := (∀ p i, mget D.now p = some i → i < D.fs.length) ∧ ∀ p q i, mget D.now p = some i → mget D.now q = some i → p = q
theorem sum_keys (f : Pth → Nat) : ∀ (U ks : List Pth), U.Nodup → ks.Nodup → (∀ k ∈ ks, k ∈ U) → (∀ p ∈ U, p ∉ ks → f p = 0) → (ks.map f).sum = (U.map f).sum := by
  intro U
  induction U with
  | nil => intro ks _ _ h _; cases ks with
    | nil => rfl
    | cons k ks => cases h k List.mem_cons_self
  | cons u U ih =>
    intro ks hU hk h h0
    rw [List.nodup_cons] at hU
    rw [List.map_cons, List.sum_cons]
    by_cases hu : u ∈ ks
    · have hp := (List.perm_cons_erase hu)
      rw [(hp.map f).sum_nat, List.map_cons, List.sum_cons]
      congr 1
      refine ih _ hU.2 (hk.erase u) (fun k hk2 => ?_) (fun p hp2 hn => ?_)
      · have h2 := (hk.mem_erase_iff).1 hk2
        exact (List.mem_cons.1 (h k h2.2)).resolve_left h2.1
      · refine h0 p (List.mem_cons_of_mem _ hp2) (fun h3 => hn ((hk.mem_erase_iff).2 ⟨fun e => hU.1 (e ▸ hp2), h3⟩))
    · rw [h0 u List.mem_cons_self hu, Nat.zero_add]
      refine ih _ hU.2 hk (fun k hk2 => ?_) (fun p hp2 hn => h0 p (List.mem_cons_of_mem _ hp2) hn)
      exact (List.mem_cons.1 (h k hk2)).resolve_left (fun e => hu (e ▸ hk2))
theorem used_paths {D : Dk} {U : List Pth} (hA : Asc D.now) (hU : U.Nodup) (hI : Inn U D.now) : D.used = (U.map (fun p => (D.wasL p).length)).sum := by
  have h1 : D.used = ((D.now.map (·.1)).map (fun p => (D.wasL p).length)).sum := by
    unfold Dk.used usedL
    rw [List.map_map]
    congr 1
    refine List.map_congr_left (fun x hx => ?_)
    have := mget_of_mem hA.nodup (show (x.1, x.2) ∈ D.now from hx)
    simp only [Function.comp]
    rw [was_some this]
  rw [h1]
  refine sum_keys _ U _ hU hA.nodup (fun k hk => hI k (isSome_iff_key.2 hk)) (fun p _ hn => ?_)
  have : mget D.now p = none := by
    cases hq : mget D.now p with
    | none => rfl
    | some i => exact absurd (isSome_iff_key.1 (by rw [hq]; rfl)) hn
  rw [was_none this]; rfl
theorem fget_set {fs : List Fdt} {i j : Nat} {x : Fdt} : fget (fs.set i x) j = if j = i ∧ i < fs.length then x else fget fs j := by
  unfold fget
  by_cases hi : i < fs.length
  · by_cases e : j = i
    · rw [if_pos ⟨e, hi⟩, e, List.getD_eq_getElem?_getD, List.getElem?_set_self hi]; rfl
    · rw [if_neg (fun h => e h.1), List.getD_eq_getElem?_getD, List.getElem?_set_ne (Ne.symm e), ← List.getD_eq_getElem?_getD]
  · rw [if_neg (fun h => hi h.2), List.set_eq_of_length_le (by omega)]
theorem fget_app {fs : List Fdt} {j : Nat} (h : j < fs.length) (x : Fdt) : fget (fs ++ [x]) j = fget fs j := by
  unfold fget; rw [List.getD_eq_getElem?_getD, List.getElem?_append_left h, ← List.getD_eq_getElem?_getD]
theorem wasL_eq (D : Dk) (p : Pth) : D.wasL p = match mget D.now p with | some i => (fget D.fs i).now | none => [] := rfl
theorem Own1.write {D : Dk} (h : Own1 D) (p : Pth) (w : Wr) : Own1 (D.write p w) ∧ ∀ q, (D.write p w).wasL q = if q = p then w.on (D.wasL p) w.d.length else D.wasL q := by
  cases hm : mget D.now p with
  | some i =>
    have hi := h.1 p i hm
    have e : D.write p w = D.putF i ⟨w.on (fget D.fs i).now w.d.length, (fget D.fs i).stays, (fget D.fs i).w ++ [w]⟩ := by unfold Dk.write Dk.make; rw [hm]
    rw [e]
    refine ⟨⟨fun q j hq => by rw [fl_put]; exact h.1 q j hq, h.2⟩, fun q => ?_⟩
    rw [wasL_eq, wasL_eq D q, was_some hm]
    show (match mget D.now q with | some j => (fget (D.fs.set i _) j).now | none => []) = _
    cases hq : mget D.now q with
    | none => rw [if_neg (fun e => by rw [e, hm] at hq; cases hq)]
    | some j =>
      simp only
      rw [fget_set]
      by_cases e : q = p
      · rw [e, hm] at hq
        rw [if_pos e, if_pos ⟨(Option.some.inj hq).symm, hi⟩]
      · rw [if_neg e, if_neg (fun h2 => e (h.2 q p i (by rw [hq, h2.1]) hm))]
  | none =>
    have e : D.write p w = (mk1 D p).putF D.fs.length ⟨w.on [] w.d.length, [], [w]⟩ := by
      unfold Dk.write Dk.make; rw [hm]
      show (mk1 D p).putF D.fs.length ⟨w.on (fget (mk1 D p).fs D.fs.length).now w.d.length, (fget (mk1 D p).fs D.fs.length).stays, (fget (mk1 D p).fs D.fs.length).w ++ [w]⟩ = _
      rw [mk1_get]; rfl
    have hn : (mk1 D p).now = nput D.now p D.fs.length := by simp [mk1, Dk.change, Chg.ap]
    have hfs : (mk1 D p).fs = D.fs ++ [⟨[], [], []⟩] := rfl
    rw [e]
    refine ⟨⟨fun q j hq => ?_, fun q r j hq hr => ?_⟩, fun q => ?_⟩
    · rw [fl_put, hfs]
      have hq : mget (mk1 D p).now q = some j := hq
      rw [hn, mget_nput] at hq
      simp only [List.length_append, List.length_cons, List.length_nil]
      split at hq
      · have := Option.some.inj hq; omega
      · have := h.1 q j hq; omega
    · have hq : mget (mk1 D p).now q = some j := hq
      have hr : mget (mk1 D p).now r = some j := hr
      rw [hn, mget_nput] at hq hr
      split at hq
      · rename_i e1
        split at hr
        · rename_i e2; rw [e1, e2]
        · have h3 := Option.some.inj hq; have := h.1 r j hr; omega
      · split at hr
        · have h3 := Option.some.inj hr; have := h.1 q j hq; omega
        · exact h.2 q r j hq hr
    · rw [wasL_eq, wasL_eq D q, was_none hm]
      show (match mget (mk1 D p).now q with | some j => (fget ((mk1 D p).fs.set D.fs.length _) j).now | none => []) = _
      rw [hn, mget_nput, hfs]
      by_cases e1 : q = p
      · rw [if_pos e1, if_pos e1]; simp only; rw [fget_set, if_pos ⟨rfl, by simp⟩]
      · rw [if_neg e1, if_neg e1]
        cases hq : mget D.now q with
        | none => rfl
        | some j =>
          have hj := h.1 q j hq
          simp only
          rw [fget_set, if_neg (fun h2 => by omega), fget_app hj]

end Go.Proofs.YtfbfjhppppoilaaDoor.SimYE
