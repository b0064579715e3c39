/-
  A range over a function: the rounds of its body, the call of yield, what stays behind: no condition.
-/
import Derived.Test.YtfbfjhppppoilaaDoorFa
import Derived.RangeFuncLeaves
import Derived.RangeFuncRecord
import Derived.RangeFuncSeq
import Derived.TacticsIn
namespace Go.Proofs.YtfbfjhppppoilaaDoor.E
set_option linter.unusedVariables false
set_option linter.unusedSimpArgs false
set_option linter.unusedSectionVars false
/-- the fence that lets all in, in a round or in none -/
abbrev FW (ro : Option Nat) : Fence := { Fence.wide with round := ro }
/-- the block b is a loop's record -/
structure Lpr (H : Heap) (b : Nat) (r : Loop) : Prop where
  at_ : H[b]? = some (.loop r)
/-- the block b bears the calls that were put off -/
structure Dfr (H : Heap) (b : Nat) : Prop where
  at_ : H[b]? = some (.deferred (some []))
section
variable {H H' : Heap} {b : Nat} {r : Loop} {ks : List Nat}
theorem Lpr.lt (h : Lpr H b r) : b < H.size := (Array.getElem?_eq_some_iff.1 h.at_).1
theorem Lpr.le (h : Lpr H b r) : b + 1 ≤ H.size := h.lt
theorem Lpr.up {S : Nat → Prop} (h : Lpr H b r) (s : Mo S H H') (hS : ¬ S b) : Lpr H' b r := ⟨by rw [s.same b h.lt hS]; exact h.at_⟩
theorem Lpr.nw (h : Lpr H b r) (s : Nw H H') : Lpr H' b r := h.up s (fun e => e)
theorem Lpr.upL (h : Lpr H b r) (s : Mo (Ms ks) H H') (d : DL (b + 1) ks) : Lpr H' b r := h.up s (fun h2 => d (b + 1) h2 b rfl rfl)
instance : Hp (Lpr H b r) H H' (Lpr H' b r) := ⟨fun s h => h.nw s⟩
instance : Hv (Lpr H b r) H H' (Lpr H' b r) (Dj (b + 1)) := ⟨fun s h d => h.upL s (DL.o d)⟩
theorem Dfr.lt (h : Dfr H b) : b < H.size := (Array.getElem?_eq_some_iff.1 h.at_).1
theorem Dfr.le (h : Dfr H b) : b + 1 ≤ H.size := h.lt
theorem Dfr.up {S : Nat → Prop} (h : Dfr H b) (s : Mo S H H') (hS : ¬ S b) : Dfr H' b := ⟨by rw [s.same b h.lt hS]; exact h.at_⟩
theorem Dfr.nw (h : Dfr H b) (s : Nw H H') : Dfr H' b := h.up s (fun e => e)
theorem Dfr.upL (h : Dfr H b) (s : Mo (Ms ks) H H') (d : DL (b + 1) ks) : Dfr H' b := h.up s (fun h2 => d (b + 1) h2 b rfl rfl)
instance : Hp (Dfr H b) H H' (Dfr H' b) := ⟨fun s h => h.nw s⟩
instance : Hv (Dfr H b) H H' (Dfr H' b) (Dj (b + 1)) := ⟨fun s h d => h.upL s (DL.o d)⟩
end
theorem Var.le {e : TypeId} {H : Heap} {b : Nat} {cs : List Value} (h : Var e H b cs) : b + 1 ≤ H.size := h.lt
/-- operations in the text's order, within a fence that lets all in -/
def LRI (ro : Option Nat) (P : Program) (w0 : World) (ops : Array Oper) (Q : Exit → Act → World → Prop) (n : Nat) (l : FL) (rest : List Oper) (H : Heap) : Prop :=
  ∀ a w, Fr n l a → At w0 H w → wpListIn (FW ro) 0 P ops Q rest a w
/-- yield, called with these: a round -/
def YCt (P : Program) (w0 : World) (lp : Nat) (args : List Value) (H : Heap) (R : Value → Heap → Prop) : Prop :=
  ∀ w, At w0 H w → YieldAt (FW none) 0 P lp args.toArray w (fun e w' => ∃ r H', e = .returned r ∧ At w0 H' w' ∧ R r H')
section
variable {ro : Option Nat} {P : Program} {w0 : World} {Q : Exit → Act → World → Prop} {n : Nat} {l : FL} {H : Heap} {ops : Array Oper} {rest : List Oper} {o : Oper}
theorem LRI.nil (h : QN w0 Q n l H) : LRI ro P w0 ops Q n l [] H := fun a w hf ha => h a w hf ha
theorem LRI.v {v : Value} {d : Nat} (hy : Y P w0 n l H o v) (hnd : ∀ c, o.op ≠ .defer c) (hw : Wd ops l o) (hd : o.dst = some d) (hn : Nat.blt d n = true) (h : LRI ro P w0 ops Q n ((d, v) :: l) rest H) : LRI ro P w0 ops Q n l (o :: rest) H := by
  intro a w hf ha
  have hp := hf.put hn v
  rw [← hd] at hp
  unfold wpListIn
  rw [if_pos (hw n a hf)]
  refine ⟨fun _ _ => trivial, ?_⟩
  rw [Oper.semAt_eq _ _ _ hnd, hy a w hf ha]
  exact h _ w hp ha
theorem LRI.z {R : Value → Heap → Prop} {d : Nat} (hz : Z P w0 n l H o R) (hnd : ∀ c, o.op ≠ .defer c) (hw : Wd ops l o) (hd : o.dst = some d) (hn : Nat.blt d n = true) (h : ∀ v H', R v H' → LRI ro P w0 ops Q n ((d, v) :: l) rest H') : LRI ro P w0 ops Q n l (o :: rest) H := by
  intro a w hf ha
  obtain ⟨v, H', w', hr, ha', hR⟩ := hz a w hf ha
  have hp := hf.put hn v
  rw [← hd] at hp
  unfold wpListIn
  rw [if_pos (hw n a hf)]
  refine ⟨fun _ _ => trivial, ?_⟩
  rw [Oper.semAt_eq _ _ _ hnd, hr]
  exact h v H' hR _ w' hp ha'
theorem LRI.s {R : Heap → Prop} (hz : S P w0 n l H o R) (hnd : ∀ c, o.op ≠ .defer c) (hw : Wd ops l o) (hd : o.dst = none) (h : ∀ H', R H' → LRI ro P w0 ops Q n l rest H') : LRI ro P w0 ops Q n l (o :: rest) H := by
  intro a w hf ha
  obtain ⟨H', w', hr, ha', hR⟩ := hz a w hf ha
  unfold wpListIn
  rw [if_pos (hw n a hf)]
  refine ⟨fun _ _ => trivial, ?_⟩
  rw [Oper.semAt_eq _ _ _ hnd, hr]
  show wpListIn (FW ro) 0 P ops Q rest (a.put o.dst undef) w'
  rw [hd]
  exact h H' hR a w' hf ha'
theorem LRI.round {R : Value → Heap → Prop} {d lp : Nat} {c : Operand} {args : List Operand} {ats : Array TypeId} {vs : List Value} (ho : o.op = .call { callee := .value c, args := args.toArray, argTypes := ats })
    (hcv : opv l c = some (.func (.yield lp) #[] #[])) (hv : opvs l args = some vs) (hw : Wd ops l o) (hd : o.dst = some d) (hn : Nat.blt d n = true) (hc : YCt P w0 lp vs H R)
    (h : ∀ v H', R v H' → LRI none P w0 ops Q n ((d, v) :: l) rest H') : LRI none P w0 ops Q n l (o :: rest) H := by
  intro a w hf ha
  obtain ⟨fn, tmps, assign, body, hy, hr⟩ := hc w ha
  have he : (execOp a.eval o).run P w = .ok (.round lp fn tmps assign body) w := by
    have h2 := hf.evals hv
    have h3 : (args.toArray.map a.eval) = vs.toArray := by rw [List.map_toArray, h2]
    simp [execOp, ho, resolve, Deferred.ofValue, hf.eval hcv, invoke, h2, hy]
  unfold wpListIn
  rw [if_pos (hw n a hf)]
  refine ⟨fun _ _ => trivial, ?_⟩
  rw [Oper.semAt_eq _ _ _ (by intro c e; rw [ho] at e; cases e), he, Oper.uponIn_round]
  refine ⟨fun q => (by cases q), ?_⟩
  refine hr.mono ?_
  rintro e w' ⟨r, H', rfl, ha', hR⟩
  have hp := hf.put hn r
  rw [← hd] at hp
  exact h r H' hR _ w' hp ha'
theorem CW.region_in {id : Nat} {lo : List Oper} (h : LRI none P w0 lo.toArray Q n l lo H) : CW P w0 Q n l (.region id lo.toArray false) H :=
  fun a w hf ha => wpIn_wide.1 (wpIn_region_lit (h a w hf ha))
theorem LRI.mono {Q2 : Exit → Act → World → Prop} (hq : ∀ e a w, Q e a w → Q2 e a w) {id : Nat} {lo : List Oper} (h : LRI ro P w0 lo.toArray Q n l lo H) {a : Act} {w : World} (hf : Fr n l a) (ha : At w0 H w) : (Code.region id lo.toArray false).wpIn (FW ro) 0 P Q2 a w :=
  Code.wpIn_mono hq (wpIn_region_lit (h a w hf ha))
/-- a round out of the walks of its two pieces of code -/
theorem YCt.of {r : Loop} {x : Value} {p lp ida idb idc : Nat} {la lb : List Oper} {R : Value → Heap → Prop} (hl : Lpr H lp r) (hst : r.state = .ready) (hpe : r.pending = none) (hps : r.params = #[p]) (hA : r.assign = .region ida la.toArray false) (hB : r.body = .block idb (.region idc lb.toArray false))
    (hf : Fr n l { tmps := r.tmps.setIfInBounds p x, defers := [] })
    (h : LRI (some lp) P w0 la.toArray (fun e a1 w1 => e = .normal ∧ ∃ l2 H2, Fr n l2 a1 ∧ At w0 H2 w1 ∧ Lpr H2 lp r ∧
      LRI (some lp) P w0 lb.toArray (fun e a3 w3 => e = .normal ∧ ∃ H3, At w0 H3 w3 ∧ Lpr H3 lp { r with state := .busy } ∧ R (.bool true) (H3.setIfInBounds lp (.loop r))) n l2 lb (H2.setIfInBounds lp (.loop { r with state := .busy }))) n l la H) :
    YCt P w0 lp [x] H R := by
  intro w ha
  have hlw : w.heap[lp]? = some (.loop r) := by rw [ha.heap]; exact hl.at_
  refine ⟨r.fn, r.tmps.setIfInBounds p x, r.assign, r.body, ?_, ?_⟩
  · have := run_yield (P := P) (args := #[x]) hlw (by rw [hps]; rfl)
    rw [hps] at this
    simpa using this
  · refine roundIn_of_wpIn (F := FW none) trivial ?_
    rw [hA, hB]
    refine LRI.mono (ro := some lp) ?_ h hf ha
    rintro e a1 w1 ⟨rfl, l2, H2, hf2, ha2, hl2, hb⟩
    have hlw2 : w1.heap[lp]? = some (.loop r) := by rw [ha2.heap]; exact hl2.at_
    refine ⟨_, run_beginRound (P := P) hlw2 hst, ?_⟩
    have ha3 : At w0 (H2.setIfInBounds lp (.loop { r with state := .busy })) (w1.putObj lp (.loop { r with state := .busy })) := by
      unfold World.putObj
      rw [ha2.heap]
      exact ha2.set
    refine wpIn_block ?_
    refine LRI.mono (ro := some lp) ?_ hb hf2 ha3
    rintro e a3 w3 ⟨rfl, H3, ha4, hl4, hR⟩
    have hlw4 : w3.heap[lp]? = some (.loop { r with state := .busy }) := by rw [ha4.heap]; exact hl4.at_
    refine ⟨_, _, run_endRound (P := P) none hlw4, .bool true, H3.setIfInBounds lp (.loop r), rfl, ?_, hR⟩
    have hr2 : ({ ({ r with state := .busy } : Loop) with state := if (none : Option Code).isNone then .ready else .done, pending := none } : Loop) = r := by
      cases r
      simp only at hst hpe
      subst hst hpe
      rfl
    rw [hr2]
    unfold World.putObj
    rw [ha4.heap]
    exact ha4.set
end
end Go.Proofs.YtfbfjhppppoilaaDoor.E
