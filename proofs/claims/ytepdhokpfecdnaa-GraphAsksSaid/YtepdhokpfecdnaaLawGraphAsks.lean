/-
  Each call answers as the document says: for all arguments, no condition.
-/
import Derived.Test.YtepdhokpfecdnaaGf
namespace Go.Proofs.Ytepdhokpfecdnaa.LawGraphAsks
open Go.Proofs.Ytepdhokpfecdnaa.E Go.RowKit Go.Proofs.Ytepdhokpfecdnaa.GraP Go.Proofs.Ytepdhokpfecdnaa.GraZE
set_option maxRecDepth 20000
set_option linter.unusedVariables false
set_option linter.unusedSimpArgs false
set_option linter.unusedSectionVars false
section
open Go.ChangeShapes Go.WideShapes
variable {H : Type} {enc : TypeId × Value → H} {P : Program} {W : World} {base : Nat} {sp : Nat → Bool} {held : Bool}
theorem read_intses {t e ee : TypeId} {v : Value} {d : DataW H} {p : List MemPlace} (hv : v.cells = #[v]) (ht : P.underlying t = some (.slice e)) (he : P.underlying e = some (.slice ee)) (hee : P.underlying ee = some (.int .i64)) (hc : P.cellsOf e = 1) (hce : P.cellsOf ee = 1) (h : DataW.Trod enc P W base sp held t v d p) :
    ∃ l : List (SV × List Int), RdT W.heap fPi 1 v l ∧ (∀ x ∈ l, RdT W.heap fI 1 x.1.v x.2) ∧ ∀ x ∈ l, ∀ a ∈ x.2, i64b a := by
  obtain ⟨l, h1, h2, _⟩ := read_nested (fun v (l : List Int) => RdT W.heap (fun x => [Value.int .i64 x]) 1 v l ∧ ∀ x ∈ l, (Lit.int .i64 x).wf = true) (fun _ => 0) hv ht he hc (fun v d p hv h => by
    obtain ⟨l, h1, h2, h3⟩ := read_ints hv he hee hce h
    exact ⟨l, ⟨h1, h2⟩, Nat.zero_le _⟩) h
  exact ⟨l, h1, fun x hx => (h2 x hx).1, fun x hx a ha => i64_of ((h2 x hx).2 a ha)⟩
end

namespace lawGraphAsks
open Go.ChangeShapes Go.WideShapes Go.ChangeAt Go.RowKit
open Go.ChangeMaps (open_string shut_string)
theorem own : ownKnob Try.prog.godebug = none := by kernel_rfl
theorem laidOut : laidOutB Try.prog = true := by kernel_rfl
theorem contract (H : Type) (enc : TypeId × Value → H) (W : World) (base : Nat) (args : Array Value) (ds gs : List (DataW H)) (before : List MemPlace)
    (hval : ∀ (j : Nat) t v, Try.f8.params[j]? = some t → args[j]? = some v → Value.okWide Try.prog W .any base t v)
    (hW : DataW.Whole enc Try.prog Try.f8.params.toList Rows.graphAsksSpec.vars false W args.toList ds gs before) :
    Calls Try.prog 8 args W fun e W' => ∃ v, e = .returned v ∧ Rows.graphAsksSpec.post enc Try.prog Try.f8 false true false false W args v W' := by
  have hW' := hW
  obtain ⟨p, q, hA0, hV, rfl, hfz, hnd⟩ := hW
  have hA : DataW.TrodAll enc Try.prog W 0 (fun _ => true) true Try.f8.params.toList args.toList ds p := hA0
  rw [Try.params8] at hA hval
  obtain ⟨v0, vs0, d0, ds0, p0, q0, hargs, rfl, rfl, h0, r0⟩ := trodAll_cons hA
  obtain ⟨v1, vs1, d1, ds1, p1, q1, rfl, rfl, rfl, h1, r1⟩ := trodAll_cons r0
  obtain ⟨v2, vs2, d2, ds2, p2, q2, rfl, rfl, rfl, h2, r2⟩ := trodAll_cons r1
  obtain ⟨v3, vs3, d3, ds3, p3, q3, rfl, rfl, rfl, h3, r3⟩ := trodAll_cons r2
  obtain ⟨v4, vs4, d4, ds4, p4, q4, rfl, rfl, rfl, h4, r4⟩ := trodAll_cons r3
  obtain ⟨rfl, rfl, rfl⟩ := trodAll_nil r4
  obtain rfl : args = #[v0, v1, v2, v3, v4] := by cases args; simp_all
  obtain ⟨rfl, rfl⟩ := trodVars_none hV
  obtain ⟨a0, len0, cap0, rfl⟩ := okWide_slice Try.underlying22 (hval 0 22 v0 rfl rfl)
  have k0 := h0
  have lt0 : ∀ x ∈ p0, x.block < W.heap.size := by obtain ⟨m, hm⟩ := k0; exact DataW.trod_lt m _ _ _ hm
  obtain ⟨l0, rd0, ri0, wf0⟩ := read_intses rfl Try.underlying22 Try.underlying38 Try.underlying3 (by kernel_rfl) (by kernel_rfl) h0
  obtain ⟨a1, rfl, rfl, rfl, w1⟩ := open_int Try.underlying3 (hval 1 3 v1 rfl rfl) h1
  obtain ⟨a2, rfl, rfl, rfl, w2⟩ := open_int Try.underlying3 (hval 2 3 v2 rfl rfl) h2
  obtain ⟨a3, len3, cap3, rfl⟩ := okWide_slice Try.underlying38 (hval 3 38 v3 rfl rfl)
  have k3 := h3
  have lt3 : ∀ x ∈ p3, x.block < W.heap.size := by obtain ⟨m, hm⟩ := k3; exact DataW.trod_lt m _ _ _ hm
  obtain ⟨l3, rd3, wf3, hl3⟩ := read_ints rfl Try.underlying38 Try.underlying3 (by kernel_rfl) h3
  obtain ⟨a4, len4, cap4, rfl⟩ := okWide_slice Try.underlying38 (hval 4 38 v4 rfl rfl)
  have k4 := h4
  have lt4 : ∀ x ∈ p4, x.block < W.heap.size := by obtain ⟨m, hm⟩ := k4; exact DataW.trod_lt m _ _ _ hm
  obtain ⟨l4, rd4, wf4, hl4⟩ := read_ints rfl Try.underlying38 Try.underlying3 (by kernel_rfl) h4
  clear hA0
  simp only [List.append_nil] at hW'
  have hct : Ct Try.prog W 8 #[.slice a0 len0 cap0, .int .i64 a1, .int .i64 a2, .slice a3 len3 cap3, .slice a4 len4 cap4] W.heap (fun r H2 => r = .bool true ∧ Nw W.heap H2) := gask_ct _ l0 a1 a2 _ l3 _ l4 W W.heap rd0 ri0 wf0 (i64_of w1) (i64_of w2) rd3 (fun x hx => i64_of (wf3 x hx)) rd4 (fun x hx => i64_of (wf4 x hx))
  refine (hct W ⟨rfl, rfl, rfl, rfl, Nat.le_refl _⟩).mono ?_
  rintro e W' ⟨r, H', rfl, ha', rfl, hnw⟩
  have bel : Below W.heap.size W W' := ⟨ha'.os, ha'.tape, ha'.output, by rw [ha'.heap]; exact hnw.size, fun k hk => by rw [ha'.heap]; exact hnw.same k hk (fun e => e)⟩
  exact ⟨_, rfl, _, _, _, [], _, [], hW', trodAll_mk1 (shut_bool Try.underlying4 _), (trodAll_cons_mk (Below.trod laidOut (by kernel_rfl) (of_decide_eq_true (by kernel_rfl)) k0 bel lt0) (trodAll_cons_mk (shut_int Try.underlying3 w1) (trodAll_cons_mk (shut_int Try.underlying3 w2) (trodAll_cons_mk (Below.trod laidOut (by kernel_rfl) (of_decide_eq_true (by kernel_rfl)) k3 bel lt3) (trodAll_cons_mk (Below.trod laidOut (by kernel_rfl) (of_decide_eq_true (by kernel_rfl)) k4 bel lt4) trodAll_mk0))))), rfl, bel.frame _, fun h => by cases h⟩
set_option maxRecDepth 100000 in
theorem lifted (os : Os) (started : os.Started) (H : Type) (enc : TypeId × Value → H) :
    ReturnsInHanded {} Try.checked os 8 .any (Rows.graphAsksSpec.pre6 enc Try.prog Try.f8 Rows.graphAsksRow.domain false) (Rows.graphAsksSpec.post enc Try.prog Try.f8 false true false false) := by
  refine returnsInHanded_of_change (C := Try.checked) own started (by kernel_rfl) Try.func8
    (ChangeSpec.witness6 (enc := enc) (C := Try.checked) false ⟨#[], #[.slice none 0 0, .int .i64 0, .int .i64 0, .slice none 0 0, .slice none 0 0], []⟩ 8 (by kernel_rfl) (by kernel_rfl) (by kernel_rfl) (by kernel_rfl)) ?_
  intro W base args ds gs before hval hW _ _
  exact contract H enc W base args ds gs before hval hW
/-- the statement -/
theorem proved : Rows.GraphAsksSaid :=
  OpenClaim.holds_of_wide 8 Try.f8 rfl rfl rfl rfl rfl rfl rfl ⟨rfl, rfl, rfl, rfl, rfl⟩ rfl rfl rfl rfl rfl (by kernel_rfl) Try.func8 (by kernel_rfl)
    (of_decide_eq_true (by kernel_rfl)) (by unfold Func.isWrapper; first | (rw [if_pos (by decide +kernel)]; kernel_rfl) | (rw [if_neg (by decide +kernel)]; exact ⟨rfl, rfl⟩))
    (fun os started H enc _ => lifted os started H enc)
end lawGraphAsks
end Go.Proofs.Ytepdhokpfecdnaa.LawGraphAsks
