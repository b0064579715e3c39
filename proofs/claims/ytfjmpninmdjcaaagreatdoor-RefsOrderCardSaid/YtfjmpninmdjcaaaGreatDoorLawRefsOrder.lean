/-
  Whatever order references came in, a state tells them, and their logs, and conflicts, rising, each once: for all arguments; the library variable MaxLen may hold any number.
-/
import Derived.Deep.DeepHandedRow
import Derived.LaidMore
import Derived.Lay
import Derived.SevenTiedAt
import Derived.Shelf.Vars
import Derived.Stop.Joined
import Derived.Test.YtfjmpninmdjcaaaGreatDoorGf
import Derived.Test.YtfjmpninmdjcaaaGreatDoorCards
import Derived.Test.YtfjmpninmdjcaaaGreatDoorTie
namespace Go.Proofs.YtfjmpninmdjcaaaGreatDoor.LawRefsOrder
open Go.Proofs.YtfjmpninmdjcaaaGreatDoor.E Go.RowKit Go.Proofs.YtfjmpninmdjcaaaGreatDoor.SimA Go.Proofs.YtfjmpninmdjcaaaGreatDoor.SimR Go.Proofs.YtfjmpninmdjcaaaGreatDoor.RefN
set_option maxRecDepth 20000
set_option linter.unusedVariables false
set_option linter.unusedSimpArgs false
set_option linter.unusedSectionVars false
namespace lawRefsOrder
open Go.ChangeShapes Go.WideShapes Go.ChangeAt Go.RowKit
open Go.ChangeMaps (open_string shut_string)
theorem own : ownKnob Tryz.prog.godebug = none := by kernel_rfl
theorem laidOut : laidOutB Tryz.prog = true := by kernel_rfl
theorem contract (H : Type) (enc : TypeId × Value → H) (W : World) (base : Nat) (args : Array Value) (ds gs : List (DataW H)) (before : List MemPlace)
    (hval : ∀ (j : Nat) t v, Tryz.f6.params[j]? = some t → args[j]? = some v → Value.okWide Tryz.prog W .any base t v)
    (hW : DataW.Whole enc Tryz.prog Tryz.f6.params.toList Rows.refsOrderSpec.vars false W args.toList ds gs before) (hz : (DataW.weightsEach Tryz.prog (Tryz.f6.params.toList ++ Rows.refsOrderSpec.plain.varTypes Tryz.prog) (ds ++ gs)).all (· ≤ reachBytes) = true) (hsh : W.ShapedOpen Tryz.prog) :
    Calls Tryz.prog 6 args W fun e W' => ∃ v, e = .returned v ∧ Rows.refsOrderSpec.post enc Tryz.prog Tryz.f6 false true false false W args v W' := by
  have hW' := hW
  obtain ⟨p, q, hA0, hV, rfl, hfz, hnd⟩ := hW
  have hA : DataW.TrodAll enc Tryz.prog W 0 (fun _ => true) true Tryz.f6.params.toList args.toList ds p := hA0
  rw [Tryz.params6] at hA hval
  obtain ⟨v0, vs0, d0, ds0, p0, q0, hargs, rfl, rfl, h0, r0⟩ := trodAll_cons hA
  obtain ⟨v1, vs1, d1, ds1, p1, q1, rfl, rfl, rfl, h1, r1⟩ := trodAll_cons r0
  obtain ⟨rfl, rfl, rfl⟩ := trodAll_nil r1
  obtain rfl : args = #[v0, v1] := by cases args; simp_all
  obtain ⟨rfl, rfl⟩ := trodVars_none hV
  obtain ⟨a0, len0, cap0, rfl⟩ := okWide_slice Tryz.underlying69 (hval 0 69 v0 rfl rfl)
  have k0 := h0
  have lt0 : ∀ x ∈ p0, x.block < W.heap.size := by obtain ⟨m, hm⟩ := k0; exact DataW.trod_lt m _ _ _ hm
  obtain ⟨l0, rd0, hl0⟩ := read_strsW rfl Tryz.underlying69 Tryz.underlying9 (by kernel_rfl) h0
  obtain ⟨a1, rfl, rfl, rfl, w1⟩ := open_int Tryz.underlying3 (hval 1 3 v1 rfl rfl) h1
  clear hA0
  simp only [List.append_nil] at hW'
  have wt0 : Wt Tryz.prog 69 _ := Wt.of hz (j := 0) rfl rfl
  obtain ⟨mx_, mx, bf_mx⟩ := mx_of hsh
  have hct : Ct Tryz.prog W 6 #[.slice a0 len0 cap0, .int .i64 a1] W.heap (fun r H2 => r = .bool true ∧ Nw W.heap H2) := refsOrder_ct mx_ ⟨a0, len0, cap0⟩ l0 a1 W W.heap mx bf_mx rd0 (fun x h => Nat.le_trans ((hl0 wt0).2 x h) (by decide)) (i64_of w1)
  refine (hct W ⟨rfl, rfl, rfl, rfl, Nat.le_refl _⟩).mono ?_
  rintro e W' ⟨r, H', rfl, ha', rfl, hnw⟩
  have bel : Below W.heap.size W W' := ⟨ha'.os, ha'.tape, ha'.output, by rw [ha'.heap]; exact hnw.size, fun k hk => by rw [ha'.heap]; exact hnw.same k hk (fun e => e)⟩
  exact ⟨_, rfl, _, _, _, [], _, [], hW', trodAll_mk1 (shut_bool Tryz.underlying4 _), (trodAll_cons_mk (Below.trod laidOut (by kernel_rfl) (of_decide_eq_true (by kernel_rfl)) k0 bel lt0) (trodAll_cons_mk (shut_int Tryz.underlying3 w1) trodAll_mk0)), rfl, bel.frame _, fun h => by cases h⟩
theorem laid_met (os : Os) : laidMetH Tryz.prog Rows.refsOrderRow.laid ((World.laidAll Tryz.prog os Rows.refsOrderRow.laid).forCall (fun _ _ => 0) ⟨#[], #[.slice none 0 0, .int .i64 0], []⟩).memory := by
  rw [MakeChecks.laidMetH_plain _ _ _ (by kernel_rfl)]; exact laidMet_laidAll _ (by kernel_rfl) (by kernel_rfl)
theorem reads (os : Os) {H : Type} (enc : TypeId × Value → H) : ∃ places, DataW.whole enc Tryz.prog ((World.laidAll Tryz.prog os Rows.refsOrderRow.laid).forCall (fun _ _ => 0) ⟨#[], #[.slice none 0 0, .int .i64 0], []⟩).memory Tryz.f6.params.toList Rows.refsOrderSpec.vars false (#[.slice none 0 0, .int .i64 0] : Array Value).toList 8 = some ([.nil, .lit (.int .i64 0)], [], places) :=
  ⟨[], by kernel_rfl⟩
set_option maxRecDepth 100000 in
theorem lifted (os : Os) (started : os.Started) (H : Type) (enc : TypeId × Value → H) (F : Stop.Interp) :
    ReturnsInHanded {} Tryz.checked os 6 .any ((OpenSpec.ofChange Rows.refsOrderSpec).preRow enc Tryz.prog Tryz.f6 Rows.refsOrderRow.domain false Rows.refsOrderRow.laid) (((OpenSpec.ofChange Rows.refsOrderSpec).at F).post enc Tryz.prog Tryz.f6 false true false false) := by
  obtain ⟨places, hx⟩ := reads os enc
  refine returnsInHanded_of_row (C := Tryz.checked) (s := OpenSpec.ofChange Rows.refsOrderSpec) own started (by kernel_rfl) Tryz.func6
    ⟨World.laidAll Tryz.prog os Rows.refsOrderRow.laid, fun _ _ => 0, ⟨#[], #[.slice none 0 0, .int .i64 0], []⟩, World.laidAll_os _ _ _, World.shaped_of_ZipB (by kernel_rfl) (by kernel_rfl), rfl, (Input.okWide_of_okWideB (by kernel_rfl)).2,
      OpenSpec.preRow_of_cond 8 hx (by kernel_rfl) (fun k hk => by cases hk) (by kernel_rfl) (laid_met os), by simp only [Assume.holds]; exact ⟨by simp, by simp, fun _ => Modest.zero, by simp, by simp⟩⟩ ?_
  intro W base args ds gs before hval hW _ hcond hz _ hsh _
  exact contract H enc W base args ds gs before hval hW hz hsh
theorem said : Rows.RefsOrderSaid :=
  OpenClaim.holds_of_cond 6 Tryz.f6 rfl rfl rfl rfl rfl rfl rfl ⟨rfl, rfl, rfl, rfl, rfl⟩ rfl rfl rfl rfl rfl (by kernel_rfl) Tryz.func6 (by kernel_rfl)
    (of_decide_eq_true (by kernel_rfl)) (by unfold Func.isWrapper; first | (rw [if_pos (by decide +kernel)]; kernel_rfl) | (rw [if_neg (by decide +kernel)]; exact ⟨rfl, rfl⟩))
    (fun os started H enc _ F => by rw [OpenClaim.pre_eq_preRow]; exact lifted os started H enc F)
theorem plain (f : FuncId) (fn : Func) (hf : Tryz.pinned.checked.prog.funcNamed "selvage/selvagelaw10.RefsOrder" = some f) (hfn : Tryz.pinned.checked.prog.funcs[f]? = some fn) :
    true = Tryz.pinned.checked.prog.looks [] ∧ ∀ (j : Nat) t, fn.params[j]? = some t → Tryz.pinned.checked.prog.wantsStandIn t = false := by
  obtain rfl : f = 6 := Option.some.inj ((show Tryz.prog.funcNamed "selvage/selvagelaw10.RefsOrder" = some 6 by kernel_rfl).symm.trans hf) |>.symm
  obtain rfl : fn = Tryz.f6 := (Option.some.inj (Tryz.func6.symm.trans hfn)).symm
  refine ⟨by kernel_rfl, fun j t ht => ?_⟩
  rw [Tryz.params6] at ht
  have hm : t ∈ [69, 3] := by simpa using Array.mem_of_getElem? ht
  have hall : ([69, 3].all fun u => !Tryz.prog.wantsStandIn u) = true := by kernel_rfl
  exact (show Tryz.prog.wantsStandIn t = false by simpa using List.all_eq_true.1 hall t hm)
/-- the card -/
theorem proved : Rows.RefsOrderCardSaid :=
  Claim7.holds_tied_plain_at .later [] _ _ _ _ said (fun _ h => by cases h) (by kernel_rfl) (fun _ h => by cases h) refsOrder_row_tie rfl ⟨rfl, rfl⟩ (by kernel_rfl) rfl plain (by kernel_rfl)
end lawRefsOrder
end Go.Proofs.YtfjmpninmdjcaaaGreatDoor.LawRefsOrder
