/-
  As many references, as many conflicts, as may be are taken, one more is not: for all arguments; the library variable MaxLen may hold any number.
-/
import Derived.Deep.DeepHandedRow
import Derived.LaidMore
import Derived.Lay
import Derived.SevenTiedAt
import Derived.Shelf.Vars
import Derived.Stop.Joined
import Derived.Test.YtfjmpninmdjcaaaGreatDoorGf
import Derived.Test.YtfjmpninmdjcaaaGreatDoorGc
import Derived.SizedLaws
import Derived.Test.YtfjmpninmdjcaaaGreatDoorCards
import Derived.Test.YtfjmpninmdjcaaaGreatDoorTie
namespace Go.Proofs.YtfjmpninmdjcaaaGreatDoor.LawRefsMany
open Go.Proofs.YtfjmpninmdjcaaaGreatDoor.E Go.RowKit Go.Proofs.YtfjmpninmdjcaaaGreatDoor.SimA Go.Proofs.YtfjmpninmdjcaaaGreatDoor.SimR Go.Proofs.YtfjmpninmdjcaaaGreatDoor.RefM
set_option maxRecDepth 20000
set_option linter.unusedVariables false
set_option linter.unusedSimpArgs false
set_option linter.unusedSectionVars false
namespace lawRefsMany
open Go.ChangeShapes Go.WideShapes Go.ChangeAt Go.RowKit
open Go.ChangeMaps (open_string shut_string)
theorem own : ownKnob Tryz.prog.godebug = none := by kernel_rfl
theorem contract (H : Type) (enc : TypeId × Value → H) (W : World) (base : Nat) (args : Array Value) (ds gs : List (DataW H)) (before : List MemPlace)
    (hval : ∀ (j : Nat) t v, Tryz.f5.params[j]? = some t → args[j]? = some v → Value.okWide Tryz.prog W .any base t v)
    (hW : DataW.Whole enc Tryz.prog Tryz.f5.params.toList Rows.refsManySpec.vars false W args.toList ds gs before) (hz : (DataW.weightsEach Tryz.prog (Tryz.f5.params.toList ++ Rows.refsManySpec.plain.varTypes Tryz.prog) (ds ++ gs)).all (· ≤ reachBytes) = true) (hsh : W.ShapedOpen Tryz.prog) :
    Calls Tryz.prog 5 args W fun e W' => ∃ v, e = .returned v ∧ Rows.refsManySpec.post enc Tryz.prog Tryz.f5 false true false false W args v W' := by
  have hW' := hW
  obtain ⟨p, q, hA0, hV, rfl, hfz, hnd⟩ := hW
  have hA : DataW.TrodAll enc Tryz.prog W 0 (fun _ => true) true Tryz.f5.params.toList args.toList ds p := hA0
  rw [Tryz.params5] at hA hval
  obtain ⟨v0, vs0, d0, ds0, p0, q0, hargs, rfl, rfl, h0, r0⟩ := trodAll_cons hA
  obtain ⟨v1, vs1, d1, ds1, p1, q1, rfl, rfl, rfl, h1, r1⟩ := trodAll_cons r0
  obtain ⟨rfl, rfl, rfl⟩ := trodAll_nil r1
  obtain rfl : args = #[v0, v1] := by cases args; simp_all
  obtain ⟨rfl, rfl⟩ := trodVars_none hV
  obtain ⟨a0, rfl, rfl, rfl, w0⟩ := open_int Tryz.underlying3 (hval 0 3 v0 rfl rfl) h0
  obtain ⟨a1, rfl, rfl, rfl⟩ := open_bool Tryz.underlying4 (hval 1 4 v1 rfl rfl) h1
  clear hA0
  simp only [List.append_nil] at hW'
  obtain ⟨mx_, mx, bf_mx⟩ := mx_of hsh
  have hct : Ct Tryz.prog W 5 #[.int .i64 a0, .bool a1] W.heap (fun r H2 => r = .bool true ∧ Nw W.heap H2) := refsMany_ct mx_ a0 a1 W W.heap mx bf_mx (i64_of w0)
  refine (hct W ⟨rfl, rfl, rfl, rfl, Nat.le_refl _⟩).mono ?_
  rintro e W' ⟨r, H', rfl, ha', rfl, hnw⟩
  have bel : Below W.heap.size W W' := ⟨ha'.os, ha'.tape, ha'.output, by rw [ha'.heap]; exact hnw.size, fun k hk => by rw [ha'.heap]; exact hnw.same k hk (fun e => e)⟩
  exact ⟨_, rfl, _, _, _, [], _, [], hW', trodAll_mk1 (shut_bool Tryz.underlying4 _), (trodAll_cons_mk (shut_int Tryz.underlying3 w0) (trodAll_cons_mk (shut_bool Tryz.underlying4 _) trodAll_mk0)), rfl, bel.frame _, fun h => by cases h⟩
theorem laid_met (os : Os) : laidMetH Tryz.prog Rows.refsManyRow.laid ((World.laidAll Tryz.prog os Rows.refsManyRow.laid).forCall (fun _ _ => 0) ⟨#[], #[.int .i64 0, .bool false], []⟩).memory := by
  rw [MakeChecks.laidMetH_plain _ _ _ (by kernel_rfl)]; exact laidMet_laidAll _ (by kernel_rfl) (by kernel_rfl)
theorem reads (os : Os) {H : Type} (enc : TypeId × Value → H) : ∃ places, DataW.whole enc Tryz.prog ((World.laidAll Tryz.prog os Rows.refsManyRow.laid).forCall (fun _ _ => 0) ⟨#[], #[.int .i64 0, .bool false], []⟩).memory Tryz.f5.params.toList Rows.refsManySpec.vars false (#[.int .i64 0, .bool false] : Array Value).toList 8 = some ([.lit (.int .i64 0), .lit (.bool false)], [], places) :=
  ⟨[], by kernel_rfl⟩
set_option maxRecDepth 100000 in
theorem lifted (os : Os) (started : os.Started) (H : Type) (enc : TypeId × Value → H) (F : Stop.Interp) :
    ReturnsInHanded {} Tryz.checked os 5 .any ((OpenSpec.ofChange Rows.refsManySpec).preRow enc Tryz.prog Tryz.f5 Rows.refsManyRow.domain false Rows.refsManyRow.laid) (((OpenSpec.ofChange Rows.refsManySpec).at F).post enc Tryz.prog Tryz.f5 false true false false) := by
  obtain ⟨places, hx⟩ := reads os enc
  refine returnsInHanded_of_row (C := Tryz.checked) (s := OpenSpec.ofChange Rows.refsManySpec) own started (by kernel_rfl) Tryz.func5
    ⟨World.laidAll Tryz.prog os Rows.refsManyRow.laid, fun _ _ => 0, ⟨#[], #[.int .i64 0, .bool false], []⟩, World.laidAll_os _ _ _, World.shaped_of_ZipB (by kernel_rfl) (by kernel_rfl), rfl, (Input.okWide_of_okWideB (by kernel_rfl)).2,
      OpenSpec.preRow_of_cond 8 hx (by kernel_rfl) (fun k hk => by cases hk) (by kernel_rfl) (laid_met os), by simp only [Assume.holds]; exact ⟨by simp, by simp, fun _ => Modest.zero, by simp, by simp⟩⟩ ?_
  intro W base args ds gs before hval hW _ hcond hz _ hsh _
  exact contract H enc W base args ds gs before hval hW hz hsh
theorem said : Rows.RefsManySaid :=
  OpenClaim.holds_of_cond 5 Tryz.f5 rfl rfl rfl rfl rfl rfl rfl ⟨rfl, rfl, rfl, rfl, rfl⟩ rfl rfl rfl rfl rfl (by kernel_rfl) Tryz.func5 (by kernel_rfl)
    (of_decide_eq_true (by kernel_rfl)) (by unfold Func.isWrapper; first | (rw [if_pos (by decide +kernel)]; kernel_rfl) | (rw [if_neg (by decide +kernel)]; exact ⟨rfl, rfl⟩))
    (fun os started H enc _ F => by rw [OpenClaim.pre_eq_preRow]; exact lifted os started H enc F)
theorem plain (f : FuncId) (fn : Func) (hf : Tryz.pinned.checked.prog.funcNamed "selvage/selvagelaw10.RefsMany" = some f) (hfn : Tryz.pinned.checked.prog.funcs[f]? = some fn) :
    true = Tryz.pinned.checked.prog.looks [] ∧ ∀ (j : Nat) t, fn.params[j]? = some t → Tryz.pinned.checked.prog.wantsStandIn t = false := by
  obtain rfl : f = 5 := Option.some.inj ((show Tryz.prog.funcNamed "selvage/selvagelaw10.RefsMany" = some 5 by kernel_rfl).symm.trans hf) |>.symm
  obtain rfl : fn = Tryz.f5 := (Option.some.inj (Tryz.func5.symm.trans hfn)).symm
  refine ⟨by kernel_rfl, fun j t ht => ?_⟩
  rw [Tryz.params5] at ht
  have hm : t ∈ [3, 4] := by simpa using Array.mem_of_getElem? ht
  have hall : ([3, 4].all fun u => !Tryz.prog.wantsStandIn u) = true := by kernel_rfl
  exact (show Tryz.prog.wantsStandIn t = false by simpa using List.all_eq_true.1 hall t hm)
/-- the card -/
theorem proved : Rows.RefsManyCardSaid :=
  Claim7.holds_tied_plain_at .later [] _ _ _ _ said (fun _ h => by cases h) (by kernel_rfl) (fun _ h => by cases h) refsMany_row_tie rfl ⟨rfl, rfl⟩ (by kernel_rfl) rfl plain (by kernel_rfl)
end lawRefsMany
end Go.Proofs.YtfjmpninmdjcaaaGreatDoor.LawRefsMany
