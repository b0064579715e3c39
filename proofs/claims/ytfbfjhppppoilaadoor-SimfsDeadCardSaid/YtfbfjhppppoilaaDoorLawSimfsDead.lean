/-
  From the operation on at which it was to stop a disk does nothing, and tells nothing, till it crashes: for all arguments; the library variable MaxLen may hold any number.
-/
import Derived.Deep.DeepHandedRow
import Derived.LaidMore
import Derived.Lay
import Derived.SevenTiedAt
import Derived.Shelf.Vars
import Derived.Stop.Joined
import Derived.Test.YtfbfjhppppoilaaDoorSimYB
import Derived.Test.YtfbfjhppppoilaaDoorReadW
import Derived.Test.YtfbfjhppppoilaaDoorCards
import Derived.Test.YtfbfjhppppoilaaDoorTie
namespace Go.Proofs.YtfbfjhppppoilaaDoor.LawSimfsDead
open Go.Proofs.YtfbfjhppppoilaaDoor.E Go.RowKit Go.Proofs.YtfbfjhppppoilaaDoor.SimA Go.Proofs.YtfbfjhppppoilaaDoor.SimB Go.Proofs.YtfbfjhppppoilaaDoor.SimC Go.Proofs.YtfbfjhppppoilaaDoor.SimD Go.Proofs.YtfbfjhppppoilaaDoor.SimE Go.Proofs.YtfbfjhppppoilaaDoor.SimF Go.Proofs.YtfbfjhppppoilaaDoor.SimG Go.Proofs.YtfbfjhppppoilaaDoor.SimH Go.Proofs.YtfbfjhppppoilaaDoor.SimI Go.Proofs.YtfbfjhppppoilaaDoor.SimJ Go.Proofs.YtfbfjhppppoilaaDoor.SimK Go.Proofs.YtfbfjhppppoilaaDoor.SimL Go.Proofs.YtfbfjhppppoilaaDoor.SimM Go.Proofs.YtfbfjhppppoilaaDoor.SimN Go.Proofs.YtfbfjhppppoilaaDoor.SimP Go.Proofs.YtfbfjhppppoilaaDoor.SimQ Go.Proofs.YtfbfjhppppoilaaDoor.SimR Go.Proofs.YtfbfjhppppoilaaDoor.SimS Go.Proofs.YtfbfjhppppoilaaDoor.SimU Go.Proofs.YtfbfjhppppoilaaDoor.SimY Go.Proofs.YtfbfjhppppoilaaDoor.SimYA Go.Proofs.YtfbfjhppppoilaaDoor.SimZ Go.Proofs.YtfbfjhppppoilaaDoor.SimYB
set_option maxRecDepth 20000
set_option linter.unusedVariables false
set_option linter.unusedSimpArgs false
set_option linter.unusedSectionVars false
namespace lawSimfsDead
open Go.ChangeShapes Go.WideShapes Go.ChangeAt Go.RowKit
open Go.ChangeMaps (open_string shut_string)
theorem own : ownKnob Tryd.prog.godebug = none := by kernel_rfl
theorem laidOut : laidOutB Tryd.prog = true := by kernel_rfl
theorem contract (H : Type) (enc : TypeId × Value → H) (W : World) (base : Nat) (args : Array Value) (ds gs : List (DataW H)) (before : List MemPlace)
    (hval : ∀ (j : Nat) t v, Tryd.f10.params[j]? = some t → args[j]? = some v → Value.okWide Tryd.prog W .any base t v)
    (hW : DataW.Whole enc Tryd.prog Tryd.f10.params.toList Rows.simfsDeadSpec.vars false W args.toList ds gs before) (hz : (DataW.weightsEach Tryd.prog (Tryd.f10.params.toList ++ Rows.simfsDeadSpec.plain.varTypes Tryd.prog) (ds ++ gs)).all (· ≤ reachBytes) = true) (hsh : W.ShapedOpen Tryd.prog) :
    Calls Tryd.prog 10 args W fun e W' => ∃ v, e = .returned v ∧ Rows.simfsDeadSpec.post enc Tryd.prog Tryd.f10 false true false false W args v W' := by
  have hW' := hW
  obtain ⟨p, q, hA0, hV, rfl, hfz, hnd⟩ := hW
  have hA : DataW.TrodAll enc Tryd.prog W 0 (fun _ => true) true Tryd.f10.params.toList args.toList ds p := hA0
  rw [Tryd.params10] at hA hval
  obtain ⟨v0, vs0, d0, ds0, p0, q0, hargs, rfl, rfl, h0, r0⟩ := trodAll_cons hA
  obtain ⟨v1, vs1, d1, ds1, p1, q1, rfl, rfl, rfl, h1, r1⟩ := trodAll_cons r0
  obtain ⟨rfl, rfl, rfl⟩ := trodAll_nil r1
  obtain rfl : args = #[v0, v1] := by cases args; simp_all
  obtain ⟨rfl, rfl⟩ := trodVars_none hV
  obtain ⟨a0, rfl, rfl, rfl, w0⟩ := open_int Tryd.underlying3 (hval 0 3 v0 rfl rfl) h0
  obtain ⟨a1, len1, cap1, rfl⟩ := okWide_slice Tryd.underlying49 (hval 1 49 v1 rfl rfl)
  have k1 := h1
  have lt1 : ∀ x ∈ p1, x.block < W.heap.size := by obtain ⟨m, hm⟩ := k1; exact DataW.trod_lt m _ _ _ hm
  obtain ⟨l1, rd1, mm1, hl1⟩ := read_calls rfl Tryd.underlying49 Tryd.underlying51 (by kernel_rfl) rfl rfl rfl rfl rfl rfl (by kernel_rfl) (by kernel_rfl) (by kernel_rfl) (by kernel_rfl) (by kernel_rfl) (by kernel_rfl) Tryd.underlying3 Tryd.underlying3 Tryd.underlying9 Tryd.underlying9 Tryd.underlying25 Tryd.underlying35 Tryd.underlying5 (by kernel_rfl) Tryd.underlying3 (by kernel_rfl) h1
  clear hA0
  simp only [List.append_nil] at hW'
  have wt1 : Wt Tryd.prog 49 _ := Wt.of hz (j := 1) rfl rfl
  obtain ⟨mx_, mx, bf_mx⟩ := mx_of hsh
  have hct : Ct Tryd.prog W 10 #[.int .i64 a0, .slice a1 len1 cap1] W.heap (fun r H2 => r = .bool true ∧ Nw W.heap H2) := sdead_ct mx_ ⟨a1, len1, cap1⟩ a0 l1 W W.heap mx bf_mx rd1 (fun x h => (mm1 x h).1.1) (fun x h => (mm1 x h).2) (i64_of w0)
  refine (hct W ⟨rfl, rfl, rfl, rfl, Nat.le_refl _⟩).mono ?_
  rintro e W' ⟨r, H', rfl, ha', rfl, hnw⟩
  have bel : Below W.heap.size W W' := ⟨ha'.os, ha'.tape, ha'.output, by rw [ha'.heap]; exact hnw.size, fun k hk => by rw [ha'.heap]; exact hnw.same k hk (fun e => e)⟩
  exact ⟨_, rfl, _, _, _, [], _, [], hW', trodAll_mk1 (shut_bool Tryd.underlying4 _), (trodAll_cons_mk (shut_int Tryd.underlying3 w0) (trodAll_cons_mk (Below.trod laidOut (by kernel_rfl) (of_decide_eq_true (by kernel_rfl)) k1 bel lt1) trodAll_mk0)), rfl, bel.frame _, fun h => by cases h⟩
theorem laid_met (os : Os) : laidMetH Tryd.prog Rows.simfsDeadRow.laid ((World.laidAll Tryd.prog os Rows.simfsDeadRow.laid).forCall (fun _ _ => 0) ⟨#[], #[.int .i64 0, .slice none 0 0], []⟩).memory := by
  rw [MakeChecks.laidMetH_plain _ _ _ (by kernel_rfl)]; exact laidMet_laidAll _ (by kernel_rfl) (by kernel_rfl)
theorem reads (os : Os) {H : Type} (enc : TypeId × Value → H) : ∃ places, DataW.whole enc Tryd.prog ((World.laidAll Tryd.prog os Rows.simfsDeadRow.laid).forCall (fun _ _ => 0) ⟨#[], #[.int .i64 0, .slice none 0 0], []⟩).memory Tryd.f10.params.toList Rows.simfsDeadSpec.vars false (#[.int .i64 0, .slice none 0 0] : Array Value).toList 8 = some ([.lit (.int .i64 0), .nil], [], places) :=
  ⟨[], by kernel_rfl⟩
set_option maxRecDepth 100000 in
theorem lifted (os : Os) (started : os.Started) (H : Type) (enc : TypeId × Value → H) (F : Stop.Interp) :
    ReturnsInHanded {} Tryd.checked os 10 .any ((OpenSpec.ofChange Rows.simfsDeadSpec).preRow enc Tryd.prog Tryd.f10 Rows.simfsDeadRow.domain false Rows.simfsDeadRow.laid) (((OpenSpec.ofChange Rows.simfsDeadSpec).at F).post enc Tryd.prog Tryd.f10 false true false false) := by
  obtain ⟨places, hx⟩ := reads os enc
  refine returnsInHanded_of_row (C := Tryd.checked) (s := OpenSpec.ofChange Rows.simfsDeadSpec) own started (by kernel_rfl) Tryd.func10
    ⟨World.laidAll Tryd.prog os Rows.simfsDeadRow.laid, fun _ _ => 0, ⟨#[], #[.int .i64 0, .slice none 0 0], []⟩, World.laidAll_os _ _ _, World.shaped_of_ZipB (by kernel_rfl) (by kernel_rfl), rfl, (Input.okWide_of_okWideB (by kernel_rfl)).2,
      OpenSpec.preRow_of_cond 8 hx (by kernel_rfl) (fun k hk => by cases hk) (by kernel_rfl) (laid_met os), by simp only [Assume.holds]; exact ⟨by simp, by simp, fun _ => Modest.zero, by simp, by simp⟩⟩ ?_
  intro W base args ds gs before hval hW _ hcond hz _ hsh _
  exact contract H enc W base args ds gs before hval hW hz hsh
theorem said : Rows.SimfsDeadSaid :=
  OpenClaim.holds_of_cond 10 Tryd.f10 rfl rfl rfl rfl rfl rfl rfl ⟨rfl, rfl, rfl, rfl, rfl⟩ rfl rfl rfl rfl rfl (by kernel_rfl) Tryd.func10 (by kernel_rfl)
    (of_decide_eq_true (by kernel_rfl)) (by unfold Func.isWrapper; first | (rw [if_pos (by decide +kernel)]; kernel_rfl) | (rw [if_neg (by decide +kernel)]; exact ⟨rfl, rfl⟩))
    (fun os started H enc _ F => by rw [OpenClaim.pre_eq_preRow]; exact lifted os started H enc F)
theorem plain (f : FuncId) (fn : Func) (hf : Tryd.pinned.checked.prog.funcNamed "selvage/selvagelaw2.SimfsDead" = some f) (hfn : Tryd.pinned.checked.prog.funcs[f]? = some fn) :
    true = Tryd.pinned.checked.prog.looks [] ∧ ∀ (j : Nat) t, fn.params[j]? = some t → Tryd.pinned.checked.prog.wantsStandIn t = false := by
  obtain rfl : f = 10 := Option.some.inj ((show Tryd.prog.funcNamed "selvage/selvagelaw2.SimfsDead" = some 10 by kernel_rfl).symm.trans hf) |>.symm
  obtain rfl : fn = Tryd.f10 := (Option.some.inj (Tryd.func10.symm.trans hfn)).symm
  refine ⟨by kernel_rfl, fun j t ht => ?_⟩
  rw [Tryd.params10] at ht
  have hm : t ∈ [3, 49] := by simpa using Array.mem_of_getElem? ht
  have hall : ([3, 49].all fun u => !Tryd.prog.wantsStandIn u) = true := by kernel_rfl
  exact (show Tryd.prog.wantsStandIn t = false by simpa using List.all_eq_true.1 hall t hm)
/-- the card -/
theorem proved : Rows.SimfsDeadCardSaid :=
  Claim7.holds_tied_plain_at .later [] _ _ _ _ said (fun _ h => by cases h) (by kernel_rfl) (fun _ h => by cases h) simfsDead_row_tie rfl ⟨rfl, rfl⟩ (by kernel_rfl) rfl plain (by kernel_rfl)
end lawSimfsDead
end Go.Proofs.YtfbfjhppppoilaaDoor.LawSimfsDead
