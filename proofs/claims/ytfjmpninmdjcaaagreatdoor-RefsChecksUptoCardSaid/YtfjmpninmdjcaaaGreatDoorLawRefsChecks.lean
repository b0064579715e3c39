/-
  On the states that some transactions make, any transaction is allowed or refused, and done, as the document says: for all arguments of a bulk of at most 1048576; the library variable MaxLen may hold any number.
-/
import Derived.Deep.DeepHandedRow
import Derived.LaidMore
import Derived.Lay
import Derived.SevenTiedAt
import Derived.Shelf.Vars
import Derived.Stop.Joined
import Derived.Test.YtfjmpninmdjcaaaGreatDoorGf
import Derived.Test.YtfjmpninmdjcaaaGreatDoorCards
import Derived.Test.YtfjmpninmdjcaaaGreatDoorTie
import Derived.Test.YtfjmpninmdjcaaaGreatDoorGb
namespace Go.Proofs.YtfjmpninmdjcaaaGreatDoor.LawRefsChecks
open Go.Proofs.YtfjmpninmdjcaaaGreatDoor.E Go.RowKit Go.Proofs.YtfjmpninmdjcaaaGreatDoor.ft Go.Proofs.YtfjmpninmdjcaaaGreatDoor.iZ Go.Proofs.YtfjmpninmdjcaaaGreatDoor.ev Go.Proofs.YtfjmpninmdjcaaaGreatDoor.eR Go.Proofs.YtfjmpninmdjcaaaGreatDoor.mu Go.Proofs.YtfjmpninmdjcaaaGreatDoor.uj Go.Proofs.YtfjmpninmdjcaaaGreatDoor.ui
set_option maxRecDepth 20000
set_option linter.unusedVariables false
set_option linter.unusedSimpArgs false
set_option linter.unusedSectionVars false
namespace lawRefsChecks
open Go.ChangeShapes Go.WideShapes Go.ChangeAt Go.RowKit
open Go.ChangeMaps (open_string shut_string)
theorem own : ownKnob Tryz.prog.godebug = none := by kernel_rfl
theorem laidOut : laidOutB Tryz.prog = true := by kernel_rfl
theorem CH (H : Type) (enc : TypeId × Value → H) (ch : World) (base : Nat) (args : Array Value) (ds gs : List (DataW H)) (before : List MemPlace)
    (o : ∀ (j : Nat) t v, Tryz.f7.params[j]? = some t → args[j]? = some v → Value.okWide Tryz.prog ch .any base t v)
    (G : DataW.Whole enc Tryz.prog Tryz.f7.params.toList Rows.refsChecksSpec.vars false ch args.toList ds gs before) (n : Rows.uptoSmall H (ds ++ gs) = true) (L : (DataW.weightsEach Tryz.prog (Tryz.f7.params.toList ++ Rows.refsChecksSpec.plain.varTypes Tryz.prog) (ds ++ gs)).all (· ≤ reachBytes) = true) (X : ch.ShapedOpen Tryz.prog) :
    Calls Tryz.prog 7 args ch fun e A => ∃ v, e = .returned v ∧ Rows.refsChecksSpec.post enc Tryz.prog Tryz.f7 false true false false ch args v A := by
  have I := G
  obtain ⟨p, q, F, S, rfl, aJ, aM⟩ := G
  have E : DataW.TrodAll enc Tryz.prog ch 0 (fun _ => true) true Tryz.f7.params.toList args.toList ds p := F
  rw [Tryz.params7] at E o
  obtain ⟨v0, aQ, d0, aE, ak, aN, aI, rfl, rfl, B, ar⟩ := trodAll_cons E
  obtain ⟨v1, aR, d1, aF, al, aO, rfl, rfl, rfl, C, au⟩ := trodAll_cons ar
  obtain ⟨v2, aS, d2, aH, aq, aP, rfl, rfl, rfl, U, ay⟩ := trodAll_cons au
  obtain ⟨rfl, rfl, rfl⟩ := trodAll_nil ay
  obtain rfl : args = #[v0, v1, v2] := by cases args; simp_all
  obtain ⟨rfl, rfl⟩ := trodVars_none S
  obtain ⟨a0, ae, Q, rfl⟩ := okWide_slice Tryz.underlying22 (o 0 22 v0 rfl rfl)
  have kR := B
  have ag : ∀ x ∈ ak, x.block < ch.heap.size := by obtain ⟨m, hm⟩ := kR; exact DataW.trod_lt m _ _ _ hm
  obtain ⟨Z, az, aD, V⟩ := F_ rfl B
  obtain ⟨b2, af, R, rfl⟩ := okWide_slice Tryz.underlying23 (o 1 23 v1 rfl rfl)
  have M := C
  have ah : ∀ x ∈ al, x.block < ch.heap.size := by obtain ⟨m, hm⟩ := M; exact DataW.trod_lt m _ _ _ hm
  obtain ⟨ab, aA, aK⟩ := F7 rfl Tryz.underlying23 Tryz.underlying4 (by kernel_rfl) C
  have a8 := U
  have ai : ∀ x ∈ aq, x.block < ch.heap.size := by obtain ⟨m, hm⟩ := a8; exact DataW.trod_lt m _ _ _ hm
  obtain ⟨N, rfl, aB, W⟩ := F9 (o 2 32 v2 rfl rfl) U
  clear F
  simp only [List.append_nil] at I n
  have aw : Rows.uptoBulkAll [d0, d1, d2] ≤ 1048576 := of_decide_eq_true n
  simp only [Rows.uptoBulkAll, Rows.uptoBulk] at aw
  have aT : nn Tryz.prog 22 _ := nn.of L (j := 0) rfl rfl
  have aU : nn Tryz.prog 23 _ := nn.of L (j := 1) rfl rfl
  obtain ⟨bk, aL, P⟩ := E8 X
  have T : aC Tryz.prog ch 7 #[.slice a0 ae Q, .slice b2 af R, dG N] ch.heap (fun r O => r = .bool true ∧ aj ch.heap O) := Gc bk _ _ Z ab N ch ch.heap aL P az aD (fun t Y => zr (Nat.le_trans (V t Y) (by omega))) aA aB (zr (Nat.le_trans W (by omega)))
  refine (T ch ⟨rfl, rfl, rfl, rfl, Nat.le_refl _⟩).mono ?_
  rintro e A ⟨r, aa, rfl, d, rfl, K⟩
  have i : Below ch.heap.size ch A := ⟨d.os, d.tape, d.output, by rw [d.heap]; exact K.size, fun k n => by rw [d.heap]; exact K.same k n (fun e => e)⟩
  exact ⟨_, rfl, _, _, _, [], _, [], I, trodAll_mk1 (shut_bool Tryz.underlying4 _), (trodAll_cons_mk (Below.trod laidOut (by kernel_rfl) (of_decide_eq_true (by kernel_rfl)) kR i ag) (trodAll_cons_mk (Below.trod laidOut (by kernel_rfl) (of_decide_eq_true (by kernel_rfl)) M i ah) (trodAll_cons_mk (Below.trod laidOut (by kernel_rfl) (of_decide_eq_true (by kernel_rfl)) a8 i ai) trodAll_mk0))), rfl, i.frame _, fun h => by cases h⟩
theorem D5 (os : Os) : laidMetH Tryz.prog Rows.refsChecksUptoRow.laid ((World.laidAll Tryz.prog os Rows.refsChecksUptoRow.laid).forCall (fun _ _ => 0) ⟨#[], #[.slice none 0 0, .slice none 0 0, dG rq], []⟩).memory := by
  rw [MakeChecks.laidMetH_plain _ _ _ (by kernel_rfl)]; exact laidMet_laidAll _ (by kernel_rfl) (by kernel_rfl)
theorem reads (os : Os) {H : Type} (enc : TypeId × Value → H) : ∃ places, DataW.whole enc Tryz.prog ((World.laidAll Tryz.prog os Rows.refsChecksUptoRow.laid).forCall (fun _ _ => 0) ⟨#[], #[.slice none 0 0, .slice none 0 0, dG rq], []⟩).memory Tryz.f7.params.toList Rows.refsChecksSpec.vars false (#[.slice none 0 0, .slice none 0 0, dG rq] : Array Value).toList 8 = some ([.nil, .nil, .agg [.lit (.bool false), .lit (.string []), .nil, .lit (.bool false), .agg [.lit (.int .i64 0), .lit (.string []), .agg (List.replicate 32 (.lit (.int .u8 0))), .agg (List.replicate 32 (.lit (.int .u8 0))), .nil, .lit (.int .i64 0), .lit (.int .i64 0), .lit (.bool false)], .nil]], [], places) :=
  ⟨[], by kernel_rfl⟩
set_option maxRecDepth 100000 in
theorem lifted (os : Os) (started : os.Started) (H : Type) (enc : TypeId × Value → H) (F : Stop.Interp) :
    ReturnsInHanded {} Tryz.checked os 7 .any ((Rows.OpenSpec.upto Rows.refsChecksSpec).preRow enc Tryz.prog Tryz.f7 Rows.refsChecksUptoRow.domain false Rows.refsChecksUptoRow.laid) (((Rows.OpenSpec.upto Rows.refsChecksSpec).at F).post enc Tryz.prog Tryz.f7 false true false false) := by
  obtain ⟨places, q⟩ := reads os enc
  refine returnsInHanded_of_row (C := Tryz.checked) (s := Rows.OpenSpec.upto Rows.refsChecksSpec) own started (by kernel_rfl) Tryz.func7
    ⟨World.laidAll Tryz.prog os Rows.refsChecksUptoRow.laid, fun _ _ => 0, ⟨#[], #[.slice none 0 0, .slice none 0 0, dG rq], []⟩, World.laidAll_os _ _ _, World.shaped_of_ZipB (by kernel_rfl) (by kernel_rfl), rfl, (Input.okWide_of_okWideB (by kernel_rfl)).2,
      OpenSpec.preRow_of_cond 8 q (by kernel_rfl) (fun k j => by cases j; kernel_rfl) (by kernel_rfl) (D5 os), by simp only [Assume.holds]; exact ⟨by simp, by simp, fun _ => Modest.zero, by simp, by simp⟩⟩ ?_
  intro ch base args ds gs before o d _ i r _ n _
  exact CH H enc ch base args ds gs before o d (i _ rfl) r n
theorem Cf : mapsRowed Tryz.prog = true := by kernel_rfl
theorem Ci : (Tryz.prog.stops == []) = true := by kernel_rfl
theorem Ce : (Tryz.prog.stopKnobs == []) = true := by kernel_rfl
theorem Cd : (Rows.refsChecksUptoRow.inPlace == Tryz.prog.inPlace 7) = true := by kernel_rfl
theorem Cj : (Rows.refsChecksUptoRow.unfollowed == Tryz.prog.unfollowed 7) = true := by kernel_rfl
theorem Ch : (Rows.refsChecksUptoRow.recurses == Tryz.prog.recurses 7) = true := by kernel_rfl
theorem Cg : (Rows.refsChecksUptoRow.named == Tryz.prog.varsNamed 7) = true := by kernel_rfl
theorem closed : joinedFacts Tryz.prog 7 Tryz.f7 (Rows.OpenSpec.upto Rows.refsChecksSpec).bare Rows.refsChecksUptoRow = true := by
  unfold joinedFacts
  rw [laidOut, Cf, Ci, Ce, Cd, Cj, Ch, Cg]; kernel_rfl
theorem said : Rows.RefsChecksUptoSaid :=
  OpenClaim.holds_of_cond 7 Tryz.f7 rfl rfl rfl rfl rfl rfl rfl ⟨rfl, rfl, rfl, rfl, rfl⟩ rfl rfl rfl rfl rfl (by kernel_rfl) Tryz.func7 closed
    (of_decide_eq_true (by kernel_rfl)) (by unfold Func.isWrapper; first | (rw [if_pos (by decide +kernel)]; kernel_rfl) | (rw [if_neg (by decide +kernel)]; exact ⟨rfl, rfl⟩))
    (fun os started H enc _ F => by rw [OpenClaim.pre_eq_preRow]; exact lifted os started H enc F)
theorem plain (f : FuncId) (fn : Func) (k : Tryz.pinned.checked.prog.funcNamed "selvage/selvagelaw10.RefsChecks" = some f) (n : Tryz.pinned.checked.prog.funcs[f]? = some fn) :
    true = Tryz.pinned.checked.prog.looks [] ∧ ∀ (j : Nat) t, fn.params[j]? = some t → Tryz.pinned.checked.prog.wantsStandIn t = false := by
  obtain rfl : f = 7 := Option.some.inj ((show Tryz.prog.funcNamed "selvage/selvagelaw10.RefsChecks" = some 7 by kernel_rfl).symm.trans k) |>.symm
  obtain rfl : fn = Tryz.f7 := (Option.some.inj (Tryz.func7.symm.trans n)).symm
  refine ⟨by kernel_rfl, fun j t d => ?_⟩
  rw [Tryz.params7] at d
  have hm : t ∈ [22, 23, 32] := by simpa using Array.mem_of_getElem? d
  have i : ([22, 23, 32].all fun u => !Tryz.prog.wantsStandIn u) = true := by kernel_rfl
  exact (show Tryz.prog.wantsStandIn t = false by simpa using List.all_eq_true.1 i t hm)
/-- the card -/
theorem proved : Rows.RefsChecksUptoCardSaid :=
  Claim7.holds_tied_plain_at .later [] _ _ _ _ said (fun _ h => by cases h) (by kernel_rfl) (fun _ h => by cases h) refsChecksUpto_row_tie rfl ⟨rfl, rfl⟩ (by kernel_rfl) rfl plain (by kernel_rfl)
end lawRefsChecks
end Go.Proofs.YtfjmpninmdjcaaaGreatDoor.LawRefsChecks
