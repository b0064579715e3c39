/-
  Two states that transactions make are told to be the same just where they are: for all arguments of a bulk of at most 1048576; the library variable MaxLen may hold any number.
-/
import Derived.Deep.DeepHandedRow
import Derived.LaidMore
import Derived.Lay
import Derived.SevenTiedAt
import Derived.Shelf.Vars
import Derived.Stop.Joined
import Derived.Test.YtfjmpninmdjcaaaGreatDoorGf
import Derived.Test.YtfjmpninmdjcaaaGreatDoorCards
import Derived.Test.YtfjmpninmdjcaaaGreatDoorTie
import Derived.Test.YtfjmpninmdjcaaaGreatDoorGb
namespace Go.Proofs.YtfjmpninmdjcaaaGreatDoor.LawRefsSame
open Go.Proofs.YtfjmpninmdjcaaaGreatDoor.E Go.RowKit Go.Proofs.YtfjmpninmdjcaaaGreatDoor.fz Go.Proofs.YtfjmpninmdjcaaaGreatDoor.iY Go.Proofs.YtfjmpninmdjcaaaGreatDoor.ey Go.Proofs.YtfjmpninmdjcaaaGreatDoor.eY Go.Proofs.YtfjmpninmdjcaaaGreatDoor.nh Go.Proofs.YtfjmpninmdjcaaaGreatDoor.ub Go.Proofs.YtfjmpninmdjcaaaGreatDoor.ua
set_option maxRecDepth 20000
set_option linter.unusedVariables false
set_option linter.unusedSimpArgs false
set_option linter.unusedSectionVars false
namespace lawRefsSame
open Go.ChangeShapes Go.WideShapes Go.ChangeAt Go.RowKit
open Go.ChangeMaps (open_string shut_string)
theorem own : ownKnob Tryz.prog.godebug = none := by kernel_rfl
theorem laidOut : laidOutB Tryz.prog = true := by kernel_rfl
theorem CE (H : Type) (enc : TypeId × Value → H) (ck : World) (base : Nat) (args : Array Value) (ds gs : List (DataW H)) (before : List MemPlace)
    (o : ∀ (j : Nat) t v, Tryz.f8.params[j]? = some t → args[j]? = some v → Value.okWide Tryz.prog ck .any base t v)
    (K : DataW.Whole enc Tryz.prog Tryz.f8.params.toList Rows.refsSameSpec.vars false ck args.toList ds gs before) (n : Rows.uptoSmall H (ds ++ gs) = true) (C : (DataW.weightsEach Tryz.prog (Tryz.f8.params.toList ++ Rows.refsSameSpec.plain.varTypes Tryz.prog) (ds ++ gs)).all (· ≤ reachBytes) = true) (Y : ck.ShapedOpen Tryz.prog) :
    Calls Tryz.prog 8 args ck fun e A => ∃ v, e = .returned v ∧ Rows.refsSameSpec.post enc Tryz.prog Tryz.f8 false true false false ck args v A := by
  have L := K
  obtain ⟨p, q, I, T, rfl, aM, aP⟩ := K
  have G : DataW.TrodAll enc Tryz.prog ck 0 (fun _ => true) true Tryz.f8.params.toList args.toList ds p := I
  rw [Tryz.params8] at G o
  obtain ⟨v0, aT, d0, aI, aq, aQ, aL, rfl, rfl, E, ay⟩ := trodAll_cons G
  obtain ⟨v1, aV, d1, aJ, ar, aR, rfl, rfl, rfl, F, az⟩ := trodAll_cons ay
  obtain ⟨v2, aW, d2, aK, au, aS, rfl, rfl, rfl, U, aA⟩ := trodAll_cons az
  obtain ⟨rfl, rfl, rfl⟩ := trodAll_nil aA
  obtain rfl : args = #[v0, v1, v2] := by cases args; simp_all
  obtain ⟨rfl, rfl⟩ := trodVars_none T
  obtain ⟨a0, af, Q, rfl⟩ := okWide_slice Tryz.underlying22 (o 0 22 v0 rfl rfl)
  have kR := E
  have ai : ∀ x ∈ aq, x.block < ck.heap.size := by obtain ⟨m, hm⟩ := kR; exact DataW.trod_lt m _ _ _ hm
  obtain ⟨Z, aB, aF, W⟩ := yd rfl E
  obtain ⟨b2, ag, R, rfl⟩ := okWide_slice Tryz.underlying23 (o 1 23 v1 rfl rfl)
  have N := F
  have aj : ∀ x ∈ ar, x.block < ck.heap.size := by obtain ⟨m, hm⟩ := N; exact DataW.trod_lt m _ _ _ hm
  obtain ⟨ab, aD, aO⟩ := Ga rfl Tryz.underlying23 Tryz.underlying4 (by kernel_rfl) F
  obtain ⟨a2, ah, S, rfl⟩ := okWide_slice Tryz.underlying22 (o 2 22 v2 rfl rfl)
  have a8 := U
  have an : ∀ x ∈ au, x.block < ck.heap.size := by obtain ⟨m, hm⟩ := a8; exact DataW.trod_lt m _ _ _ hm
  obtain ⟨ae, aE, aH, X⟩ := yd rfl U
  clear I
  simp only [List.append_nil] at L n
  have aw : Rows.uptoBulkAll [d0, d1, d2] ≤ 1048576 := of_decide_eq_true n
  simp only [Rows.uptoBulkAll, Rows.uptoBulk] at aw
  have aX : lM Tryz.prog 22 _ := lM.of C (j := 0) rfl rfl
  have aY : lM Tryz.prog 23 _ := lM.of C (j := 1) rfl rfl
  have aZ : lM Tryz.prog 22 _ := lM.of C (j := 2) rfl rfl
  obtain ⟨bk, aN, P⟩ := Fa Y
  have V : aC Tryz.prog ck 8 #[.slice a0 af Q, .slice b2 ag R, .slice a2 ah S] ck.heap (fun r O => r = .bool true ∧ ak ck.heap O) := Ge bk _ _ _ Z ab ae ck ck.heap aN P aB aF (fun t B => zg (Nat.le_trans (W t B) (by omega))) aD aE aH (fun t B => zg (Nat.le_trans (X t B) (by omega)))
  refine (V ck ⟨rfl, rfl, rfl, rfl, Nat.le_refl _⟩).mono ?_
  rintro e A ⟨r, aa, rfl, d, rfl, M⟩
  have i : Below ck.heap.size ck A := ⟨d.os, d.tape, d.output, by rw [d.heap]; exact M.size, fun k n => by rw [d.heap]; exact M.same k n (fun e => e)⟩
  exact ⟨_, rfl, _, _, _, [], _, [], L, trodAll_mk1 (shut_bool Tryz.underlying4 _), (trodAll_cons_mk (Below.trod laidOut (by kernel_rfl) (of_decide_eq_true (by kernel_rfl)) kR i ai) (trodAll_cons_mk (Below.trod laidOut (by kernel_rfl) (of_decide_eq_true (by kernel_rfl)) N i aj) (trodAll_cons_mk (Below.trod laidOut (by kernel_rfl) (of_decide_eq_true (by kernel_rfl)) a8 i an) trodAll_mk0))), rfl, i.frame _, fun h => by cases h⟩
theorem D7 (os : Os) : laidMetH Tryz.prog Rows.refsSameUptoRow.laid ((World.laidAll Tryz.prog os Rows.refsSameUptoRow.laid).forCall (fun _ _ => 0) ⟨#[], #[.slice none 0 0, .slice none 0 0, .slice none 0 0], []⟩).memory := by
  rw [MakeChecks.laidMetH_plain _ _ _ (by kernel_rfl)]; exact laidMet_laidAll _ (by kernel_rfl) (by kernel_rfl)
theorem reads (os : Os) {H : Type} (enc : TypeId × Value → H) : ∃ places, DataW.whole enc Tryz.prog ((World.laidAll Tryz.prog os Rows.refsSameUptoRow.laid).forCall (fun _ _ => 0) ⟨#[], #[.slice none 0 0, .slice none 0 0, .slice none 0 0], []⟩).memory Tryz.f8.params.toList Rows.refsSameSpec.vars false (#[.slice none 0 0, .slice none 0 0, .slice none 0 0] : Array Value).toList 8 = some ([.nil, .nil, .nil], [], places) :=
  ⟨[], by kernel_rfl⟩
set_option maxRecDepth 100000 in
theorem lifted (os : Os) (started : os.Started) (H : Type) (enc : TypeId × Value → H) (F : Stop.Interp) :
    ReturnsInHanded {} Tryz.checked os 8 .any ((Rows.OpenSpec.upto Rows.refsSameSpec).preRow enc Tryz.prog Tryz.f8 Rows.refsSameUptoRow.domain false Rows.refsSameUptoRow.laid) (((Rows.OpenSpec.upto Rows.refsSameSpec).at F).post enc Tryz.prog Tryz.f8 false true false false) := by
  obtain ⟨places, q⟩ := reads os enc
  refine returnsInHanded_of_row (C := Tryz.checked) (s := Rows.OpenSpec.upto Rows.refsSameSpec) own started (by kernel_rfl) Tryz.func8
    ⟨World.laidAll Tryz.prog os Rows.refsSameUptoRow.laid, fun _ _ => 0, ⟨#[], #[.slice none 0 0, .slice none 0 0, .slice none 0 0], []⟩, World.laidAll_os _ _ _, World.shaped_of_ZipB (by kernel_rfl) (by kernel_rfl), rfl, (Input.okWide_of_okWideB (by kernel_rfl)).2,
      OpenSpec.preRow_of_cond 8 q (by kernel_rfl) (fun k j => by cases j; kernel_rfl) (by kernel_rfl) (D7 os), by simp only [Assume.holds]; exact ⟨by simp, by simp, fun _ => Modest.zero, by simp, by simp⟩⟩ ?_
  intro ck base args ds gs before o d _ i r _ n _
  exact CE H enc ck base args ds gs before o d (i _ rfl) r n
theorem Cd : mapsRowed Tryz.prog = true := by kernel_rfl
theorem Cg : (Tryz.prog.stops == []) = true := by kernel_rfl
theorem Cc : (Tryz.prog.stopKnobs == []) = true := by kernel_rfl
theorem Cb : (Rows.refsSameUptoRow.inPlace == Tryz.prog.inPlace 8) = true := by kernel_rfl
theorem Ch : (Rows.refsSameUptoRow.unfollowed == Tryz.prog.unfollowed 8) = true := by kernel_rfl
theorem Cf : (Rows.refsSameUptoRow.recurses == Tryz.prog.recurses 8) = true := by kernel_rfl
theorem Ce : (Rows.refsSameUptoRow.named == Tryz.prog.varsNamed 8) = true := by kernel_rfl
theorem closed : joinedFacts Tryz.prog 8 Tryz.f8 (Rows.OpenSpec.upto Rows.refsSameSpec).bare Rows.refsSameUptoRow = true := by
  unfold joinedFacts
  rw [laidOut, Cd, Cg, Cc, Cb, Ch, Cf, Ce]; kernel_rfl
theorem said : Rows.RefsSameUptoSaid :=
  OpenClaim.holds_of_cond 8 Tryz.f8 rfl rfl rfl rfl rfl rfl rfl ⟨rfl, rfl, rfl, rfl, rfl⟩ rfl rfl rfl rfl rfl (by kernel_rfl) Tryz.func8 closed
    (of_decide_eq_true (by kernel_rfl)) (by unfold Func.isWrapper; first | (rw [if_pos (by decide +kernel)]; kernel_rfl) | (rw [if_neg (by decide +kernel)]; exact ⟨rfl, rfl⟩))
    (fun os started H enc _ F => by rw [OpenClaim.pre_eq_preRow]; exact lifted os started H enc F)
theorem plain (f : FuncId) (fn : Func) (k : Tryz.pinned.checked.prog.funcNamed "selvage/selvagelaw10.RefsSame" = some f) (n : Tryz.pinned.checked.prog.funcs[f]? = some fn) :
    true = Tryz.pinned.checked.prog.looks [] ∧ ∀ (j : Nat) t, fn.params[j]? = some t → Tryz.pinned.checked.prog.wantsStandIn t = false := by
  obtain rfl : f = 8 := Option.some.inj ((show Tryz.prog.funcNamed "selvage/selvagelaw10.RefsSame" = some 8 by kernel_rfl).symm.trans k) |>.symm
  obtain rfl : fn = Tryz.f8 := (Option.some.inj (Tryz.func8.symm.trans n)).symm
  refine ⟨by kernel_rfl, fun j t d => ?_⟩
  rw [Tryz.params8] at d
  have hm : t ∈ [22, 23, 22] := by simpa using Array.mem_of_getElem? d
  have i : ([22, 23, 22].all fun u => !Tryz.prog.wantsStandIn u) = true := by kernel_rfl
  exact (show Tryz.prog.wantsStandIn t = false by simpa using List.all_eq_true.1 i t hm)
/-- the card -/
theorem proved : Rows.RefsSameUptoCardSaid :=
  Claim7.holds_tied_plain_at .later [] _ _ _ _ said (fun _ h => by cases h) (by kernel_rfl) (fun _ h => by cases h) refsSameUpto_row_tie rfl ⟨rfl, rfl⟩ (by kernel_rfl) rfl plain (by kernel_rfl)
end lawRefsSame
end Go.Proofs.YtfjmpninmdjcaaaGreatDoor.LawRefsSame
