/-
  Wherever a transaction is cut off, and whatever stays, the state is the one ahead of it, or the one behind it; opening again changes nothing: for all arguments of a bulk of at most 1048576; the library variable MaxLen may hold any number.
-/
import Derived.Deep.DeepHandedRow
import Derived.LaidMore
import Derived.Lay
import Derived.SevenTiedAt
import Derived.Shelf.Vars
import Derived.Stop.Joined
import Derived.Test.YtfjmpninmdjcaaaGreatDoorGg
import Derived.Test.YtfjmpninmdjcaaaGreatDoorGf
import Derived.Test.YtfjmpninmdjcaaaGreatDoorCards
import Derived.Test.YtfjmpninmdjcaaaGreatDoorTie
import Derived.Test.YtfjmpninmdjcaaaGreatDoorGd
namespace Go.Proofs.YtfjmpninmdjcaaaGreatDoor.LawRefsCrashes
open Go.Proofs.YtfjmpninmdjcaaaGreatDoor.E Go.RowKit Go.Proofs.YtfjmpninmdjcaaaGreatDoor.ho Go.Proofs.YtfjmpninmdjcaaaGreatDoor.m4 Go.Proofs.YtfjmpninmdjcaaaGreatDoor.e2 Go.Proofs.YtfjmpninmdjcaaaGreatDoor.AQ Go.Proofs.YtfjmpninmdjcaaaGreatDoor.AU
set_option maxRecDepth 20000
set_option linter.unusedVariables false
set_option linter.unusedSimpArgs false
set_option linter.unusedSectionVars false
namespace lawRefsCrashes
open Go.ChangeShapes Go.WideShapes Go.ChangeAt Go.RowKit
open Go.ChangeMaps (open_string shut_string)
theorem own : ownKnob Tryz.prog.godebug = none := by kernel_rfl
theorem laidOut : laidOutB Tryz.prog = true := by kernel_rfl
theorem Jx (H : Type) (enc : TypeId × Value → H) (cE : World) (base : Nat) (args : Array Value) (ds gs : List (DataW H)) (before : List MemPlace)
    (d : ∀ (j : Nat) t v, Tryz.f10.params[j]? = some t → args[j]? = some v → Value.okWide Tryz.prog cE .any base t v)
    (N : DataW.Whole enc Tryz.prog Tryz.f10.params.toList Rows.refsCrashesSpec.vars false cE args.toList ds gs before) (B : Rows.uptoSmall H (ds ++ gs) = true) (E : (DataW.weightsEach Tryz.prog (Tryz.f10.params.toList ++ Rows.refsCrashesSpec.plain.varTypes Tryz.prog) (ds ++ gs)).all (· ≤ reachBytes) = true) (an : cE.ShapedOpen Tryz.prog) :
    Calls Tryz.prog 10 args cE fun e C => ∃ v, e = .returned v ∧ Rows.refsCrashesSpec.post enc Tryz.prog Tryz.f10 false true false false cE args v C := by
  have O := N
  obtain ⟨p, q, M, af, rfl, a6, ba⟩ := N
  have L : DataW.TrodAll enc Tryz.prog cE 0 (fun _ => true) true Tryz.f10.params.toList args.toList ds p := M
  rw [Tryz.params10] at L d
  obtain ⟨v0, bc, d0, aT, aH, bb, aZ, rfl, rfl, G, aJ⟩ := trodAll_cons L
  obtain ⟨v1, bd, d1, aU, e9, bh, rfl, rfl, rfl, I, eM⟩ := trodAll_cons aJ
  obtain ⟨v2, bf, d2, aV, eR, bW, rfl, rfl, rfl, ab, fh⟩ := trodAll_cons eM
  obtain ⟨v3, bg, d3, aW, hs, cw, rfl, rfl, rfl, ae, aK⟩ := trodAll_cons fh
  obtain ⟨v4, bj, d4, aX, iB, ep, rfl, rfl, rfl, K, fQ⟩ := trodAll_cons aK
  obtain ⟨rfl, rfl, rfl⟩ := trodAll_nil fQ
  obtain rfl : args = #[v0, v1, v2, v3, v4] := by cases args; simp_all
  obtain ⟨rfl, rfl⟩ := trodVars_none af
  obtain ⟨a0, az, Z, rfl⟩ := okWide_slice Tryz.underlying22 (d 0 22 v0 o o)
  have kg := G
  have aC : ∀ x ∈ aH, x.block < cE.heap.size := by obtain ⟨m, hm⟩ := kg; exact DataW.trod_lt m _ _ _ hm
  obtain ⟨vU, aN, aR, ai⟩ := Nn o G
  obtain ⟨bB, aB, aa, rfl⟩ := okWide_slice Tryz.underlying23 (d 1 23 v1 o o)
  have Q := I
  have aD : ∀ x ∈ e9, x.block < cE.heap.size := by obtain ⟨m, hm⟩ := Q; exact DataW.trod_lt m _ _ _ hm
  obtain ⟨ax, aO, a7⟩ := Nh o Tryz.underlying23 Tryz.underlying4 bD I
  have a_ := ab
  have aF : ∀ x ∈ eR, x.block < cE.heap.size := by obtain ⟨m, hm⟩ := a_; exact DataW.trod_lt m _ _ _ hm
  obtain ⟨S, rfl, aP, ak⟩ := Nl (d 2 32 v2 o o) ab
  obtain ⟨a3, rfl, rfl, rfl, W⟩ := open_int Tryz.underlying3 (d 3 3 v3 o o) ae
  obtain ⟨a4, U, F, rfl⟩ := okWide_slice Tryz.underlying83 (d 4 83 v4 o o)
  have R := K
  have aG : ∀ x ∈ iB, x.block < cE.heap.size := by obtain ⟨m, hm⟩ := R; exact DataW.trod_lt m _ _ _ hm
  obtain ⟨ay, aQ, aS, a8⟩ := Nj o Tryz.underlying83 Tryz.underlying3 bD K
  clear M
  simp only [hi] at O B
  have ao : Rows.uptoBulkAll [d0, d1, d2, _, d4] ≤ 1048576 := ki B
  simp only [Rows.uptoBulkAll, Rows.uptoBulk] at ao
  have bk : pk Tryz.prog 22 _ := pk.of E (j := 0) o o
  have bl : pk Tryz.prog 23 _ := pk.of E (j := 1) o o
  have bm : pk Tryz.prog 83 _ := pk.of E (j := 4) o o
  obtain ⟨bC, aL, Y⟩ := L3 an
  have ag : aE Tryz.prog cE 10 #[.slice a0 az Z, .slice bB aB aa, fo S, .int .i64 a3, .slice a4 U F] cE.heap (fun r X => r = .bool true ∧ al cE.heap X) := Nq bC _ _ ⟨a4, U, F⟩ vU ax S a3 ay cE cE.heap aL Y aN aR (fun t ar => Gc (fg (ai t ar) J)) aO aP (Gc (fg ak J)) (Dq W) aQ (fun x av => Dq (aS x av))
  refine (ag cE ⟨o, o, o, o, dz _⟩).mono ?_
  rintro e C ⟨r, V, rfl, A, rfl, P⟩
  have n : Below cE.heap.size cE C := ⟨A.os, A.tape, A.output, by rw [A.heap]; exact P.size, fun k B => by rw [A.heap]; exact P.same k B (fun e => e)⟩
  exact ⟨_, o, _, _, _, [], _, [], O, trodAll_mk1 (shut_bool Tryz.underlying4 _), (trodAll_cons_mk (Below.trod laidOut bD (ki bD) kg n aC) (trodAll_cons_mk (Below.trod laidOut bD (ki bD) Q n aD) (trodAll_cons_mk (Below.trod laidOut bD (ki bD) a_ n aF) (trodAll_cons_mk (shut_int Tryz.underlying3 W) (trodAll_cons_mk (Below.trod laidOut bD (ki bD) R n aG) trodAll_mk0))))), o, n.frame _, fun h => by cases h⟩
theorem K0 (os : Os) : laidMetH Tryz.prog Rows.refsCrashesUptoRow.laid ((World.laidAll Tryz.prog os Rows.refsCrashesUptoRow.laid).forCall (fun _ _ => 0) ⟨#[], #[.slice none 0 0, .slice none 0 0, fo lU, .int .i64 0, .slice none 0 0], []⟩).memory := by
  rw [MakeChecks.laidMetH_plain _ _ _ bD]; exact laidMet_laidAll _ bD bD
theorem reads (os : Os) {H : Type} (enc : TypeId × Value → H) : ∃ places, DataW.whole enc Tryz.prog ((World.laidAll Tryz.prog os Rows.refsCrashesUptoRow.laid).forCall (fun _ _ => 0) ⟨#[], #[.slice none 0 0, .slice none 0 0, fo lU, .int .i64 0, .slice none 0 0], []⟩).memory Tryz.f10.params.toList Rows.refsCrashesSpec.vars false (#[.slice none 0 0, .slice none 0 0, fo lU, .int .i64 0, .slice none 0 0] : Array Value).toList 8 = some ([.nil, .nil, .agg [.lit (.bool false), .lit (.string []), .nil, .lit (.bool false), .agg [.lit (.int .i64 0), .lit (.string []), .agg (List.replicate 32 (.lit (.int .u8 0))), .agg (List.replicate 32 (.lit (.int .u8 0))), .nil, .lit (.int .i64 0), .lit (.int .i64 0), .lit (.bool false)], .nil], .lit (.int .i64 0), .nil], [], places) :=
  ⟨[], by kernel_rfl⟩
set_option maxRecDepth 100000 in
theorem lifted (os : Os) (started : os.Started) (H : Type) (enc : TypeId × Value → H) (F : Stop.Interp) :
    ReturnsInHanded {} Tryz.checked os 10 .any ((Rows.OpenSpec.upto Rows.refsCrashesSpec).preRow enc Tryz.prog Tryz.f10 Rows.refsCrashesUptoRow.domain false Rows.refsCrashesUptoRow.laid) (((Rows.OpenSpec.upto Rows.refsCrashesSpec).at F).post enc Tryz.prog Tryz.f10 false true false false) := by
  obtain ⟨places, x⟩ := reads os enc
  refine returnsInHanded_of_row (C := Tryz.checked) (s := Rows.OpenSpec.upto Rows.refsCrashesSpec) own started bD Tryz.func10
    ⟨World.laidAll Tryz.prog os Rows.refsCrashesUptoRow.laid, fun _ _ => 0, ⟨#[], #[.slice none 0 0, .slice none 0 0, fo lU, .int .i64 0, .slice none 0 0], []⟩, World.laidAll_os _ _ _, World.shaped_of_ZipB bD bD, o, (Input.okWide_of_okWideB bD).2,
      OpenSpec.preRow_of_cond 8 x bD (fun k n => by cases n; kernel_rfl) bD (K0 os), by simp only [Assume.holds]; exact ⟨by simp, by simp, fun _ => Modest.zero, by simp, by simp⟩⟩ ?_
  intro cE base args ds gs before r d _ j A _ q _
  exact Jx H enc cE base args ds gs before r d (j _ o) A q
theorem I1 : mapsRowed Tryz.prog = true := by kernel_rfl
theorem I4 : (Tryz.prog.stops == []) = true := by kernel_rfl
theorem I0 : (Tryz.prog.stopKnobs == []) = true := by kernel_rfl
theorem IZ : (Rows.refsCrashesUptoRow.inPlace == Tryz.prog.inPlace 10) = true := by kernel_rfl
theorem I5 : (Rows.refsCrashesUptoRow.unfollowed == Tryz.prog.unfollowed 10) = true := by kernel_rfl
theorem I3 : (Rows.refsCrashesUptoRow.recurses == Tryz.prog.recurses 10) = true := by kernel_rfl
theorem I2 : (Rows.refsCrashesUptoRow.named == Tryz.prog.varsNamed 10) = true := by kernel_rfl
theorem closed : joinedFacts Tryz.prog 10 Tryz.f10 (Rows.OpenSpec.upto Rows.refsCrashesSpec).bare Rows.refsCrashesUptoRow = true := by
  unfold joinedFacts
  rw [laidOut, I1, I4, I0, IZ, I5, I3, I2]; kernel_rfl
theorem said : Rows.RefsCrashesUptoSaid :=
  OpenClaim.holds_of_cond 10 Tryz.f10 o o o o o o o ⟨o, o, o, o, o⟩ o o o o o bD Tryz.func10 closed
    (ki bD) (by unfold Func.isWrapper; first | (rw [aM (by decide +kernel)]; kernel_rfl) | (rw [aA (by decide +kernel)]; exact ⟨o, o⟩))
    (fun os started H enc _ F => by rw [OpenClaim.pre_eq_preRow]; exact lifted os started H enc F)
theorem plain (f : FuncId) (fn : Func) (q : Tryz.pinned.checked.prog.funcNamed "selvage/selvagelaw10.RefsCrashes" = some f) (r : Tryz.pinned.checked.prog.funcs[f]? = some fn) :
    true = Tryz.pinned.checked.prog.looks [] ∧ ∀ (j : Nat) t, fn.params[j]? = some t → Tryz.pinned.checked.prog.wantsStandIn t = false := by
  obtain rfl : f = 10 := l6 ((show Tryz.prog.funcNamed "selvage/selvagelaw10.RefsCrashes" = some 10 by kernel_rfl).symm.trans q) |>.symm
  obtain rfl : fn = Tryz.f10 := (l6 (Tryz.func10.symm.trans r)).symm
  refine ⟨by kernel_rfl, fun j t d => ?_⟩
  rw [Tryz.params10] at d
  have hm : t ∈ [22, 23, 32, 3, 83] := by simpa using Array.mem_of_getElem? d
  have n : ([22, 23, 32, 3, 83].all fun u => !Tryz.prog.wantsStandIn u) = true := by kernel_rfl
  exact (show Tryz.prog.wantsStandIn t = false by simpa using rX.1 n t hm)
/-- the card -/
theorem proved : Rows.RefsCrashesUptoCardSaid :=
  Claim7.holds_tied_plain_at .later [] _ _ _ _ said (fun _ h => by cases h) bD (fun _ h => by cases h) refsCrashesUpto_row_tie rfl ⟨rfl, rfl⟩ bD rfl plain bD
end lawRefsCrashes
end Go.Proofs.YtfjmpninmdjcaaaGreatDoor.LawRefsCrashes
