/-
  Whatever is done with a book, on a disk that is full, stops, crashes, it answers, and holds, what the document says: for all arguments of a bulk of at most 1048576; the library variable MaxLen may hold any number.
-/
import Derived.Deep.DeepHandedRow
import Derived.LaidMore
import Derived.Lay
import Derived.SevenTiedAt
import Derived.Shelf.Vars
import Derived.Stop.Joined
import Derived.Test.YtncnignagcoahaaGreatDoorGh
import Derived.Test.YtncnignagcoahaaGreatDoorCards
import Derived.Test.YtncnignagcoahaaGreatDoorTie
import Derived.Test.YtncnignagcoahaaGreatDoorGb
namespace Go.Proofs.YtncnignagcoahaaGreatDoor.LawRefsPlays
open Go.Proofs.YtncnignagcoahaaGreatDoor.E Go.RowKit
set_option maxRecDepth 20000
set_option linter.unusedVariables false
set_option linter.unusedSimpArgs false
set_option linter.unusedSectionVars false
namespace lawRefsPlays
open Go.ChangeShapes Go.WideShapes Go.ChangeAt Go.RowKit
open Go.ChangeMaps (open_string shut_string)
theorem own : ownKnob Tryz.prog.godebug = none := by kernel_rfl
theorem laidOut : laidOutB Tryz.prog = true := by kernel_rfl
theorem Om (H : Type) (enc : TypeId × Value → H) (G : World) (base : Nat) (args : Array Value) (ds gs : List (DataW H)) (before : List MemPlace)
    (E : ∀ (j : Nat) t v, Tryz.f3.params[j]? = some t → args[j]? = some v → Value.okWide Tryz.prog G .any base t v)
    (N : DataW.Whole enc Tryz.prog Tryz.f3.params.toList Rows.refsPlaysSpec.vars false G args.toList ds gs before) (A : Rows.uptoSmall H (ds ++ gs) = true) (ae : (DataW.weightsEach Tryz.prog (Tryz.f3.params.toList ++ Rows.refsPlaysSpec.plain.varTypes Tryz.prog) (ds ++ gs)).all (· ≤ reachBytes) = true) (Z : G.ShapedOpen Tryz.prog) :
    Calls Tryz.prog 3 args G fun e C => ∃ v, e = .returned v ∧ Rows.refsPlaysSpec.post enc Tryz.prog Tryz.f3 false true false false G args v C := by
  have O := N
  obtain ⟨p, q, M, V, rfl, az, aA⟩ := N
  have L : DataW.TrodAll enc Tryz.prog G 0 (fun _ => true) true Tryz.f3.params.toList args.toList ds p := M
  rw [Tryz.params3] at L E
  obtain ⟨v0, aF, d0, aw, aB, aC, ay, rfl, rfl, U, al⟩ := trodAll_cons L
  obtain ⟨v1, aG, d1, ax, ak, aE, rfl, rfl, rfl, K, aq⟩ := trodAll_cons al
  obtain ⟨rfl, rfl, rfl⟩ := trodAll_nil aq
  obtain rfl : args = #[v0, v1] := by cases args; simp_all
  obtain ⟨rfl, rfl⟩ := trodVars_none V
  obtain ⟨a0, rfl, rfl, rfl, w0⟩ := open_int Tryz.underlying3 (E 0 3 v0 o o) U
  obtain ⟨bq, ah, T, rfl⟩ := okWide_slice Tryz.underlying22 (E 1 22 v1 o o)
  have Q := K
  have ai : ∀ x ∈ ak, x.block < G.heap.size := by obtain ⟨m, hm⟩ := Q; exact DataW.trod_lt m _ _ _ hm
  obtain ⟨ag, av, B, X⟩ := Sr o K
  clear M
  simp only [hD] at O A
  have hb : Rows.uptoBulkAll [_, d1] ≤ 1048576 := jS A
  simp only [Rows.uptoBulkAll, Rows.uptoBulk] at hb
  have aH : w4 Tryz.prog 22 _ := w4.of ae (j := 1) o o
  obtain ⟨mx_, aV, S⟩ := Q7 Z
  have W : a8 Tryz.prog G 3 #[.int .i64 a0, .slice bq ah T] G.heap (fun r R => r = .bool true ∧ an G.heap R) := St mx_ a0 _ ag G G.heap aV S av (fun x h => (B x h).1) (fun x h => (B x h).2.1) (fun x h => (B x h).2.2.1) (fun x h => UA (ev (X x h) I)) (fun x h => (B x h).2.2.2) (x3 w0)
  refine (W G ⟨o, o, o, o, dF _⟩).mono ?_
  rintro e C ⟨r, aa, rfl, n, rfl, P⟩
  have F : Below G.heap.size G C := ⟨n.os, n.tape, n.output, by rw [n.heap]; exact P.size, fun k A => by rw [n.heap]; exact P.same k A (fun e => e)⟩
  exact ⟨_, o, _, _, _, [], _, [], O, trodAll_mk1 (shut_bool Tryz.underlying4 _), (trodAll_cons_mk (shut_int Tryz.underlying3 w0) (trodAll_cons_mk (Below.trod laidOut aW (jS aW) Q F ai) trodAll_mk0)), o, F.frame _, fun h => by cases h⟩
theorem Qb (os : Os) : laidMetH Tryz.prog Rows.refsPlaysUptoRow.laid ((World.laidAll Tryz.prog os Rows.refsPlaysUptoRow.laid).forCall (fun _ _ => 0) ⟨#[], #[.int .i64 0, .slice none 0 0], []⟩).memory := by
  rw [MakeChecks.laidMetH_plain _ _ _ aW]; exact laidMet_laidAll _ aW aW
theorem reads (os : Os) {H : Type} (enc : TypeId × Value → H) : ∃ places, DataW.whole enc Tryz.prog ((World.laidAll Tryz.prog os Rows.refsPlaysUptoRow.laid).forCall (fun _ _ => 0) ⟨#[], #[.int .i64 0, .slice none 0 0], []⟩).memory Tryz.f3.params.toList Rows.refsPlaysSpec.vars false (#[.int .i64 0, .slice none 0 0] : Array Value).toList 8 = some ([.lit (.int .i64 0), .nil], [], places) :=
  ⟨[], by kernel_rfl⟩
set_option maxRecDepth 100000 in
theorem lifted (os : Os) (started : os.Started) (H : Type) (enc : TypeId × Value → H) (F : Stop.Interp) :
    ReturnsInHanded {} Tryz.checked os 3 .any ((Rows.OpenSpec.upto Rows.refsPlaysSpec).preRow enc Tryz.prog Tryz.f3 Rows.refsPlaysUptoRow.domain false Rows.refsPlaysUptoRow.laid) (((Rows.OpenSpec.upto Rows.refsPlaysSpec).at F).post enc Tryz.prog Tryz.f3 false true false false) := by
  obtain ⟨places, E⟩ := reads os enc
  refine returnsInHanded_of_row (C := Tryz.checked) (s := Rows.OpenSpec.upto Rows.refsPlaysSpec) own started aW Tryz.func3
    ⟨World.laidAll Tryz.prog os Rows.refsPlaysUptoRow.laid, fun _ _ => 0, ⟨#[], #[.int .i64 0, .slice none 0 0], []⟩, World.laidAll_os _ _ _, World.shaped_of_ZipB aW aW, o, (Input.okWide_of_okWideB aW).2,
      OpenSpec.preRow_of_cond 8 E aW (fun k A => by cases A; kernel_rfl) aW (Qb os), by simp only [Assume.holds]; exact ⟨by simp, by simp, fun _ => Modest.zero, by simp, by simp⟩⟩ ?_
  intro G base args ds gs before C n _ r K _ B _
  exact Om H enc G base args ds gs before C n (r _ o) K B
theorem NR : mapsRowed Tryz.prog = true := by kernel_rfl
theorem NU : (Tryz.prog.stops == []) = true := by kernel_rfl
theorem NQ : (Tryz.prog.stopKnobs == []) = true := by kernel_rfl
theorem NP : (Rows.refsPlaysUptoRow.inPlace == Tryz.prog.inPlace 3) = true := by kernel_rfl
theorem NV : (Rows.refsPlaysUptoRow.unfollowed == Tryz.prog.unfollowed 3) = true := by kernel_rfl
theorem NT : (Rows.refsPlaysUptoRow.recurses == Tryz.prog.recurses 3) = true := by kernel_rfl
theorem NS : (Rows.refsPlaysUptoRow.named == Tryz.prog.varsNamed 3) = true := by kernel_rfl
theorem closed : joinedFacts Tryz.prog 3 Tryz.f3 (Rows.OpenSpec.upto Rows.refsPlaysSpec).bare Rows.refsPlaysUptoRow = true := by
  unfold joinedFacts
  rw [laidOut, NR, NU, NQ, NP, NV, NT, NS]; kernel_rfl
theorem said : Rows.RefsPlaysUptoSaid :=
  OpenClaim.holds_of_cond 3 Tryz.f3 o o o o o o o ⟨o, o, o, o, o⟩ o o o o o aW Tryz.func3 closed
    (jS aW) (by unfold Func.isWrapper; first | (rw [aD (by decide +kernel)]; kernel_rfl) | (rw [au (by decide +kernel)]; exact ⟨o, o⟩))
    (fun os started H enc _ F => by rw [OpenClaim.pre_eq_preRow]; exact lifted os started H enc F)
theorem plain (f : FuncId) (fn : Func) (r : Tryz.pinned.checked.prog.funcNamed "selvage/selvagelaw10.RefsPlays" = some f) (A : Tryz.pinned.checked.prog.funcs[f]? = some fn) :
    true = Tryz.pinned.checked.prog.looks [] ∧ ∀ (j : Nat) t, fn.params[j]? = some t → Tryz.pinned.checked.prog.wantsStandIn t = false := by
  obtain rfl : f = 3 := mG ((show Tryz.prog.funcNamed "selvage/selvagelaw10.RefsPlays" = some 3 by kernel_rfl).symm.trans r) |>.symm
  obtain rfl : fn = Tryz.f3 := (mG (Tryz.func3.symm.trans A)).symm
  refine ⟨by kernel_rfl, fun j t k => ?_⟩
  rw [Tryz.params3] at k
  have hm : t ∈ [3, 22] := by simpa using Array.mem_of_getElem? k
  have n : ([3, 22].all fun u => !Tryz.prog.wantsStandIn u) = true := by kernel_rfl
  exact (show Tryz.prog.wantsStandIn t = false by simpa using sq.1 n t hm)
/-- the card -/
theorem proved : Rows.RefsPlaysUptoCardSaid :=
  Claim7.holds_tied_plain_at .later [] _ _ _ _ said (fun _ h => by cases h) aW (fun _ h => by cases h) refsPlaysUpto_row_tie rfl ⟨rfl, rfl⟩ aW rfl plain aW
end lawRefsPlays
end Go.Proofs.YtncnignagcoahaaGreatDoor.LawRefsPlays
