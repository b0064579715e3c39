/-
  Moves of one transaction are done together, or not at all: for all arguments of a bulk of at most 1048576; the library variable MaxLen may hold any number.
-/
import Derived.Deep.DeepHandedRow
import Derived.LaidMore
import Derived.Lay
import Derived.SevenTiedAt
import Derived.Shelf.Vars
import Derived.Stop.Joined
import Derived.Test.YtfjmpninmdjcaaaGreatDoorGf
import Derived.Test.YtfjmpninmdjcaaaGreatDoorCards
import Derived.Test.YtfjmpninmdjcaaaGreatDoorTie
import Derived.Test.YtfjmpninmdjcaaaGreatDoorGb
namespace Go.Proofs.YtfjmpninmdjcaaaGreatDoor.LawRefsTogether
open Go.Proofs.YtfjmpninmdjcaaaGreatDoor.E Go.RowKit Go.Proofs.YtfjmpninmdjcaaaGreatDoor.eM Go.Proofs.YtfjmpninmdjcaaaGreatDoor.hJ Go.Proofs.YtfjmpninmdjcaaaGreatDoor.ez Go.Proofs.YtfjmpninmdjcaaaGreatDoor.e0 Go.Proofs.YtfjmpninmdjcaaaGreatDoor.lD Go.Proofs.YtfjmpninmdjcaaaGreatDoor.ue Go.Proofs.YtfjmpninmdjcaaaGreatDoor.ug
set_option maxRecDepth 20000
set_option linter.unusedVariables false
set_option linter.unusedSimpArgs false
set_option linter.unusedSectionVars false
namespace lawRefsTogether
open Go.ChangeShapes Go.WideShapes Go.ChangeAt Go.RowKit
open Go.ChangeMaps (open_string shut_string)
theorem own : ownKnob Tryz.prog.godebug = none := by kernel_rfl
theorem laidOut : laidOutB Tryz.prog = true := by kernel_rfl
theorem Cg (H : Type) (enc : TypeId × Value → H) (b_ : World) (base : Nat) (args : Array Value) (ds gs : List (DataW H)) (before : List MemPlace)
    (i : ∀ (j : Nat) t v, Tryz.f3.params[j]? = some t → args[j]? = some v → Value.okWide Tryz.prog b_ .any base t v)
    (G : DataW.Whole enc Tryz.prog Tryz.f3.params.toList Rows.refsTogetherSpec.vars false b_ args.toList ds gs before) (o : Rows.uptoSmall H (ds ++ gs) = true) (L : (DataW.weightsEach Tryz.prog (Tryz.f3.params.toList ++ Rows.refsTogetherSpec.plain.varTypes Tryz.prog) (ds ++ gs)).all (· ≤ reachBytes) = true) (Z : b_.ShapedOpen Tryz.prog) :
    Calls Tryz.prog 3 args b_ fun e A => ∃ v, e = .returned v ∧ Rows.refsTogetherSpec.post enc Tryz.prog Tryz.f3 false true false false b_ args v A := by
  have J := G
  obtain ⟨p, q, F, U, rfl, aP, aR⟩ := G
  have E : DataW.TrodAll enc Tryz.prog b_ 0 (fun _ => true) true Tryz.f3.params.toList args.toList ds p := F
  rw [Tryz.params3] at E i
  obtain ⟨v0, aZ, d0, aK, ar, aT, aO, rfl, rfl, B, ay⟩ := trodAll_cons E
  obtain ⟨v1, a1, d1, aL, au, aV, rfl, rfl, rfl, C, az⟩ := trodAll_cons ay
  obtain ⟨v2, a6, d2, aM, aw, aW, rfl, rfl, rfl, V, aB⟩ := trodAll_cons az
  obtain ⟨v3, a8, d3, aN, aS, aX, rfl, rfl, rfl, T, aC⟩ := trodAll_cons aB
  obtain ⟨rfl, rfl, rfl⟩ := trodAll_nil aC
  obtain rfl : args = #[v0, v1, v2, v3] := by cases args; simp_all
  obtain ⟨rfl, rfl⟩ := trodVars_none U
  obtain ⟨a0, ag, R, rfl⟩ := okWide_slice Tryz.underlying22 (i 0 22 v0 rfl rfl)
  have kF := B
  have ai : ∀ x ∈ ar, x.block < b_.heap.size := by obtain ⟨m, hm⟩ := kF; exact DataW.trod_lt m _ _ _ hm
  obtain ⟨ae, aD, aJ, X⟩ := FF rfl B
  obtain ⟨cg, ah, S, rfl⟩ := okWide_slice Tryz.underlying23 (i 1 23 v1 rfl rfl)
  have M := C
  have al : ∀ x ∈ au, x.block < b_.heap.size := by obtain ⟨m, hm⟩ := M; exact DataW.trod_lt m _ _ _ hm
  obtain ⟨af, aF, aQ⟩ := FB rfl Tryz.underlying23 Tryz.underlying4 (by kernel_rfl) C
  have a7 := V
  have an : ∀ x ∈ aw, x.block < b_.heap.size := by obtain ⟨m, hm⟩ := a7; exact DataW.trod_lt m _ _ _ hm
  obtain ⟨N, rfl, aH, Y⟩ := FE (i 2 32 v2 rfl rfl) V
  obtain ⟨a3, rfl, rfl, rfl, O⟩ := open_int Tryz.underlying3 (i 3 3 v3 rfl rfl) T
  clear F
  simp only [List.append_nil] at J o
  have aA : Rows.uptoBulkAll [d0, d1, d2, _] ≤ 1048576 := of_decide_eq_true o
  simp only [Rows.uptoBulkAll, Rows.uptoBulk] at aA
  have a_ : m9 Tryz.prog 22 _ := m9.of L (j := 0) rfl rfl
  have ba : m9 Tryz.prog 23 _ := m9.of L (j := 1) rfl rfl
  obtain ⟨bb, aI, Q⟩ := EE Z
  have W : aG Tryz.prog b_ 3 #[.slice a0 ag R, .slice cg ah S, ep N, .int .i64 a3] b_.heap (fun r P => r = .bool true ∧ aq b_.heap P) := FI bb _ _ ae af N a3 b_ b_.heap aI Q aD aJ (fun t aa => y3 (Nat.le_trans (X t aa) (by omega))) aF aH (y3 (Nat.le_trans Y (by omega))) (Di O)
  refine (W b_ ⟨rfl, rfl, rfl, rfl, Nat.le_refl _⟩).mono ?_
  rintro e A ⟨r, ab, rfl, d, rfl, K⟩
  have n : Below b_.heap.size b_ A := ⟨d.os, d.tape, d.output, by rw [d.heap]; exact K.size, fun k o => by rw [d.heap]; exact K.same k o (fun e => e)⟩
  exact ⟨_, rfl, _, _, _, [], _, [], J, trodAll_mk1 (shut_bool Tryz.underlying4 _), (trodAll_cons_mk (Below.trod laidOut (by kernel_rfl) (of_decide_eq_true (by kernel_rfl)) kF n ai) (trodAll_cons_mk (Below.trod laidOut (by kernel_rfl) (of_decide_eq_true (by kernel_rfl)) M n al) (trodAll_cons_mk (Below.trod laidOut (by kernel_rfl) (of_decide_eq_true (by kernel_rfl)) a7 n an) (trodAll_cons_mk (shut_int Tryz.underlying3 O) trodAll_mk0)))), rfl, n.frame _, fun h => by cases h⟩
theorem DE (os : Os) : laidMetH Tryz.prog Rows.refsTogetherUptoRow.laid ((World.laidAll Tryz.prog os Rows.refsTogetherUptoRow.laid).forCall (fun _ _ => 0) ⟨#[], #[.slice none 0 0, .slice none 0 0, ep rp, .int .i64 0], []⟩).memory := by
  rw [MakeChecks.laidMetH_plain _ _ _ (by kernel_rfl)]; exact laidMet_laidAll _ (by kernel_rfl) (by kernel_rfl)
theorem reads (os : Os) {H : Type} (enc : TypeId × Value → H) : ∃ places, DataW.whole enc Tryz.prog ((World.laidAll Tryz.prog os Rows.refsTogetherUptoRow.laid).forCall (fun _ _ => 0) ⟨#[], #[.slice none 0 0, .slice none 0 0, ep rp, .int .i64 0], []⟩).memory Tryz.f3.params.toList Rows.refsTogetherSpec.vars false (#[.slice none 0 0, .slice none 0 0, ep rp, .int .i64 0] : Array Value).toList 8 = some ([.nil, .nil, .agg [.lit (.bool false), .lit (.string []), .nil, .lit (.bool false), .agg [.lit (.int .i64 0), .lit (.string []), .agg (List.replicate 32 (.lit (.int .u8 0))), .agg (List.replicate 32 (.lit (.int .u8 0))), .nil, .lit (.int .i64 0), .lit (.int .i64 0), .lit (.bool false)], .nil], .lit (.int .i64 0)], [], places) :=
  ⟨[], by kernel_rfl⟩
set_option maxRecDepth 100000 in
theorem lifted (os : Os) (started : os.Started) (H : Type) (enc : TypeId × Value → H) (F : Stop.Interp) :
    ReturnsInHanded {} Tryz.checked os 3 .any ((Rows.OpenSpec.upto Rows.refsTogetherSpec).preRow enc Tryz.prog Tryz.f3 Rows.refsTogetherUptoRow.domain false Rows.refsTogetherUptoRow.laid) (((Rows.OpenSpec.upto Rows.refsTogetherSpec).at F).post enc Tryz.prog Tryz.f3 false true false false) := by
  obtain ⟨places, q⟩ := reads os enc
  refine returnsInHanded_of_row (C := Tryz.checked) (s := Rows.OpenSpec.upto Rows.refsTogetherSpec) own started (by kernel_rfl) Tryz.func3
    ⟨World.laidAll Tryz.prog os Rows.refsTogetherUptoRow.laid, fun _ _ => 0, ⟨#[], #[.slice none 0 0, .slice none 0 0, ep rp, .int .i64 0], []⟩, World.laidAll_os _ _ _, World.shaped_of_ZipB (by kernel_rfl) (by kernel_rfl), rfl, (Input.okWide_of_okWideB (by kernel_rfl)).2,
      OpenSpec.preRow_of_cond 8 q (by kernel_rfl) (fun k j => by cases j; kernel_rfl) (by kernel_rfl) (DE os), by simp only [Assume.holds]; exact ⟨by simp, by simp, fun _ => Modest.zero, by simp, by simp⟩⟩ ?_
  intro b_ base args ds gs before o d _ i r _ n _
  exact Cg H enc b_ base args ds gs before o d (i _ rfl) r n
theorem BP : mapsRowed Tryz.prog = true := by kernel_rfl
theorem BS : (Tryz.prog.stops == []) = true := by kernel_rfl
theorem BO : (Tryz.prog.stopKnobs == []) = true := by kernel_rfl
theorem BN : (Rows.refsTogetherUptoRow.inPlace == Tryz.prog.inPlace 3) = true := by kernel_rfl
theorem BT : (Rows.refsTogetherUptoRow.unfollowed == Tryz.prog.unfollowed 3) = true := by kernel_rfl
theorem BR : (Rows.refsTogetherUptoRow.recurses == Tryz.prog.recurses 3) = true := by kernel_rfl
theorem BQ : (Rows.refsTogetherUptoRow.named == Tryz.prog.varsNamed 3) = true := by kernel_rfl
theorem closed : joinedFacts Tryz.prog 3 Tryz.f3 (Rows.OpenSpec.upto Rows.refsTogetherSpec).bare Rows.refsTogetherUptoRow = true := by
  unfold joinedFacts
  rw [laidOut, BP, BS, BO, BN, BT, BR, BQ]; kernel_rfl
theorem said : Rows.RefsTogetherUptoSaid :=
  OpenClaim.holds_of_cond 3 Tryz.f3 rfl rfl rfl rfl rfl rfl rfl ⟨rfl, rfl, rfl, rfl, rfl⟩ rfl rfl rfl rfl rfl (by kernel_rfl) Tryz.func3 closed
    (of_decide_eq_true (by kernel_rfl)) (by unfold Func.isWrapper; first | (rw [if_pos (by decide +kernel)]; kernel_rfl) | (rw [if_neg (by decide +kernel)]; exact ⟨rfl, rfl⟩))
    (fun os started H enc _ F => by rw [OpenClaim.pre_eq_preRow]; exact lifted os started H enc F)
theorem plain (f : FuncId) (fn : Func) (k : Tryz.pinned.checked.prog.funcNamed "selvage/selvagelaw10.RefsTogether" = some f) (n : Tryz.pinned.checked.prog.funcs[f]? = some fn) :
    true = Tryz.pinned.checked.prog.looks [] ∧ ∀ (j : Nat) t, fn.params[j]? = some t → Tryz.pinned.checked.prog.wantsStandIn t = false := by
  obtain rfl : f = 3 := Option.some.inj ((show Tryz.prog.funcNamed "selvage/selvagelaw10.RefsTogether" = some 3 by kernel_rfl).symm.trans k) |>.symm
  obtain rfl : fn = Tryz.f3 := (Option.some.inj (Tryz.func3.symm.trans n)).symm
  refine ⟨by kernel_rfl, fun j t d => ?_⟩
  rw [Tryz.params3] at d
  have hm : t ∈ [22, 23, 32, 3] := by simpa using Array.mem_of_getElem? d
  have i : ([22, 23, 32, 3].all fun u => !Tryz.prog.wantsStandIn u) = true := by kernel_rfl
  exact (show Tryz.prog.wantsStandIn t = false by simpa using List.all_eq_true.1 i t hm)
/-- the card -/
theorem proved : Rows.RefsTogetherUptoCardSaid :=
  Claim7.holds_tied_plain_at .later [] _ _ _ _ said (fun _ h => by cases h) (by kernel_rfl) (fun _ h => by cases h) refsTogetherUpto_row_tie rfl ⟨rfl, rfl⟩ (by kernel_rfl) rfl plain (by kernel_rfl)
end lawRefsTogether
end Go.Proofs.YtfjmpninmdjcaaaGreatDoor.LawRefsTogether
