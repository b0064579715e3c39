/-
  However a journal is opened, appended to, made anew, cut off and read back, each call answers, and what the disk holds is, as the document says: for all arguments; the library variable MaxLen may hold any number.
-/
import Derived.Deep.DeepHandedRow
import Derived.LaidMore
import Derived.Lay
import Derived.SevenTiedAt
import Derived.Shelf.Vars
import Derived.Stop.Joined
import Derived.Test.YtdliddjkacbggaaGreatDoorGe
import Derived.Test.YtdliddjkacbggaaGreatDoorCards
import Derived.Test.YtdliddjkacbggaaGreatDoorTie
namespace Go.Proofs.YtdliddjkacbggaaGreatDoor.LawWalPlays
open Go.Proofs.YtdliddjkacbggaaGreatDoor.E Go.RowKit Go.Proofs.YtdliddjkacbggaaGreatDoor.SimA Go.Proofs.YtdliddjkacbggaaGreatDoor.SimR Go.Proofs.YtdliddjkacbggaaGreatDoor.SimX Go.Proofs.YtdliddjkacbggaaGreatDoor.WalA Go.Proofs.YtdliddjkacbggaaGreatDoor.WalB Go.Proofs.YtdliddjkacbggaaGreatDoor.WalC Go.Proofs.YtdliddjkacbggaaGreatDoor.WalI Go.Proofs.YtdliddjkacbggaaGreatDoor.WalJ Go.Proofs.YtdliddjkacbggaaGreatDoor.WalK Go.Proofs.YtdliddjkacbggaaGreatDoor.WdkA Go.Proofs.YtdliddjkacbggaaGreatDoor.WdkF
set_option maxRecDepth 20000
set_option linter.unusedVariables false
set_option linter.unusedSimpArgs false
set_option linter.unusedSectionVars false
section
variable {H : Type} {enc : TypeId × Value → H} {P : Program} {W : World} {base : Nat} {sp : Nat → Bool} {held : Bool}
open Go.ChangeShapes Go.WideShapes Go.ChangeAt Go.RowKit Go.Deep
theorem read_intsW {t e : TypeId} {v : Value} {d : DataW H} {p : List MemPlace} (hv : v.cells = #[v]) (ht : P.underlying t = some (.slice e)) (he : P.underlying e = some (.int .i64)) (hc : P.cellsOf e = 1) (hb : P.bytesOf e = 8) (h : DataW.Trod enc P W base sp held t v d p) :
    ∃ l : List Int, RdT W.heap fI 1 v l ∧ (∀ x ∈ l, -9223372036854775808 ≤ x ∧ x ≤ 9223372036854775807) ∧ (Wt P t d → l.length * 8 ≤ reachBytes) := by
  obtain ⟨l, h1, D, h3, h2⟩ := read_sliceD fI 1 (fun _ x => -9223372036854775808 ≤ x ∧ x ≤ 9223372036854775807) hv ht hc (by omega) (fun n cs' y ps hy hl => by
    obtain ⟨x, rfl, h3, h4⟩ := DataW.trod_int he hy
    exact ⟨x, rfl, i64_of h4⟩) h
  refine ⟨l, h1, fun x hx => ?_, fun hw => by have := (wt_elems ht h2 hw).1; rw [hb] at this; exact this⟩
  obtain ⟨i, hi⟩ := List.mem_iff_getElem?.1 hx
  exact h3 i x hi
theorem slice_cellC {t e : TypeId} {u : Value} {n : Nat} {y : DataW H × List MemPlace} (ht : P.underlying t = some (.slice e)) (h : DataW.trod enc P W base sp held n t [u] = some y) : ∃ s : SV, u = s.v := by
  rcases open_slice ht h with ⟨h1, _⟩ | ⟨a, len, cap, _, _, _, _, h1, _⟩
  · simp only [List.cons.injEq, and_true] at h1; exact ⟨⟨none, 0, 0⟩, h1⟩
  · simp only [List.cons.injEq, and_true] at h1; exact ⟨⟨some a, len, cap⟩, h1⟩

theorem read_wcalls {t e : TypeId} {f0 f1 f2 f3 : Field} {e2 u8 ti : TypeId} {v : Value} {d : DataW H} {p : List MemPlace} (hv : v.cells = #[v]) (ht : P.underlying t = some (.slice e)) (he : P.underlying e = some (.struct #[f0, f1, f2, f3])) (hc : P.cellsOf e = 4)
    (o0 : f0.offset = 0) (o1 : f1.offset = 1) (o2 : f2.offset = 2) (o3 : f3.offset = 3)
    (c0 : P.cellsOf f0.type = 1) (c1 : P.cellsOf f1.type = 1) (c2 : P.cellsOf f2.type = 1) (c3 : P.cellsOf f3.type = 1)
    (t0 : P.underlying f0.type = some (.int .i64)) (t1 : P.underlying f1.type = some (.int .i64)) (t2 : P.underlying f2.type = some (.slice e2)) (t3 : P.underlying f3.type = some (.slice ti))
    (h2 : P.underlying e2 = some (.slice u8)) (ce2 : P.cellsOf e2 = 1) (hu : P.underlying u8 = some (.int .u8)) (cu : P.cellsOf u8 = 1) (hi : P.underlying ti = some (.int .i64)) (ci : P.cellsOf ti = 1) (bi : P.bytesOf ti = 8) (h : DataW.Trod enc P W base sp held t v d p) :
    ∃ l : List Wl, RdT W.heap fWl 4 v l ∧ (∀ x ∈ l, (RdT W.heap fP 1 x.lv.v x.L ∧ (∀ y ∈ x.L, RdT W.heap fB 1 y.1.v y.2) ∧ RdT W.heap fI 1 x.pv.v x.pk) ∧ WlI x) ∧ (Wt P t d → ∀ x ∈ l, x.pk.length * 8 ≤ reachBytes) := by
  obtain ⟨l, h1, D, h3, h9⟩ := read_sliceD fWl 4 (fun y x => ((RdT W.heap fP 1 x.lv.v x.L ∧ (∀ y ∈ x.L, RdT W.heap fB 1 y.1.v y.2) ∧ RdT W.heap fI 1 x.pv.v x.pk) ∧ WlI x) ∧ ∃ d0 d1 d2 d3, y = .agg [d0, d1, d2, d3] ∧ (Wt P f3.type d3 → x.pk.length * 8 ≤ reachBytes)) hv ht hc (by omega) (fun n cs' y ps hy hl => by
    obtain ⟨xs, m, _, hx, hl', hlen, hf⟩ := DataW.trod_struct he hy
    match xs, hlen, hx with
    | [y0, y1, y2, y3], _, hx =>
      have q0 := hf 0 f0 rfl
      have q1 := hf 1 f1 rfl
      have q2 := hf 2 f2 rfl
      have q3 := hf 3 f3 rfl
      rw [o0, c0, List.drop_zero] at q0
      rw [o1, c1] at q1
      rw [o2, c2] at q2
      rw [o3, c3] at q3
      simp only [List.getElem?_cons_zero, List.getElem?_cons_succ] at q0 q1 q2 q3
      match cs', hl with
      | [u0, u1, u2, u3], _ =>
        simp only [List.take_succ_cons, List.take_zero, List.drop_succ_cons, List.drop_zero] at q0 q1 q2 q3
        obtain ⟨k, e0, _, w0⟩ := DataW.trod_int t0 q0
        obtain ⟨k1, e1, _, w1⟩ := DataW.trod_int t1 q1
        obtain ⟨sv2, rfl⟩ := slice_cellC t2 q2
        obtain ⟨sv3, rfl⟩ := slice_cellC t3 q3
        obtain ⟨L, hL, hLx, _⟩ := read_byteses rfl t2 h2 hu ce2 cu (show DataW.Trod enc P W base sp held f2.type sv2.v y2.1 y2.2 from ⟨m, q2⟩)
        obtain ⟨pk, hp, wp, hpw⟩ := read_intsW rfl t3 hi ci bi (show DataW.Trod enc P W base sp held f3.type sv3.v y3.1 y3.2 from ⟨m, q3⟩)
        simp only [List.cons.injEq, and_true] at e0 e1
        simp only [Prod.mk.injEq] at hx
        exact ⟨⟨k, k1, sv2, L, sv3, pk⟩, by rw [e0, e1], ⟨⟨hL, hLx, hp⟩, i64_of w0, i64_of w1, wp⟩, y0.1, y1.1, y2.1, y3.1, hx.1, hpw⟩) h
  refine ⟨l, h1, fun x hx => ?_, fun hw x hx => ?_⟩
  · obtain ⟨i, hi⟩ := List.mem_iff_getElem?.1 hx
    exact (h3 i x hi).1
  · obtain ⟨i, hi⟩ := List.mem_iff_getElem?.1 hx
    obtain ⟨_, d0, d1, d2, d3, e1, e2⟩ := h3 i x hi
    have w := (wt_elems ht h9 hw).2 i (List.getElem?_eq_some_iff.1 hi).1
    rw [e1] at w
    exact e2 (w.each he (j := 3) rfl rfl)
end

namespace lawWalPlays
open Go.ChangeShapes Go.WideShapes Go.ChangeAt Go.RowKit
open Go.ChangeMaps (open_string shut_string)
theorem own : ownKnob Tryz.prog.godebug = none := by kernel_rfl
theorem laidOut : laidOutB Tryz.prog = true := by kernel_rfl
theorem contract (H : Type) (enc : TypeId × Value → H) (W : World) (base : Nat) (args : Array Value) (ds gs : List (DataW H)) (before : List MemPlace)
    (hval : ∀ (j : Nat) t v, Tryz.f5.params[j]? = some t → args[j]? = some v → Value.okWide Tryz.prog W .any base t v)
    (hW : DataW.Whole enc Tryz.prog Tryz.f5.params.toList Rows.walPlaysSpec.vars false W args.toList ds gs before) (hz : (DataW.weightsEach Tryz.prog (Tryz.f5.params.toList ++ Rows.walPlaysSpec.plain.varTypes Tryz.prog) (ds ++ gs)).all (· ≤ reachBytes) = true) (hsh : W.ShapedOpen Tryz.prog) :
    Calls Tryz.prog 5 args W fun e W' => ∃ v, e = .returned v ∧ Rows.walPlaysSpec.post enc Tryz.prog Tryz.f5 false true false false W args v W' := by
  have hW' := hW
  obtain ⟨p, q, hA0, hV, rfl, hfz, hnd⟩ := hW
  have hA : DataW.TrodAll enc Tryz.prog W 0 (fun _ => true) true Tryz.f5.params.toList args.toList ds p := hA0
  rw [Tryz.params5] at hA hval
  obtain ⟨v0, vs0, d0, ds0, p0, q0, hargs, rfl, rfl, h0, r0⟩ := trodAll_cons hA
  obtain ⟨v1, vs1, d1, ds1, p1, q1, rfl, rfl, rfl, h1, r1⟩ := trodAll_cons r0
  obtain ⟨v2, vs2, d2, ds2, p2, q2, rfl, rfl, rfl, h2, r2⟩ := trodAll_cons r1
  obtain ⟨rfl, rfl, rfl⟩ := trodAll_nil r2
  obtain rfl : args = #[v0, v1, v2] := by cases args; simp_all
  obtain ⟨rfl, rfl⟩ := trodVars_none hV
  obtain ⟨a0, rfl, rfl, rfl, w0⟩ := open_int Tryz.underlying3 (hval 0 3 v0 rfl rfl) h0
  obtain ⟨a1, rfl, rfl, rfl, w1⟩ := open_string Tryz.underlying9 (hval 1 9 v1 rfl rfl) h1
  obtain ⟨a2, len2, cap2, rfl⟩ := okWide_slice Tryz.underlying44 (hval 2 44 v2 rfl rfl)
  have k2 := h2
  have lt2 : ∀ x ∈ p2, x.block < W.heap.size := by obtain ⟨m, hm⟩ := k2; exact DataW.trod_lt m _ _ _ hm
  obtain ⟨l2, rd2, mm2, hl2⟩ := read_wcalls rfl Tryz.underlying44 Tryz.underlying52 (by kernel_rfl) rfl rfl rfl rfl (by kernel_rfl) (by kernel_rfl) (by kernel_rfl) (by kernel_rfl) Tryz.underlying3 Tryz.underlying3 Tryz.underlying22 Tryz.underlying39 Tryz.underlying34 (by kernel_rfl) Tryz.underlying5 (by kernel_rfl) Tryz.underlying3 (by kernel_rfl) (by kernel_rfl) h2
  clear hA0
  simp only [List.append_nil] at hW'
  have wt1 : Wt Tryz.prog 9 _ := Wt.of hz (j := 1) rfl rfl
  have wt2 : Wt Tryz.prog 44 _ := Wt.of hz (j := 2) rfl rfl
  obtain ⟨mx_, mx, bf_mx⟩ := mx_of hsh
  have hct : Ct Tryz.prog W 5 #[.int .i64 a0, .string a1, .slice a2 len2 cap2] W.heap (fun r H2 => r = .bool true ∧ Nw W.heap H2) := wplays_ct mx_ a0 a1.data.toList ⟨a2, len2, cap2⟩ l2 W W.heap mx bf_mx rd2 (fun x h => (mm2 x h).1.1) (fun x h => (mm2 x h).1.2.1) (fun x h => (mm2 x h).1.2.2) (fun x h => (mm2 x h).2) (fun x h => by have h9 : x.pk.length * 8 ≤ 140737488351232 := Nat.le_trans (hl2 wt2 x h) (by decide); omega) (i64_of w0)
  refine (hct W ⟨rfl, rfl, rfl, rfl, Nat.le_refl _⟩).mono ?_
  rintro e W' ⟨r, H', rfl, ha', rfl, hnw⟩
  have bel : Below W.heap.size W W' := ⟨ha'.os, ha'.tape, ha'.output, by rw [ha'.heap]; exact hnw.size, fun k hk => by rw [ha'.heap]; exact hnw.same k hk (fun e => e)⟩
  exact ⟨_, rfl, _, _, _, [], _, [], hW', trodAll_mk1 (shut_bool Tryz.underlying4 _), (trodAll_cons_mk (shut_int Tryz.underlying3 w0) (trodAll_cons_mk (shut_string Tryz.underlying9 w1) (trodAll_cons_mk (Below.trod laidOut (by kernel_rfl) (of_decide_eq_true (by kernel_rfl)) k2 bel lt2) trodAll_mk0))), rfl, bel.frame _, fun h => by cases h⟩
theorem laid_met (os : Os) : laidMetH Tryz.prog Rows.walPlaysRow.laid ((World.laidAll Tryz.prog os Rows.walPlaysRow.laid).forCall (fun _ _ => 0) ⟨#[], #[.int .i64 0, .string .empty, .slice none 0 0], []⟩).memory := by
  rw [MakeChecks.laidMetH_plain _ _ _ (by kernel_rfl)]; exact laidMet_laidAll _ (by kernel_rfl) (by kernel_rfl)
theorem reads (os : Os) {H : Type} (enc : TypeId × Value → H) : ∃ places, DataW.whole enc Tryz.prog ((World.laidAll Tryz.prog os Rows.walPlaysRow.laid).forCall (fun _ _ => 0) ⟨#[], #[.int .i64 0, .string .empty, .slice none 0 0], []⟩).memory Tryz.f5.params.toList Rows.walPlaysSpec.vars false (#[.int .i64 0, .string .empty, .slice none 0 0] : Array Value).toList 8 = some ([.lit (.int .i64 0), .lit (.string []), .nil], [], places) :=
  ⟨[], by kernel_rfl⟩
set_option maxRecDepth 100000 in
theorem lifted (os : Os) (started : os.Started) (H : Type) (enc : TypeId × Value → H) (F : Stop.Interp) :
    ReturnsInHanded {} Tryz.checked os 5 .any ((OpenSpec.ofChange Rows.walPlaysSpec).preRow enc Tryz.prog Tryz.f5 Rows.walPlaysRow.domain false Rows.walPlaysRow.laid) (((OpenSpec.ofChange Rows.walPlaysSpec).at F).post enc Tryz.prog Tryz.f5 false true false false) := by
  obtain ⟨places, hx⟩ := reads os enc
  refine returnsInHanded_of_row (C := Tryz.checked) (s := OpenSpec.ofChange Rows.walPlaysSpec) own started (by kernel_rfl) Tryz.func5
    ⟨World.laidAll Tryz.prog os Rows.walPlaysRow.laid, fun _ _ => 0, ⟨#[], #[.int .i64 0, .string .empty, .slice none 0 0], []⟩, World.laidAll_os _ _ _, World.shaped_of_ZipB (by kernel_rfl) (by kernel_rfl), rfl, (Input.okWide_of_okWideB (by kernel_rfl)).2,
      OpenSpec.preRow_of_cond 8 hx (by kernel_rfl) (fun k hk => by cases hk) (by kernel_rfl) (laid_met os), by simp only [Assume.holds]; exact ⟨by simp, by simp, fun _ => Modest.zero, by simp, by simp⟩⟩ ?_
  intro W base args ds gs before hval hW _ hcond hz _ hsh _
  exact contract H enc W base args ds gs before hval hW hz hsh
theorem said : Rows.WalPlaysSaid :=
  OpenClaim.holds_of_cond 5 Tryz.f5 rfl rfl rfl rfl rfl rfl rfl ⟨rfl, rfl, rfl, rfl, rfl⟩ rfl rfl rfl rfl rfl (by kernel_rfl) Tryz.func5 (by kernel_rfl)
    (of_decide_eq_true (by kernel_rfl)) (by unfold Func.isWrapper; first | (rw [if_pos (by decide +kernel)]; kernel_rfl) | (rw [if_neg (by decide +kernel)]; exact ⟨rfl, rfl⟩))
    (fun os started H enc _ F => by rw [OpenClaim.pre_eq_preRow]; exact lifted os started H enc F)
theorem plain (f : FuncId) (fn : Func) (hf : Tryz.pinned.checked.prog.funcNamed "selvage/selvagelaw3.WalPlays" = some f) (hfn : Tryz.pinned.checked.prog.funcs[f]? = some fn) :
    true = Tryz.pinned.checked.prog.looks [] ∧ ∀ (j : Nat) t, fn.params[j]? = some t → Tryz.pinned.checked.prog.wantsStandIn t = false := by
  obtain rfl : f = 5 := Option.some.inj ((show Tryz.prog.funcNamed "selvage/selvagelaw3.WalPlays" = some 5 by kernel_rfl).symm.trans hf) |>.symm
  obtain rfl : fn = Tryz.f5 := (Option.some.inj (Tryz.func5.symm.trans hfn)).symm
  refine ⟨by kernel_rfl, fun j t ht => ?_⟩
  rw [Tryz.params5] at ht
  have hm : t ∈ [3, 9, 44] := by simpa using Array.mem_of_getElem? ht
  have hall : ([3, 9, 44].all fun u => !Tryz.prog.wantsStandIn u) = true := by kernel_rfl
  exact (show Tryz.prog.wantsStandIn t = false by simpa using List.all_eq_true.1 hall t hm)
/-- the card -/
theorem proved : Rows.WalPlaysCardSaid :=
  Claim7.holds_tied_plain_at .later [] _ _ _ _ said (fun _ h => by cases h) (by kernel_rfl) (fun _ h => by cases h) walPlays_row_tie rfl ⟨rfl, rfl⟩ (by kernel_rfl) rfl plain (by kernel_rfl)
end lawWalPlays
end Go.Proofs.YtdliddjkacbggaaGreatDoor.LawWalPlays
