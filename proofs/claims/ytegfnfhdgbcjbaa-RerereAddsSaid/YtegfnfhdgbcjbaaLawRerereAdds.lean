/-
  Whatever is added to a memory, what it holds, and finds, is what the document says; what was added last is found: for all arguments, no condition.
-/
import Derived.Test.YtegfnfhdgbcjbaaRerL
import Derived.Test.YtegfnfhdgbcjbaaReadW
namespace Go.Proofs.Ytegfnfhdgbcjbaa.LawRerereAdds
open Go.Proofs.Ytegfnfhdgbcjbaa.E Go.RowKit Go.Proofs.Ytegfnfhdgbcjbaa.SumA Go.Proofs.Ytegfnfhdgbcjbaa.SumB Go.Proofs.Ytegfnfhdgbcjbaa.MerA Go.Proofs.Ytegfnfhdgbcjbaa.LinC Go.Proofs.Ytegfnfhdgbcjbaa.RerA Go.Proofs.Ytegfnfhdgbcjbaa.RerB Go.Proofs.Ytegfnfhdgbcjbaa.RerF Go.Proofs.Ytegfnfhdgbcjbaa.RerL
set_option maxRecDepth 20000
set_option linter.unusedVariables false
set_option linter.unusedSimpArgs false
set_option linter.unusedSectionVars false

section
variable {H : Type} {enc : TypeId × Value → H} {P : Program} {W : World} {base : Nat} {sp : Nat → Bool} {held : Bool}
open Go.ChangeShapes Go.WideShapes Go.ChangeAt Go.RowKit Go.Deep
theorem read_mems {t e : TypeId} {f0 f1 : Field} {u8 : TypeId} {v : Value} {d : DataW H} {p : List MemPlace} (hv : v.cells = #[v]) (ht : P.underlying t = some (.slice e)) (he : P.underlying e = some (.struct #[f0, f1])) (hc : P.cellsOf e = 33)
    (o0 : f0.offset = 0) (o1 : f1.offset = 32) (c0 : P.cellsOf f0.type = 32) (c1 : P.cellsOf f1.type = 1) (t0 : P.underlying f0.type = some (.array 32 u8)) (t1 : P.underlying f1.type = some (.slice u8)) (hu : P.underlying u8 = some (.int .u8)) (cu : P.cellsOf u8 = 1) (bu : P.bytesOf u8 = 1) (h : DataW.Trod enc P W base sp held t v d p) :
    ∃ l : List Mm, RdT W.heap fM 33 v l ∧ (∀ x ∈ l, MmR (fun _ => True) W.heap x) ∧ (Wt P t d → ∀ x ∈ l, x.d.length ≤ reachBytes) := by
  obtain ⟨l, h1, D, h3, h2⟩ := read_sliceD fM 33 (fun y x => MmR (fun _ => True) W.heap x ∧ ∃ d0 d1, y = .agg [d0, d1] ∧ (Wt P f1.type d1 → x.d.length ≤ reachBytes)) hv ht hc (by omega) (fun n cs' y ps hy hl => by
    obtain ⟨y0, y1, m, hx, hl', q0, q1⟩ := trod_struct2 he hy
    rw [o0, c0, List.drop_zero] at q0
    rw [o1, c1] at q1
    obtain ⟨k, hk, hkl⟩ := read_arrC t0 hu cu (by simp; omega) q0
    obtain ⟨u, hu1⟩ : ∃ u, (cs'.drop 32).take 1 = [u] := by
      have h9 : ((cs'.drop 32).take 1).length = 1 := by simp; omega
      exact List.length_eq_one_iff.1 h9
    rw [hu1] at q1
    obtain ⟨s, rfl⟩ := slice_cell t1 q1
    obtain ⟨b, hb, hbw⟩ := read_bytesW rfl t1 hu cu bu (show DataW.Trod enc P W base sp held f1.type s.v y1.1 y1.2 from ⟨m, q1⟩)
    simp only [Prod.mk.injEq] at hx
    refine ⟨⟨k, b, s⟩, ?_, ⟨hkl, hb⟩, y0.1, y1.1, hx.1, hbw⟩
    have e1 : cs' = cs'.take 32 ++ (cs'.drop 32).take 1 := by
      rw [List.take_of_length_le (l := cs'.drop 32) (by simp; omega), List.take_append_drop]
    rw [e1, hk, hu1]
    show _ = kc k ++ [s.v]
    rw [kc_eq hkl]) h
  refine ⟨l, h1, fun x hx => ?_, fun hw x hx => ?_⟩
  · obtain ⟨i, hi⟩ := List.mem_iff_getElem?.1 hx
    exact (h3 i x hi).1
  · obtain ⟨i, hi⟩ := List.mem_iff_getElem?.1 hx
    obtain ⟨_, d0, d1, e1, e2⟩ := h3 i x hi
    have w := (wt_elems ht h2 hw).2 i (List.getElem?_eq_some_iff.1 hi).1
    rw [e1] at w
    exact e2 (w.each he (j := 1) rfl rfl)
end

namespace lawRerereAdds
open Go.ChangeShapes Go.WideShapes Go.ChangeAt Go.RowKit
open Go.ChangeMaps (open_string shut_string)
theorem own : ownKnob Try.prog.godebug = none := by kernel_rfl
theorem laidOut : laidOutB Try.prog = true := by kernel_rfl
theorem contract (H : Type) (enc : TypeId × Value → H) (W : World) (base : Nat) (args : Array Value) (ds gs : List (DataW H)) (before : List MemPlace)
    (hval : ∀ (j : Nat) t v, Try.f6.params[j]? = some t → args[j]? = some v → Value.okWide Try.prog W .any base t v)
    (hW : DataW.Whole enc Try.prog Try.f6.params.toList Rows.rerereAddsSpec.vars false W args.toList ds gs before) (hz : (DataW.weightsEach Try.prog (Try.f6.params.toList ++ Rows.rerereAddsSpec.plain.varTypes Try.prog) (ds ++ gs)).all (· ≤ reachBytes) = true) :
    Calls Try.prog 6 args W fun e W' => ∃ v, e = .returned v ∧ Rows.rerereAddsSpec.post enc Try.prog Try.f6 false true false false W args v W' := by
  have hW' := hW
  obtain ⟨p, q, hA0, hV, rfl, hfz, hnd⟩ := hW
  have hA : DataW.TrodAll enc Try.prog W 0 (fun _ => true) true Try.f6.params.toList args.toList ds p := hA0
  rw [Try.params6] at hA hval
  obtain ⟨v0, vs0, d0, ds0, p0, q0, hargs, rfl, rfl, h0, r0⟩ := trodAll_cons hA
  obtain ⟨v1, vs1, d1, ds1, p1, q1, rfl, rfl, rfl, h1, r1⟩ := trodAll_cons r0
  obtain ⟨v2, vs2, d2, ds2, p2, q2, rfl, rfl, rfl, h2, r2⟩ := trodAll_cons r1
  obtain ⟨rfl, rfl, rfl⟩ := trodAll_nil r2
  obtain rfl : args = #[v0, v1, v2] := by cases args; simp_all
  obtain ⟨rfl, rfl⟩ := trodVars_none hV
  obtain ⟨a0, len0, cap0, rfl⟩ := okWide_slice Try.underlying40 (hval 0 40 v0 rfl rfl)
  have k0 := h0
  have lt0 : ∀ x ∈ p0, x.block < W.heap.size := by obtain ⟨m, hm⟩ := k0; exact DataW.trod_lt m _ _ _ hm
  obtain ⟨l0, rd0, mm0, hl0⟩ := read_mems rfl Try.underlying40 Try.underlying47 (by kernel_rfl) rfl rfl (by kernel_rfl) (by kernel_rfl) Try.underlying25 Try.underlying22 Try.underlying5 (by kernel_rfl) (by kernel_rfl) h0
  obtain ⟨a1, len1, cap1, rfl⟩ := okWide_slice Try.underlying40 (hval 1 40 v1 rfl rfl)
  have k1 := h1
  have lt1 : ∀ x ∈ p1, x.block < W.heap.size := by obtain ⟨m, hm⟩ := k1; exact DataW.trod_lt m _ _ _ hm
  obtain ⟨l1, rd1, mm1, hl1⟩ := read_mems rfl Try.underlying40 Try.underlying47 (by kernel_rfl) rfl rfl (by kernel_rfl) (by kernel_rfl) Try.underlying25 Try.underlying22 Try.underlying5 (by kernel_rfl) (by kernel_rfl) h1
  have k2 := h2
  have lt2 : ∀ x ∈ p2, x.block < W.heap.size := by obtain ⟨m, hm⟩ := k2; exact DataW.trod_lt m _ _ _ hm
  obtain ⟨l2, rfl, hl2⟩ := read_arr8 Try.underlying25 Try.underlying5 (by kernel_rfl) (by kernel_rfl) (hval 2 25 v2 rfl rfl) h2
  clear hA0
  simp only [List.append_nil] at hW'
  have wt0 : Wt Try.prog 40 _ := Wt.of hz (j := 0) rfl rfl
  have wt1 : Wt Try.prog 40 _ := Wt.of hz (j := 1) rfl rfl
  have hct : Ct Try.prog W 6 #[.slice a0 len0 cap0, .slice a1 len1 cap1, idV l2] W.heap (fun r H2 => r = .bool true ∧ Nw W.heap H2) := rerereAdds_ct _ _ l0 l1 l2 W W.heap rd0 rd1 hl2 mm0 mm1 (fun x h => Nat.le_trans (hl0 wt0 x h) (by decide)) (fun x h => Nat.le_trans (hl1 wt1 x h) (by decide))
  refine (hct W ⟨rfl, rfl, rfl, rfl⟩).mono ?_
  rintro e W' ⟨r, H', rfl, ha', rfl, hnw⟩
  have bel : Below W.heap.size W W' := ⟨ha'.os, ha'.tape, ha'.output, by rw [ha'.heap]; exact hnw.size, fun k hk => by rw [ha'.heap]; exact hnw.same k hk (fun e => e)⟩
  exact ⟨_, rfl, _, _, _, [], _, [], hW', trodAll_mk1 (shut_bool Try.underlying4 _), (trodAll_cons_mk (Below.trod laidOut (by kernel_rfl) (of_decide_eq_true (by kernel_rfl)) k0 bel lt0) (trodAll_cons_mk (Below.trod laidOut (by kernel_rfl) (of_decide_eq_true (by kernel_rfl)) k1 bel lt1) (trodAll_cons_mk (Below.trod laidOut (by kernel_rfl) (of_decide_eq_true (by kernel_rfl)) k2 bel lt2) trodAll_mk0))), rfl, bel.frame _, fun h => by cases h⟩
set_option maxRecDepth 100000 in
theorem lifted (os : Os) (started : os.Started) (H : Type) (enc : TypeId × Value → H) :
    ReturnsInHanded {} Try.checked os 6 .any (Rows.rerereAddsSpec.pre6 enc Try.prog Try.f6 Rows.rerereAddsRow.domain false) (Rows.rerereAddsSpec.post enc Try.prog Try.f6 false true false false) := by
  refine returnsInHanded_of_change_sized (C := Try.checked) own started (by kernel_rfl) Try.func6
    (ChangeSpec.witness6 (enc := enc) (C := Try.checked) false ⟨#[], #[.slice none 0 0, .slice none 0 0, .agg (List.replicate 32 (.int .u8 0)).toArray], []⟩ 8 (by kernel_rfl) (by kernel_rfl) (by kernel_rfl) (by kernel_rfl)) ?_
  intro W base args ds gs before hval hW _ hz _
  exact contract H enc W base args ds gs before hval hW hz
/-- the statement -/
theorem proved : Rows.RerereAddsSaid :=
  OpenClaim.holds_of_wide 6 Try.f6 rfl rfl rfl rfl rfl rfl rfl ⟨rfl, rfl, rfl, rfl, rfl⟩ rfl rfl rfl rfl rfl (by kernel_rfl) Try.func6 (by kernel_rfl)
    (of_decide_eq_true (by kernel_rfl)) (by unfold Func.isWrapper; first | (rw [if_pos (by decide +kernel)]; kernel_rfl) | (rw [if_neg (by decide +kernel)]; exact ⟨rfl, rfl⟩))
    (fun os started H enc _ => lifted os started H enc)
end lawRerereAdds
end Go.Proofs.Ytegfnfhdgbcjbaa.LawRerereAdds
