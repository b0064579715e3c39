/-
  Any bytes are merged, rendered chunks of any kinds, marks told, and read again, as the document says: for all arguments of bulk at most 1048576.
-/
import Derived.Test.YtadgeooceeilpaaMerO
import Derived.Test.YtadgeooceeilpaaRead
namespace Go.Proofs.Ytadgeooceeilpaa.LawMergeTexts
open Go.Proofs.Ytadgeooceeilpaa.E Go.RowKit Go.Proofs.Ytadgeooceeilpaa.LinM Go.Proofs.Ytadgeooceeilpaa.LinA Go.Proofs.Ytadgeooceeilpaa.LinC Go.Proofs.Ytadgeooceeilpaa.LinL Go.Proofs.Ytadgeooceeilpaa.MerA Go.Proofs.Ytadgeooceeilpaa.MerB Go.Proofs.Ytadgeooceeilpaa.MerC Go.Proofs.Ytadgeooceeilpaa.MerD Go.Proofs.Ytadgeooceeilpaa.MerE Go.Proofs.Ytadgeooceeilpaa.MerF Go.Proofs.Ytadgeooceeilpaa.MerG Go.Proofs.Ytadgeooceeilpaa.MerH Go.Proofs.Ytadgeooceeilpaa.MerI Go.Proofs.Ytadgeooceeilpaa.MerJ Go.Proofs.Ytadgeooceeilpaa.MerL Go.Proofs.Ytadgeooceeilpaa.MerM Go.Proofs.Ytadgeooceeilpaa.MerN Go.Proofs.Ytadgeooceeilpaa.MerO
set_option linter.unusedVariables false
set_option linter.unusedSimpArgs false
set_option linter.unusedSectionVars false

theorem strs_bd {l : List (List UInt8)} {n : Nat} (h : (l.map (fun s => s.length + 1)).sum + 1 ≤ n) (hn : n ≤ 1048576) : (∀ s ∈ l, s.length ≤ 1048576) ∧ l.length ≤ 1048576 :=
  ⟨fun s hs => by have := sum_mem (fun s : List UInt8 => s.length + 1) l s hs; omega, by have := sum_len (fun s : List UInt8 => s.length + 1) (fun _ => by omega) l; omega⟩


abbrev BK (x : Ck) : Nat := ((x.b.map (fun s => s.length + 1)).sum + 1) + ((x.o.map (fun s => s.length + 1)).sum + 1) + ((x.t.map (fun s => s.length + 1)).sum + 1)
theorem chunks_ok {l : List Ck} {n : Nat} (h : (l.map BK).sum + 1 ≤ n) (hn : n ≤ 1048576) : (∀ x ∈ l, StrsOk x.b ∧ StrsOk x.o ∧ StrsOk x.t) ∧ l.length ≤ 1048576 :=
  ⟨fun x hx => by
    have h1 := sum_mem BK l x hx
    have h2 : BK x ≤ 1048576 := by omega
    exact ⟨strs_bd (n := BK x) (by unfold BK; omega) h2, strs_bd (n := BK x) (by unfold BK; omega) h2, strs_bd (n := BK x) (by unfold BK; omega) h2⟩, by have := sum_len BK (fun _ => by unfold BK; omega) l; omega⟩

namespace lawMergeTexts
open Go.ChangeShapes Go.WideShapes Go.ChangeAt Go.RowKit
open Go.ChangeMaps (open_string shut_string)
theorem own : ownKnob Try.prog.godebug = none := by kernel_rfl
theorem laidOut : laidOutB Try.prog = true := by kernel_rfl
theorem contract (H : Type) (enc : TypeId × Value → H) (W : World) (base : Nat) (args : Array Value) (ds gs : List (DataW H)) (before : List MemPlace)
    (hval : ∀ (j : Nat) t v, Try.f8.params[j]? = some t → args[j]? = some v → Value.okWide Try.prog W .any base t v)
    (hW : DataW.Whole enc Try.prog Try.f8.params.toList Rows.mergeTextsSpec.vars false W args.toList ds gs before) (hk : Rows.uptoSmall H (ds ++ gs) = true) :
    Calls Try.prog 8 args W fun e W' => ∃ v, e = .returned v ∧ Rows.mergeTextsSpec.post enc Try.prog Try.f8 false true false false W args v W' := by
  have hW' := hW
  obtain ⟨p, q, hA0, hV, rfl, hfz, hnd⟩ := hW
  have hA : DataW.TrodAll enc Try.prog W 0 (fun _ => true) true Try.f8.params.toList args.toList ds p := hA0
  rw [Try.params8] at hA hval
  obtain ⟨v0, vs0, d0, ds0, p0, q0, hargs, rfl, rfl, h0, r0⟩ := trodAll_cons hA
  obtain ⟨v1, vs1, d1, ds1, p1, q1, rfl, rfl, rfl, h1, r1⟩ := trodAll_cons r0
  obtain ⟨v2, vs2, d2, ds2, p2, q2, rfl, rfl, rfl, h2, r2⟩ := trodAll_cons r1
  obtain ⟨v3, vs3, d3, ds3, p3, q3, rfl, rfl, rfl, h3, r3⟩ := trodAll_cons r2
  obtain ⟨v4, vs4, d4, ds4, p4, q4, rfl, rfl, rfl, h4, r4⟩ := trodAll_cons r3
  obtain ⟨rfl, rfl, rfl⟩ := trodAll_nil r4
  obtain rfl : args = #[v0, v1, v2, v3, v4] := by cases args; simp_all
  obtain ⟨rfl, rfl⟩ := trodVars_none hV
  obtain ⟨a0, len0, cap0, rfl⟩ := okWide_slice Try.underlying32 (hval 0 32 v0 rfl rfl)
  have k0 := h0
  have lt0 : ∀ x ∈ p0, x.block < W.heap.size := by obtain ⟨m, hm⟩ := k0; exact DataW.trod_lt m _ _ _ hm
  obtain ⟨l0, rd0, hl0⟩ := read_bytes rfl Try.underlying32 Try.underlying5 (by kernel_rfl) h0
  obtain ⟨a1, len1, cap1, rfl⟩ := okWide_slice Try.underlying32 (hval 1 32 v1 rfl rfl)
  have k1 := h1
  have lt1 : ∀ x ∈ p1, x.block < W.heap.size := by obtain ⟨m, hm⟩ := k1; exact DataW.trod_lt m _ _ _ hm
  obtain ⟨l1, rd1, hl1⟩ := read_bytes rfl Try.underlying32 Try.underlying5 (by kernel_rfl) h1
  obtain ⟨a2, len2, cap2, rfl⟩ := okWide_slice Try.underlying32 (hval 2 32 v2 rfl rfl)
  have k2 := h2
  have lt2 : ∀ x ∈ p2, x.block < W.heap.size := by obtain ⟨m, hm⟩ := k2; exact DataW.trod_lt m _ _ _ hm
  obtain ⟨l2, rd2, hl2⟩ := read_bytes rfl Try.underlying32 Try.underlying5 (by kernel_rfl) h2
  obtain ⟨a3, len3, cap3, rfl⟩ := okWide_slice Try.underlying25 (hval 3 25 v3 rfl rfl)
  have k3 := h3
  have lt3 : ∀ x ∈ p3, x.block < W.heap.size := by obtain ⟨m, hm⟩ := k3; exact DataW.trod_lt m _ _ _ hm
  obtain ⟨l3, rd3, hx3, hl3⟩ := read_chunks rfl Try.underlying25 Try.underlying42 (by kernel_rfl) rfl rfl rfl rfl (by kernel_rfl) (by kernel_rfl) (by kernel_rfl) (by kernel_rfl) Try.underlying3 Try.underlying22 Try.underlying22 Try.underlying22 Try.underlying9 (by kernel_rfl) h3
  obtain ⟨a4, len4, cap4, rfl⟩ := okWide_slice Try.underlying32 (hval 4 32 v4 rfl rfl)
  have k4 := h4
  have lt4 : ∀ x ∈ p4, x.block < W.heap.size := by obtain ⟨m, hm⟩ := k4; exact DataW.trod_lt m _ _ _ hm
  obtain ⟨l4, rd4, hl4⟩ := read_bytes rfl Try.underlying32 Try.underlying5 (by kernel_rfl) h4
  clear hA0
  simp only [List.append_nil] at hW' hk
  have hb : Rows.uptoBulkAll [d0, d1, d2, d3, d4] ≤ 1048576 := of_decide_eq_true hk
  simp only [Rows.uptoBulkAll, Rows.uptoBulk] at hb
  have hct : Ct Try.prog W 8 #[.slice a0 len0 cap0, .slice a1 len1 cap1, .slice a2 len2 cap2, .slice a3 len3 cap3, .slice a4 len4 cap4] W.heap (fun r H2 => r = .bool true ∧ Nw W.heap H2) := mergeTexts_ct _ _ _ _ _ l0 l1 l2 l3 l4 W W.heap rd0 rd1 rd2 rd3 (fun x e => (hx3 x e).1) rd4 (by omega) (by omega) (by omega) (by omega) (chunks_ok hl3 (by omega)).2 (chunks_ok hl3 (by omega)).1
  refine (hct W ⟨rfl, rfl, rfl, rfl⟩).mono ?_
  rintro e W' ⟨r, H', rfl, ha', rfl, hnw⟩
  have bel : Below W.heap.size W W' := ⟨ha'.os, ha'.tape, ha'.output, by rw [ha'.heap]; exact hnw.size, fun k hk => by rw [ha'.heap]; exact hnw.same k hk (fun e => e)⟩
  exact ⟨_, rfl, _, _, _, [], _, [], hW', trodAll_mk1 (shut_bool Try.underlying4 _), (trodAll_cons_mk (Below.trod laidOut (by kernel_rfl) (of_decide_eq_true (by kernel_rfl)) k0 bel lt0) (trodAll_cons_mk (Below.trod laidOut (by kernel_rfl) (of_decide_eq_true (by kernel_rfl)) k1 bel lt1) (trodAll_cons_mk (Below.trod laidOut (by kernel_rfl) (of_decide_eq_true (by kernel_rfl)) k2 bel lt2) (trodAll_cons_mk (Below.trod laidOut (by kernel_rfl) (of_decide_eq_true (by kernel_rfl)) k3 bel lt3) (trodAll_cons_mk (Below.trod laidOut (by kernel_rfl) (of_decide_eq_true (by kernel_rfl)) k4 bel lt4) trodAll_mk0))))), rfl, bel.frame _, fun h => by cases h⟩
set_option maxRecDepth 100000 in
theorem lifted (os : Os) (started : os.Started) (H : Type) (enc : TypeId × Value → H) (F : Stop.Interp) :
    ReturnsInHanded {} Try.checked os 8 .any ((Rows.OpenSpec.upto Rows.mergeTextsSpec).pre6 enc Try.prog Try.f8 Rows.mergeTextsUptoRow.domain false) (((Rows.OpenSpec.upto Rows.mergeTextsSpec).at F).post enc Try.prog Try.f8 false true false false) := by
  refine returnsInHanded_of_cond (C := Try.checked) (s := Rows.OpenSpec.upto Rows.mergeTextsSpec) (k := Rows.uptoSmall) rfl own started (by kernel_rfl) Try.func8
    (OpenSpec.witness (enc := enc) (C := Try.checked) (s := Rows.OpenSpec.upto Rows.mergeTextsSpec) (k := Rows.uptoSmall) rfl false ⟨#[], #[.slice none 0 0, .slice none 0 0, .slice none 0 0, .slice none 0 0, .slice none 0 0], []⟩ 8 (by kernel_rfl) (by kernel_rfl) (by kernel_rfl)
      (x := ([.nil, .nil, .nil, .nil, .nil], [], [])) (by kernel_rfl) rfl (by kernel_rfl)) ?_
  intro W base args ds gs before hval hW _ hk _
  exact contract H enc W base args ds gs before hval hW hk
/-- the statement -/
theorem proved : Rows.MergeTextsUptoSaid :=
  OpenClaim.holds_of_cond 8 Try.f8 rfl rfl rfl rfl rfl rfl rfl ⟨rfl, rfl, rfl, rfl, rfl⟩ rfl rfl rfl rfl rfl (by kernel_rfl) Try.func8 (by kernel_rfl)
    (of_decide_eq_true (by kernel_rfl)) (by unfold Func.isWrapper; first | (rw [if_pos (by decide +kernel)]; kernel_rfl) | (rw [if_neg (by decide +kernel)]; exact ⟨rfl, rfl⟩))
    (fun os started H enc _ F => lifted os started H enc F)
end lawMergeTexts
end Go.Proofs.Ytadgeooceeilpaa.LawMergeTexts
