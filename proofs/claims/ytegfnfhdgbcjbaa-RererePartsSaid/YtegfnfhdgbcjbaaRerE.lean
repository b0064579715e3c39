/-
  The contract of RerereParts.
-/
import Derived.Test.YtegfnfhdgbcjbaaRerC
import Derived.Test.YtegfnfhdgbcjbaaRerB
namespace Go.Proofs.Ytegfnfhdgbcjbaa.RerE
open Go.Proofs.Ytegfnfhdgbcjbaa.E Go.RowKit Go.Proofs.Ytegfnfhdgbcjbaa.LinM Go.Proofs.Ytegfnfhdgbcjbaa.LinA Go.Proofs.Ytegfnfhdgbcjbaa.LinC Go.Proofs.Ytegfnfhdgbcjbaa.LinF Go.Proofs.Ytegfnfhdgbcjbaa.LinL Go.Proofs.Ytegfnfhdgbcjbaa.LinN Go.Proofs.Ytegfnfhdgbcjbaa.MerA Go.Proofs.Ytegfnfhdgbcjbaa.MerB Go.Proofs.Ytegfnfhdgbcjbaa.MerC Go.Proofs.Ytegfnfhdgbcjbaa.MerD Go.Proofs.Ytegfnfhdgbcjbaa.MerE Go.Proofs.Ytegfnfhdgbcjbaa.MerF Go.Proofs.Ytegfnfhdgbcjbaa.MerG Go.Proofs.Ytegfnfhdgbcjbaa.MerH Go.Proofs.Ytegfnfhdgbcjbaa.MerI Go.Proofs.Ytegfnfhdgbcjbaa.MerL Go.Proofs.Ytegfnfhdgbcjbaa.MerM Go.Proofs.Ytegfnfhdgbcjbaa.MerN Go.Proofs.Ytegfnfhdgbcjbaa.MerP Go.Proofs.Ytegfnfhdgbcjbaa.SumA Go.Proofs.Ytegfnfhdgbcjbaa.SumB Go.Proofs.Ytegfnfhdgbcjbaa.SumC Go.Proofs.Ytegfnfhdgbcjbaa.SumD Go.Proofs.Ytegfnfhdgbcjbaa.SumE Go.Proofs.Ytegfnfhdgbcjbaa.SumF Go.Proofs.Ytegfnfhdgbcjbaa.SumG Go.Proofs.Ytegfnfhdgbcjbaa.SumK Go.Proofs.Ytegfnfhdgbcjbaa.SumL Go.Proofs.Ytegfnfhdgbcjbaa.DelA Go.Proofs.Ytegfnfhdgbcjbaa.RerA Go.Proofs.Ytegfnfhdgbcjbaa.RerB Go.Proofs.Ytegfnfhdgbcjbaa.RerC
set_option maxRecDepth 20000
set_option linter.unusedVariables false
set_option linter.unusedSimpArgs false
set_option linter.unusedSectionVars false
set_option maxRecDepth 100000 in
theorem inf32 : Inf Try.prog 32 9 1 16 := ⟨Try.underlying32, _, _, rfl, rfl, rfl, rfl, rfl⟩

abbrev bsL : List UInt8 := [98, 97, 115, 101, 10]
/-- the lines of a text with one clash -/
def Lp (a b c d : List UInt8) : LL := [a ++ [10], mk 0, b ++ [10], mk 1, bsL, mk 2, c ++ [10], mk 3, d ++ [10]]
/-- a line of a text without line feeds, which is no mark -/
def Ln (s : List UInt8) : Prop := (10 : UInt8) ∉ s ∧ marksL (s ++ [10]) = false
theorem Ln.eol {s : List UInt8} (h : Ln s) : Eol (s ++ [10]) := ⟨s, rfl, h.1⟩
theorem Ln.nm {s : List UInt8} (h : Ln s) : markL (s ++ [10]) < 0 := by
  have h2 := h.2
  have e := split_eol [s ++ [10]] (fun x hx => by rw [List.mem_singleton] at hx; rw [hx]; exact h.eol)
  rw [List.flatten_cons, List.flatten_nil, List.append_nil] at e
  rw [marksL, e] at h2
  simpa using h2
theorem bs_eol : Eol bsL := ⟨[98, 97, 115, 101], rfl, by decide⟩
theorem bs_nm : markL bsL < 0 := by decide
theorem Lp_eol {a b c d : List UInt8} (ha : Ln a) (hb : Ln b) (hc : Ln c) (hd : Ln d) : ∀ s ∈ Lp a b c d, Eol s := by
  intro s hs
  simp only [Lp, List.mem_cons, List.not_mem_nil, or_false] at hs
  rcases hs with rfl | rfl | rfl | rfl | rfl | rfl | rfl | rfl | rfl
  · exact ha.eol
  · exact mk_eol (by decide)
  · exact hb.eol
  · exact mk_eol (by decide)
  · exact bs_eol
  · exact mk_eol (by decide)
  · exact hc.eol
  · exact mk_eol (by decide)
  · exact hd.eol
abbrev csP (a b c d : List UInt8) : List Cn := [(0, [a ++ [10]], [a ++ [10]], [a ++ [10]]), (4, [bsL], [b ++ [10]], [c ++ [10]]), (0, [d ++ [10]], [d ++ [10]], [d ++ [10]])]
theorem csP_lines (a b c d : List UInt8) : ((csP a b c d).map linesC).flatten = Lp a b c d := by simp [linesC, sideC, Lp]
theorem one_nm {s : List UInt8} (h : markL s < 0) : ∀ x ∈ [s], markL x < 0 := fun x hx => by rw [List.mem_singleton] at hx; rw [hx]; exact h
theorem parse_P {a b c d : List UInt8} (ha : Ln a) (hb : Ln b) (hc : Ln c) (hd : Ln d) : parseL (Lp a b c d).flatten = ([(0, [a ++ [10]], [a ++ [10]], [a ++ [10]]), (4, [bsL], [b ++ [10]], [c ++ [10]]), (0, [d ++ [10]], [d ++ [10]], [d ++ [10]])], 0) := by
  have h := run_pcs (csP a b c d) [] [] (fun x hx => by
    simp only [csP, List.mem_cons, List.not_mem_nil, or_false] at hx
    rcases hx with rfl | rfl | rfl
    · exact ⟨one_nm ha.nm, one_nm ha.nm, one_nm ha.nm⟩
    · exact ⟨one_nm bs_nm, one_nm hb.nm, one_nm hc.nm⟩
    · exact ⟨one_nm hd.nm, one_nm hd.nm, one_nm hd.nm⟩)
  rw [csP_lines] at h
  rw [parseL, split_eol _ (Lp_eol ha hb hc hd)]
  refine h.trans ?_
  simp [csP, pcs, sideC, plainC]
theorem key_P {a b c d : List UInt8} (ha : Ln a) (hb : Ln b) (hc : Ln c) (hd : Ln d) : (keyL (Lp a b c d).flatten).2 = 0 ∧ keyL (Lp a c b d).flatten = keyL (Lp a b c d).flatten := by
  have one : ∀ (x : Cn) (y : List Cn), keyB (x :: y) = key1 x ++ keyB y := fun x y => by simp [keyB]
  unfold keyL
  rw [parse_P ha hb hc hd, parse_P ha hc hb hd, keyC_sum (by simp [someC]), keyC_sum (by simp [someC])]
  refine ⟨rfl, ?_⟩
  simp only [one]
  rw [key1_sw]
/-! a mark taken out -/
def cutP (a b c d : List UInt8) (n : Nat) : LL := (Lp a b c d).eraseIdx (2 * n + 1)
theorem foldl_none {X Y : LL} {s : List UInt8} {x y : PS} (h : X.foldl stp (some x) = some y) (hs : pstp y s = none) : (X ++ s :: Y).foldl stp (some x) = none := by
  rw [List.foldl_append, h, List.foldl_cons]
  show Y.foldl stp (pstp y s) = none
  rw [hs]; exact prun_none Y
theorem stp_bad {x : PS} {n : Nat} (h : n < 4) (h2 : n ≠ (x.2.2.2.2.2 + 1) % 4) : pstp x (mk n) = none := by
  obtain ⟨e1, e2⟩ := mark_mk h
  exact pstp_bad (by omega) (.inl (by rw [e1]; intro e; exact h2 (by omega)))
theorem cut_eol {a b c d : List UInt8} (ha : Ln a) (hb : Ln b) (hc : Ln c) (hd : Ln d) (n : Nat) : ∀ s ∈ cutP a b c d n, Eol s := fun s hs => Lp_eol ha hb hc hd s (List.mem_of_mem_eraseIdx hs)
theorem parse_cut {a b c d : List UInt8} (ha : Ln a) (hb : Ln b) (hc : Ln c) (hd : Ln d) {n : Nat} (hn : n < 4) : parseL (cutP a b c d n).flatten = ([], 25) := by
  rw [parseL, split_eol _ (cut_eol ha hb hc hd n)]
  have pa := run_plain [a ++ [10]] (one_nm ha.nm) [] [] [] [] []
  have m0 : ∀ (dd : LL), stp (some ([], [], [], [], dd, 3)) (mk 0) = some ([] ++ plainC dd, [], [], [], [], 0) := fun dd => stp_mk (by decide) (by show 0 = (3 + 1) % 4; rfl)
  have pb := run_plain [b ++ [10]] (one_nm hb.nm) (plainC [a ++ [10]]) [] [] [] []
  have pbb := run_plain [bsL] (one_nm bs_nm) (plainC [a ++ [10]]) [b ++ [10]] [] [] []
  have pc := run_plain [c ++ [10]] (one_nm hc.nm) (plainC [a ++ [10]]) [b ++ [10]] [bsL] [] []
  have pd := run_plain [d ++ [10]] (one_nm hd.nm) (plainC [a ++ [10]]) [b ++ [10]] [bsL] [c ++ [10]] []
  simp only [List.foldl_cons, List.foldl_nil, List.nil_append] at pa pb pbb pc pd
  have m1 : stp (some (plainC [a ++ [10]], [b ++ [10]], [], [], [], 0)) (mk 1) = some (plainC [a ++ [10]], [b ++ [10]], [], [], [], 1) := stp_mk (by decide) rfl
  have m2 : stp (some (plainC [a ++ [10]], [b ++ [10]], [bsL], [], [], 1)) (mk 2) = some (plainC [a ++ [10]], [b ++ [10]], [bsL], [], [], 2) := stp_mk (by decide) rfl
  have m0' := m0 [a ++ [10]]
  rw [List.nil_append] at m0'
  match n, hn with
  | 0, _ =>
    have pb3 := run_plain [b ++ [10]] (one_nm hb.nm) [] [] [] [] [a ++ [10]]
    simp only [List.foldl_cons, List.foldl_nil] at pb3
    have h : prun (cutP a b c d 0) = none := foldl_none (X := [a ++ [10], b ++ [10]]) (s := mk 1) (Y := [bsL, mk 2, c ++ [10], mk 3, d ++ [10]]) (by rw [List.foldl_cons, pa.1, List.foldl_cons, pb3.1]; rfl) (stp_bad (by decide) (by simp))
    rw [h]; rfl
  | 1, _ =>
    have pbb0 := run_plain [bsL] (one_nm bs_nm) (plainC [a ++ [10]]) [b ++ [10]] [] [] []
    simp only [List.foldl_cons, List.foldl_nil] at pbb0
    have h : prun (cutP a b c d 1) = none := foldl_none (X := [a ++ [10], mk 0, b ++ [10], bsL]) (s := mk 2) (Y := [c ++ [10], mk 3, d ++ [10]]) (by rw [List.foldl_cons, pa.1, List.foldl_cons, m0', List.foldl_cons, pb.2.1, List.foldl_cons, pbb0.2.1]; rfl) (stp_bad (by decide) (by simp))
    rw [h]; rfl
  | 2, _ =>
    have pc1 := run_plain [c ++ [10]] (one_nm hc.nm) (plainC [a ++ [10]]) [b ++ [10]] [bsL] [] []
    simp only [List.foldl_cons, List.foldl_nil] at pc1
    have h : prun (cutP a b c d 2) = none := foldl_none (X := [a ++ [10], mk 0, b ++ [10], mk 1, bsL, c ++ [10]]) (s := mk 3) (Y := [d ++ [10]]) (by rw [List.foldl_cons, pa.1, List.foldl_cons, m0', List.foldl_cons, pb.2.1, List.foldl_cons, m1, List.foldl_cons, pbb.2.2.1, List.foldl_cons, pc1.2.2.1]; rfl) (stp_bad (by decide) (by simp))
    rw [h]; rfl
  | 3, _ =>
    have h : prun (cutP a b c d 3) = some (plainC [a ++ [10]], [b ++ [10]], [bsL], [c ++ [10]] ++ [d ++ [10]], [], 2) := by
      show [a ++ [10], mk 0, b ++ [10], mk 1, bsL, mk 2, c ++ [10], d ++ [10]].foldl stp (some ([], [], [], [], [], 3)) = _
      rw [List.foldl_cons, pa.1, List.foldl_cons, m0', List.foldl_cons, pb.2.1, List.foldl_cons, m1, List.foldl_cons, pbb.2.2.1, List.foldl_cons, m2, List.foldl_cons, pc.2.2.2, List.foldl_cons, pd.2.2.2]; rfl
    rw [h]
    rfl
/-! where a mark stands -/
theorem start_of : ∀ (L : LL) (i : Nat), (∀ s ∈ L, Eol s) → i < L.flatten.length → (i = 0 ∨ L.flatten[i - 1]? = some 10) → ∃ q, q < L.length ∧ i = (L.take q).flatten.length
  | [], i, _, h, _ => by simp at h
  | s :: L, i, hL, hi, h => by
    by_cases h0 : i = 0
    · exact ⟨0, by simp, by simp [h0]⟩
    · have h := h.resolve_left h0
      obtain ⟨p, rfl, hp⟩ := hL s (List.mem_cons_self)
      rw [List.flatten_cons] at h hi
      have hl : (p ++ [10]).length = p.length + 1 := by simp
      by_cases hs : i - 1 < p.length
      · rw [List.append_assoc, List.getElem?_append_left hs] at h
        exact absurd (List.mem_of_getElem? h) hp
      · by_cases he : i = p.length + 1
        · refine ⟨1, ?_, by rw [he]; simp⟩
          rcases L with _ | ⟨x, L⟩
          · simp at hi; omega
          · simp
        · rw [List.getElem?_append_right (by omega), hl] at h
          rw [List.length_append, hl] at hi
          obtain ⟨q, hq, e⟩ := start_of L (i - (p.length + 1)) (fun x hx => hL x (List.mem_cons_of_mem _ hx)) (by omega) (.inr (by rw [show i - (p.length + 1) - 1 = i - 1 - (p.length + 1) by omega]; exact h))
          exact ⟨q + 1, by simp; omega, by rw [List.take_succ_cons, List.flatten_cons, List.length_append, hl, ← e]; omega⟩
theorem eol_pre {s t r u : List UInt8} (hs : Eol s) (ht : Eol t) (h : s ++ r = t ++ u) : s = t := by
  obtain ⟨p, rfl, hp⟩ := hs
  obtain ⟨q, rfl, hq⟩ := ht
  have h1 := splitL_line p [] r hp
  have h2 := splitL_line q [] u hq
  rw [List.append_assoc, List.append_assoc, List.singleton_append, List.singleton_append] at h
  rw [h, h2] at h1
  simp only [List.nil_append, List.cons.injEq] at h1
  exact h1.1.symm
/-- a line m stands at i -/
def At8 (x m : List UInt8) (i : Nat) : Prop := (x.take (i + m.length)).drop i = m ∧ (i = 0 ∨ x[i - 1]? = some 10)
theorem at_line {L : LL} (hL : ∀ s ∈ L, Eol s) {m : List UInt8} (hm : Eol m) {i : Nat} (h : At8 L.flatten m i) (hi : i < L.flatten.length) : ∃ q, q < L.length ∧ i = (L.take q).flatten.length ∧ L[q]? = some m := by
  obtain ⟨q, hq, e⟩ := start_of L i hL hi h.2
  refine ⟨q, hq, e, ?_⟩
  have hsp : L.flatten = (L.take q).flatten ++ (L[q] ++ (L.drop (q + 1)).flatten) := by
    conv => lhs; rw [← List.take_append_drop q L, List.drop_eq_getElem_cons hq]
    rw [List.flatten_append, List.flatten_cons]
  have h1 := h.1
  rw [List.drop_take, show i + m.length - i = m.length by omega, hsp, e, List.drop_left] at h1
  have h2 : m ++ (L[q] ++ (L.drop (q + 1)).flatten).drop m.length = L[q] ++ (L.drop (q + 1)).flatten := by
    conv => lhs; lhs; rw [← h1]
    exact List.take_append_drop _ _
  rw [List.getElem?_eq_getElem hq, ← eol_pre hm (hL _ (List.getElem_mem hq)) h2]
theorem at_has {L : LL} (hL : ∀ s ∈ L, Eol s) {m : List UInt8} {q : Nat} (hq : L[q]? = some m) : At8 L.flatten m (L.take q).flatten.length := by
  obtain ⟨hlt, e⟩ := List.getElem?_eq_some_iff.1 hq
  have hsp : L.flatten = (L.take q).flatten ++ (m ++ (L.drop (q + 1)).flatten) := by
    conv => lhs; rw [← List.take_append_drop q L, List.drop_eq_getElem_cons hlt, e]
    rw [List.flatten_append, List.flatten_cons]
  refine ⟨?_, ?_⟩
  · rw [hsp, List.drop_take, show (L.take q).flatten.length + m.length - (L.take q).flatten.length = m.length by omega, List.drop_left, List.take_left]
  · by_cases h0 : (L.take q).flatten.length = 0
    · exact .inl h0
    · right
      rw [hsp, List.getElem?_append_left (by omega)]
      have hl := last_eol (L.take q) (fun s hs => hL s (List.mem_of_mem_take hs))
      rcases List.eq_nil_or_concat (L.take q).flatten with h9 | ⟨l0, y, h9⟩
      · rw [h9] at h0; simp at h0
      · rw [List.concat_eq_append] at h9
        rw [h9, List.getLastD_concat] at hl
        rw [h9, hl]; simp
/-- the first place of the n-th mark in the text -/
theorem first_mark {a b c d : List UInt8} (ha : Ln a) (hb : Ln b) (hc : Ln c) (hd : Ln d) {n : Nat} (hn : n < 4) : ∃ p, p < (Lp a b c d).flatten.length ∧ p + 8 ≤ (Lp a b c d).flatten.length ∧ At8 (Lp a b c d).flatten (mk n) p ∧ (∀ i, i < p → ¬ At8 (Lp a b c d).flatten (mk n) i) ∧ (Lp a b c d).flatten.take p ++ (Lp a b c d).flatten.drop (p + 8) = (cutP a b c d n).flatten := by
  have hL := Lp_eol ha hb hc hd
  have nl : ∀ s : List UInt8, markL s < 0 → s ≠ mk n := fun s h e => by rw [e, (mark_mk hn).1] at h; omega
  have hq : (Lp a b c d)[2 * n + 1]? = some (mk n) := by
    match n, hn with
    | 0, _ => rfl
    | 1, _ => rfl
    | 2, _ => rfl
    | 3, _ => rfl
  have hne : ∀ q, q < 2 * n + 1 → (Lp a b c d)[q]? ≠ some (mk n) := by
    have mm : ∀ k, k < 4 → k ≠ n → mk k ≠ mk n := fun k hk hkn e => by
      have h1 := (mark_mk hk).1
      rw [e, (mark_mk hn).1] at h1; omega
    intro q hqn e
    rcases (show q = 0 ∨ q = 1 ∨ q = 2 ∨ q = 3 ∨ q = 4 ∨ q = 5 ∨ q = 6 by omega) with rfl | rfl | rfl | rfl | rfl | rfl | rfl
    · exact nl _ ha.nm (Option.some.inj e)
    · exact mm 0 (by decide) (by omega) (Option.some.inj e)
    · exact nl _ hb.nm (Option.some.inj e)
    · exact mm 1 (by decide) (by omega) (Option.some.inj e)
    · exact nl _ bs_nm (Option.some.inj e)
    · exact mm 2 (by decide) (by omega) (Option.some.inj e)
    · exact nl _ hc.nm (Option.some.inj e)
  have h8 : (mk n).length = 8 := (mk_mw hn).2.2.2.2
  obtain ⟨hlt, e⟩ := List.getElem?_eq_some_iff.1 hq
  have hcut : cutP a b c d n = (Lp a b c d).eraseIdx (2 * n + 1) := rfl
  generalize Lp a b c d = L at *
  have hsp : L.flatten = (L.take (2 * n + 1)).flatten ++ (mk n ++ (L.drop (2 * n + 2)).flatten) := by
    conv => lhs; rw [← List.take_append_drop (2 * n + 1) L, List.drop_eq_getElem_cons hlt, e]
    rw [List.flatten_append, List.flatten_cons]
  have hlen := congrArg List.length hsp
  rw [List.length_append, List.length_append, h8] at hlen
  refine ⟨(L.take (2 * n + 1)).flatten.length, by omega, by omega, at_has hL hq, fun i hi hat => ?_, ?_⟩
  · obtain ⟨q, hq1, hq2, hq3⟩ := at_line hL (mk_eol hn) hat (by omega)
    by_cases hqq : q < 2 * n + 1
    · exact hne q hqq hq3
    · have : (L.take (2 * n + 1)).flatten.length ≤ (L.take q).flatten.length := by
        have e9 : L.take q = L.take (2 * n + 1) ++ (L.take q).drop (2 * n + 1) := by
          conv => lhs; rw [← List.take_append_drop (2 * n + 1) (L.take q), List.take_take, Nat.min_eq_left (by omega)]
        rw [e9, List.flatten_append, List.length_append]; omega
      omega
  · have e1 : L.flatten.take (L.take (2 * n + 1)).flatten.length = (L.take (2 * n + 1)).flatten := by rw [hsp, List.take_left]
    have e2 : L.flatten.drop ((L.take (2 * n + 1)).flatten.length + 8) = (L.drop (2 * n + 2)).flatten := by
      rw [← List.drop_drop, hsp, List.drop_left, ← h8, List.drop_left]
    rw [e1, e2, ← List.flatten_append]
    congr 1
    rw [hcut, List.eraseIdx_eq_take_drop_succ]


theorem Lp_flat (a b c d : List UInt8) : (Lp a b c d).flatten = a ++ [10, 60, 60, 60, 60, 60, 60, 60, 10] ++ b ++ [10, 124, 124, 124, 124, 124, 124, 124, 10, 98, 97, 115, 101, 10, 61, 61, 61, 61, 61, 61, 61, 10] ++ c ++ [10, 62, 62, 62, 62, 62, 62, 62, 10] ++ d ++ [10] := by
  simp [Lp, mk, mkL]
theorem within4 (x : Int) : ∃ q : Nat, x % 4 = q ∧ q < 4 := ⟨(x % 4).toNat, by omega, by omega⟩
theorem take_one8 {x : List UInt8} {i : Nat} (h : i < x.length) : x.take i ++ (x.take (i + 1)).drop i = x.take (i + 1) := by
  rw [List.take_succ_eq_append_getElem h, List.drop_append_of_le_length (by simp; omega), List.drop_eq_nil_of_le (by simp; omega)]; rfl
theorem get_pred {x : List UInt8} {i : Nat} (h : i - 1 < x.length) : ((x[i - 1].toNat : Nat) : Int) = 10 ↔ x[i - 1]? = some 10 := by
  rw [List.getElem?_eq_getElem h]
  constructor
  · intro e; rw [(u8i (n := 10) (by decide)).1 e]; rfl
  · intro e; rw [Option.some.inj e]; rfl

theorem within_ct (at0 n : Int) (w0 : World) (H0 : Heap)
    (hn : 0 < n) (hn2 : n ≤ 1099511627776) :
    Ct Try.prog w0 14 #[.int .i64 at0, .int .i64 n] H0 (fun r H2 => r = .int .i64 (at0 % n) ∧ Nw H0 H2) := by
  refine Ct.enter (args := [.int .i64 at0, .int .i64 n]) Try.func14 rfl rfl rfl ?_
  intro Q0 hret
  have hm0 : Nw H0 H0 := Mo.refl _ _
  have h1 := Int.emod_nonneg at0 (show n ≠ 0 by omega)
  have h2 := Int.emod_lt_of_pos at0 hn
  have h3 : at0.tmod n = at0 % n ∨ at0.tmod n + n = at0 % n ∧ at0.tmod n < 0 := by
    rw [Int.tmod_eq_emod]
    split
    · left; omega
    · rename_i hh; right; have := Int.natAbs_of_nonneg (show 0 ≤ n by omega); omega
  refine CW.seq (fun K1 hK1 hE1 => ?_)
  refine CW.region ?_
  refine LR.v (Y.assign rfl rfl) (Wd.u rfl) rfl rfl ?_
  refine LR.nil ?_
  refine hK1 _ _ ?_
  refine CW.seq (fun K2 hK2 hE2 => ?_)
  refine CW.region ?_
  refine LR.v (Y.move rfl rfl) (Wd.u rfl) rfl rfl ?_
  refine LR.v (Y.move rfl rfl) (Wd.u rfl) rfl rfl ?_
  refine LR.v (Y.rem rfl rfl rfl (by omega)) (Wd.u rfl) rfl rfl ?_
  refine LR.v (Y.assign rfl rfl) (Wd.u rfl) rfl rfl ?_
  refine LR.nil ?_
  refine hK2 _ _ ?_
  refine CW.seq (fun K3 hK3 hE3 => ?_)
  refine CW.seq (fun K4 hK4 hE4 => ?_)
  refine CW.region ?_
  refine LR.v (Y.move rfl rfl) (Wd.u rfl) rfl rfl ?_
  refine LR.v (Y.lss rfl rfl rfl) (Wd.u rfl) rfl rfl ?_
  refine LR.nil ?_
  refine hK4 _ _ ?_
  refine CW.condp rfl (fun c10 => ?_) (fun c10 => ?_)
  ·
    refine CW.region ?_
    refine LR.v (Y.move rfl rfl) (Wd.u rfl) rfl rfl ?_
    refine LR.v (Y.move rfl rfl) (Wd.u rfl) rfl rfl ?_
    refine LR.v (Y.addi rfl rfl rfl (by omega)) (Wd.u rfl) rfl rfl ?_
    refine LR.v (Y.assign rfl rfl) (Wd.u rfl) rfl rfl ?_
    refine LR.nil ?_
    refine hK3 _ _ ?_
    refine CW.seq (fun K5 hK5 hE5 => ?_)
    refine CW.region ?_
    refine LR.v (Y.move rfl rfl) (Wd.u rfl) rfl rfl ?_
    refine LR.v (Y.assign rfl rfl) (Wd.u rfl) rfl rfl ?_
    refine LR.nil ?_
    refine hK5 _ _ ?_
    refine CW.ret (hret .ret (.inr rfl) _ _ _ (res1 rfl rfl) ?_)
    exact ⟨by exact ivv (by omega), hm0⟩
  ·
    refine CW.skip ?_
    refine hK3 _ _ ?_
    refine CW.seq (fun K6 hK6 hE6 => ?_)
    refine CW.region ?_
    refine LR.v (Y.move rfl rfl) (Wd.u rfl) rfl rfl ?_
    refine LR.v (Y.assign rfl rfl) (Wd.u rfl) rfl rfl ?_
    refine LR.nil ?_
    refine hK6 _ _ ?_
    refine CW.ret (hret .ret (.inr rfl) _ _ _ (res1 rfl rfl) ?_)
    exact ⟨by exact ivv (by omega), hm0⟩

set_option maxHeartbeats 8000000 in
theorem rerereParts_ct (s0 s1 s2 s3 : List UInt8) (wh : Int) (w0 : World) (H0 : Heap)
    (hsl : ∀ s ∈ [s0, s1, s2, s3], s.length ≤ 9223372036854775807) :
    Ct Try.prog w0 5 #[Str s0, Str s1, Str s2, Str s3, .int .i64 wh] H0 (fun r H2 => r = .bool true ∧ Nw H0 H2) := by
  refine Ct.enter (args := [Str s0, Str s1, Str s2, Str s3, .int .i64 wh]) Try.func5 rfl rfl rfl ?_
  intro Q0 hret
  have hm0 : Nw H0 H0 := Mo.refl _ _
  refine CW.seq (fun K1 hK1 hE1 => ?_)
  refine CW.region ?_
  refine LR.v (Y.assign rfl rfl) (Wd.u rfl) rfl rfl ?_
  refine LR.nil ?_
  refine hK1 _ _ ?_
  refine CW.seq (fun K2 hK2 hE2 => ?_)
  refine CW.seq (fun K3 hK3 hE3 => ?_)
  refine CW.region ?_
  -- call selvage/selvagelaw19.known
  refine LR.call rfl Try.call7 rfl (Wd.u rfl) rfl rfl (known_ct w0 _) (fun v26 H26 r26 => ?_)
  obtain ⟨rfl, hs26⟩ := r26
  replace hm0 := hm0.tr hs26
  have hz1 := hs26.size
  refine LR.v (Y.not rfl rfl) (Wd.u rfl) rfl rfl ?_
  refine LR.nil ?_
  refine hK3 _ _ ?_
  refine CW.cond_f rfl ?_
  refine CW.skip ?_
  refine hK2 _ _ ?_
  refine CW.seq (fun K4 hK4 hE4 => ?_)
  refine CW.region ?_
  refine LR.v (Y.move rfl rfl) (Wd.u rfl) rfl rfl ?_
  refine LR.v (Y.move rfl rfl) (Wd.u rfl) rfl rfl ?_
  refine LR.v (Y.move rfl rfl) (Wd.u rfl) rfl rfl ?_
  refine LR.v (Y.move rfl rfl) (Wd.u rfl) rfl rfl ?_
  refine LR.z (Z.litw _ ([s0, s1, s2, s3]) rfl inf32 rfl rfl rfl (by decide) (by decide) fS_len fS_one (rfl)) (Wd.u rfl) rfl rfl (fun v32 H32 r32 => ?_)
  obtain ⟨ow, hs32, ob32, hH32⟩ := r32
  have hzs32 : H32.size = H26.size + 1 := by rw [hH32]; simp
  have nx1 : Nx 0 H0.size (H26.size + 1) := Nx.new hm0.size
  replace hm0 := hm0.tr hs32
  have hz2 := hs32.size
  obtain ⟨ls, hls⟩ : ∃ ls, [s0, s1, s2, s3] = ls := ⟨_, rfl⟩
  have hll : ls.length = 4 := by rw [← hls]; rfl
  rw [hls] at ow hsl
  refine LR.v (Y.assign rfl rfl) (Wd.u rfl) rfl rfl ?_
  refine LR.nil ?_
  refine hK4 _ _ ?_
  refine CW.cut (fun (_ : Unit) => [(4, .int .i64 wh), (11, v32)])
    (fun (_ : Unit) (H : Heap) => (∀ s ∈ ls, s.length ≤ 50 ∧ Ln s) ∧ Nw H32 H) (fun K5 hK5 hE5 => ?_) ?_
  ·
    have hcm5 : Nw H32 H32 := Mo.refl _ _
    refine CW.seq (fun K6 hK6 hE6 => ?_)
    refine CW.region ?_
    refine LR.v (Y.assign rfl rfl) (Wd.u rfl) rfl rfl ?_
    refine LR.nil ?_
    refine hK6 _ _ ?_
    refine CW.block (fun K7 hK7 hX7 hE7 => ?_)
    refine CW.loop (fun (i : (Nat)) => [(4, .int .i64 wh), (11, v32), (12, .int .i64 i)])
      (fun (i : (Nat)) (H : Heap) => (i ≤ 4) ∧ (∀ s ∈ ls.take i, s.length ≤ 50 ∧ Ln s) ∧ Nw H32 H)
      (fun (i : (Nat)) => 4 - i) 0 ⟨rfl, rfl, rfl, trivial⟩ ?_ ?_
    ·
      exact ⟨(by omega), (fun s h => by simp at h), Mo.refl _ _⟩
    intro i HL1 hI1 K8 hN8 hE8
    obtain ⟨hi, hk, hlm1⟩ := hI1
    replace ow := ow.nw hlm1
    replace hm0 := hm0.tr hlm1
    replace hcm5 := hcm5.tr hlm1
    have hz3 := hlm1.size
    refine CW.seq (fun K9 hK9 hE9 => ?_)
    refine CW.seq (fun K10 hK10 hE10 => ?_)
    refine CW.region ?_
    refine LR.v (Y.move rfl rfl) (Wd.u rfl) rfl rfl ?_
    refine LR.v (Y.lss rfl rfl rfl) (Wd.u rfl) rfl rfl ?_
    refine LR.nil ?_
    refine hK10 _ _ ?_
    refine CW.condp rfl (fun c34 => ?_) (fun c34 => ?_)
    ·
      refine CW.skip ?_
      refine hK9 _ _ ?_
      refine CW.seq (fun K11 hK11 hE11 => ?_)
      refine CW.block (fun K12 hK12 hX12 hE12 => ?_)
      refine CW.seq (fun K13 hK13 hE13 => ?_)
      refine CW.seq (fun K14 hK14 hE14 => ?_)
      refine CW.region ?_
      refine LR.v (Y.move rfl rfl) (Wd.u rfl) rfl rfl ?_
      refine LR.v (Y.move rfl rfl) (Wd.u rfl) rfl rfl ?_
      refine LR.v (Y.owAddr ow (i) rfl Try.runUnderlying32 Try.sizeOf9 rfl rfl (by first | rfl | omega) (by first | omega | (simp; omega) | (simp; done))) (Wd.u rfl) rfl rfl ?_
      have hil : i < ls.length := by omega
      have hsi := hsl ls[i] (List.getElem_mem (by omega))
      refine LR.v (Y.load1 (ow.pt (j := i) (by first | omega | (simp; omega) | (simp; done))) rfl Try.isAgg9 rfl) (Wd.u rfl) rfl rfl ?_
      refine LR.v (Y.slen rfl Try.runUnderlying9 rfl) (Wd.u rfl) rfl rfl ?_
      refine LR.v (Y.gtr rfl rfl rfl) (Wd.u rfl) rfl rfl ?_
      refine LR.v (Y.move rfl rfl) (Wd.u rfl) rfl rfl ?_
      refine LR.splitp (d := 43) rfl (fun g43 => ?_) (fun g43 => ?_)
      ·
        refine LR.gs rfl rfl rfl rfl rfl rfl ?_
        refine LR.gs rfl rfl rfl rfl rfl rfl ?_
        refine LR.gs rfl rfl rfl rfl rfl rfl ?_
        refine LR.gs rfl rfl rfl rfl rfl rfl ?_
        refine LR.gs rfl rfl rfl rfl rfl rfl ?_
        refine LR.gs rfl rfl rfl rfl rfl rfl ?_
        refine LR.gs rfl rfl rfl rfl rfl rfl ?_
        refine LR.v (Y.pick_t rfl rfl rfl) (Wd.u rfl) rfl rfl ?_
        refine LR.nil ?_
        refine hK14 _ _ ?_
        refine CW.cond_t rfl ?_
        refine CW.seq (fun K15 hK15 hE15 => ?_)
        refine CW.region ?_
        refine LR.v (Y.assign rfl rfl) (Wd.u rfl) rfl rfl ?_
        refine LR.nil ?_
        refine hK15 _ _ ?_
        refine CW.ret (hE13 .ret nofun _ _ (hE12 .ret nofun (by simp) _ _ (hE11 .ret nofun _ _ (hE8 .ret nofun _ _ (hE7 .ret nofun (by simp) _ _ (hE5 .ret nofun _ _ (hret .ret (.inr rfl) _ _ _ (res1 rfl rfl) ?_)))))))
        exact ⟨rfl, hm0⟩
      ·
        refine LR.v (Y.move rfl rfl) (Wd.g rfl rfl rfl) rfl rfl ?_
        refine LR.v (Y.move rfl rfl) (Wd.g rfl rfl rfl) rfl rfl ?_
        refine LR.v (Y.owAddr ow (i) rfl Try.runUnderlying32 Try.sizeOf9 rfl rfl (by first | rfl | omega) (by first | omega | (simp; omega) | (simp; done))) (Wd.g rfl rfl rfl) rfl rfl ?_
        refine LR.v (Y.load1 (ow.pt (j := i) (by first | omega | (simp; omega) | (simp; done))) rfl Try.isAgg9 rfl) (Wd.g rfl rfl rfl) rfl rfl ?_
        refine LR.v (Y.sadd rfl rfl rfl (by simp only [List.length_append, List.length_cons, List.length_nil]; omega)) (Wd.g rfl rfl rfl) rfl rfl ?_
        refine LR.z (Z.strbw rfl Try.underlying9 Try.underlying22 Try.underlying5 rfl (by simp only [List.length_append, List.length_cons, List.length_nil]; omega)) (Wd.g rfl rfl rfl) rfl rfl (fun v49 H49 r49 => ?_)
        obtain ⟨ob, hs49, hzs49⟩ := r49
        have dj2 : Dj (H26.size + 1) (HL1.size + 1) := Dj.new ow.le
        have nx3 : Nx 0 H0.size (HL1.size + 1) := Nx.new hm0.size
        have nx4 : Nx 0 H32.size (HL1.size + 1) := Nx.new hcm5.size
        have nx5 : Nx 0 H32.size (HL1.size + 1) := Nx.new hlm1.size
        replace ow := ow.nw hs49
        replace hm0 := hm0.tr hs49
        replace hcm5 := hcm5.tr hs49
        replace hlm1 := hlm1.tr hs49
        have hz4 := hs49.size
        -- call selvage/selvageref14.Marks
        refine LR.call rfl Try.call13 rfl (Wd.g rfl rfl rfl) rfl rfl (rmarks_ct _ (ls[i] ++ [10]) w0 _ ob.rd.any (by simp only [List.length_append, List.length_cons, List.length_nil]; omega)) (fun v50 H50 r50 => ?_)
        obtain ⟨rfl, hs50⟩ := r50
        replace ow := ow.nw hs50
        replace ob := ob.nw hs50
        replace hm0 := hm0.tr hs50
        replace hcm5 := hcm5.tr hs50
        replace hlm1 := hlm1.tr hs50
        have hz5 := hs50.size
        refine LR.v (Y.pick_f rfl rfl rfl) (Wd.u rfl) rfl rfl ?_
        refine LR.nil ?_
        refine hK14 _ _ ?_
        refine CW.cond rfl (fun c51 => ?_) (fun c51 => ?_)
        ·
          refine CW.seq (fun K16 hK16 hE16 => ?_)
          refine CW.region ?_
          refine LR.v (Y.assign rfl rfl) (Wd.u rfl) rfl rfl ?_
          refine LR.nil ?_
          refine hK16 _ _ ?_
          refine CW.ret (hE13 .ret nofun _ _ (hE12 .ret nofun (by simp) _ _ (hE11 .ret nofun _ _ (hE8 .ret nofun _ _ (hE7 .ret nofun (by simp) _ _ (hE5 .ret nofun _ _ (hret .ret (.inr rfl) _ _ _ (res1 rfl rfl) ?_)))))))
          exact ⟨rfl, hm0⟩
        ·
          have hmk : marksL (ls[i] ++ [10]) = false := by assumption
          refine CW.skip ?_
          refine hK13 _ _ ?_
          refine CW.seq (fun K17 hK17 hE17 => ?_)
          refine CW.region ?_
          refine LR.v (Y.assign rfl rfl) (Wd.u rfl) rfl rfl ?_
          refine LR.nil ?_
          refine hK17 _ _ ?_
          refine CW.block (fun K18 hK18 hX18 hE18 => ?_)
          refine CW.loop (fun (k : (Nat)) => [(4, .int .i64 wh), (11, v32), (12, .int .i64 i), (13, .int .i64 k)])
            (fun (k : (Nat)) (H : Heap) => (k ≤ ls[i].length) ∧ (∀ x ∈ ls[i].take k, x ≠ 10) ∧ Nw H50 H)
            (fun (k : (Nat)) => ls[i].length - k) 0 ⟨rfl, rfl, rfl, rfl, trivial⟩ ?_ ?_
          ·
            exact ⟨(by omega), (fun s h => by simp at h), Mo.refl _ _⟩
          intro k HL2 hI2 K19 hN19 hE19
          obtain ⟨hkl, hno, hlm2⟩ := hI2
          replace ow := ow.nw hlm2
          replace hm0 := hm0.tr hlm2
          replace hcm5 := hcm5.tr hlm2
          replace hlm1 := hlm1.tr hlm2
          have hz6 := hlm2.size
          refine CW.seq (fun K20 hK20 hE20 => ?_)
          refine CW.seq (fun K21 hK21 hE21 => ?_)
          refine CW.region ?_
          refine LR.v (Y.move rfl rfl) (Wd.u rfl) rfl rfl ?_
          refine LR.v (Y.move rfl rfl) (Wd.u rfl) rfl rfl ?_
          refine LR.v (Y.move rfl rfl) (Wd.u rfl) rfl rfl ?_
          refine LR.v (Y.owAddr ow (i) rfl Try.runUnderlying32 Try.sizeOf9 rfl rfl (by first | rfl | omega) (by first | omega | (simp; omega) | (simp; done))) (Wd.u rfl) rfl rfl ?_
          refine LR.v (Y.load1 (ow.pt (j := i) (by first | omega | (simp; omega) | (simp; done))) rfl Try.isAgg9 rfl) (Wd.u rfl) rfl rfl ?_
          refine LR.v (Y.slen rfl Try.runUnderlying9 rfl) (Wd.u rfl) rfl rfl ?_
          refine LR.v (Y.lss rfl rfl rfl) (Wd.u rfl) rfl rfl ?_
          refine LR.nil ?_
          refine hK21 _ _ ?_
          refine CW.condp rfl (fun c58 => ?_) (fun c58 => ?_)
          ·
            refine CW.skip ?_
            refine hK20 _ _ ?_
            refine CW.seq (fun K22 hK22 hE22 => ?_)
            refine CW.block (fun K23 hK23 hX23 hE23 => ?_)
            refine CW.seq (fun K24 hK24 hE24 => ?_)
            refine CW.region ?_
            refine LR.v (Y.move rfl rfl) (Wd.u rfl) rfl rfl ?_
            refine LR.v (Y.move rfl rfl) (Wd.u rfl) rfl rfl ?_
            refine LR.v (Y.owAddr ow (i) rfl Try.runUnderlying32 Try.sizeOf9 rfl rfl (by first | rfl | omega) (by first | omega | (simp; omega) | (simp; done))) (Wd.u rfl) rfl rfl ?_
            refine LR.v (Y.load1 (ow.pt (j := i) (by first | omega | (simp; omega) | (simp; done))) rfl Try.isAgg9 rfl) (Wd.u rfl) rfl rfl ?_
            refine LR.v (Y.move rfl rfl) (Wd.u rfl) rfl rfl ?_
            refine LR.v (Y.sindex (k) rfl Try.runUnderlying9 rfl rfl (by first | rfl | omega) (by omega)) (Wd.u rfl) rfl rfl ?_
            refine LR.v (Y.eql rfl rfl rfl) (Wd.u rfl) rfl rfl ?_
            refine LR.nil ?_
            refine hK24 _ _ ?_
            refine CW.condp rfl (fun c67 => ?_) (fun c67 => ?_)
            ·
              refine CW.seq (fun K25 hK25 hE25 => ?_)
              refine CW.region ?_
              refine LR.v (Y.assign rfl rfl) (Wd.u rfl) rfl rfl ?_
              refine LR.nil ?_
              refine hK25 _ _ ?_
              refine CW.ret (hE23 .ret nofun (by simp) _ _ (hE22 .ret nofun _ _ (hE19 .ret nofun _ _ (hE18 .ret nofun (by simp) _ _ (hE12 .ret nofun (by simp) _ _ (hE11 .ret nofun _ _ (hE8 .ret nofun _ _ (hE7 .ret nofun (by simp) _ _ (hE5 .ret nofun _ _ (hret .ret (.inr rfl) _ _ _ (res1 rfl rfl) ?_))))))))))
              exact ⟨rfl, hm0⟩
            ·
              refine CW.skip ?_
              refine hK23 _ _ ?_
              refine hK22 _ _ ?_
              refine CW.region ?_
              refine LR.v (Y.move rfl rfl) (Wd.u rfl) rfl rfl ?_
              refine LR.v (Y.addi rfl rfl rfl (by omega)) (Wd.u rfl) rfl rfl ?_
              refine LR.v (Y.assign rfl rfl) (Wd.u rfl) rfl rfl ?_
              refine LR.nil ?_
              refine QN.sub (hN19 (k + 1) _ ?_ ?_) ⟨(iv (by omega)), rfl, (iv (by omega)), (iv (by omega)), trivial⟩
              · exact ⟨(by omega), (by rw [List.take_succ_eq_append_getElem (by omega)]; intro x hx; rcases List.mem_append.1 hx with hx | hx; exact hno x hx; rw [List.mem_singleton] at hx; subst hx; exact fun e => c67 (by rw [e]; rfl)), hlm2⟩
              · first | omega | (simp only; omega) | (simp; omega)
          ·
            have hnl : (10 : UInt8) ∉ ls[i] := fun h => by
              rw [List.take_of_length_le (by omega)] at hno
              exact hno _ h rfl
            refine CW.exit (hE20 (.exit 2) nofun _ _ (hE19 (.exit 2) nofun _ _ (hX18 _ _ ?_)))
            refine hK12 _ _ ?_
            refine hK11 _ _ ?_
            refine CW.region ?_
            refine LR.v (Y.move rfl rfl) (Wd.u rfl) rfl rfl ?_
            refine LR.v (Y.addi rfl rfl rfl (by omega)) (Wd.u rfl) rfl rfl ?_
            refine LR.v (Y.assign rfl rfl) (Wd.u rfl) rfl rfl ?_
            refine LR.nil ?_
            have h50 : ls[i].length ≤ 50 := by omega
            refine QN.sub (hN8 (i + 1) _ ?_ ?_) ⟨(iv (by omega)), rfl, (iv (by omega)), trivial⟩
            · exact ⟨(by omega), (by rw [List.take_succ_eq_append_getElem (by omega)]; intro s hs; rcases List.mem_append.1 hs with hs | hs; exact hk s hs; rw [List.mem_singleton] at hs; subst hs; exact ⟨h50, hnl, hmk⟩), hlm1⟩
            · first | omega | (simp only; omega) | (simp; omega)
    ·
      obtain rfl : i = 4 := by omega
      have hok : ∀ s ∈ ls, s.length ≤ 50 ∧ Ln s := by rw [List.take_of_length_le (by omega)] at hk; exact hk
      refine CW.exit (hE9 (.exit 0) nofun _ _ (hE8 (.exit 0) nofun _ _ (hX7 _ _ ?_)))
      refine QN.sub (hK5 () _ ?_) ⟨(iv (by omega)), rfl, trivial⟩
      exact ⟨hok, hcm5⟩
  ·
    intro _ Hcut0 hIcut0
    obtain ⟨hok, hlmcut0⟩ := hIcut0
    replace ow := ow.nw hlmcut0
    replace hm0 := hm0.tr hlmcut0
    have hz7 := hlmcut0.size
    subst hls
    obtain ⟨l0, n0⟩ := hok s0 (by simp)
    obtain ⟨l1, n1⟩ := hok s1 (by simp)
    obtain ⟨l2, n2⟩ := hok s2 (by simp)
    obtain ⟨l3, n3⟩ := hok s3 (by simp)
    have hAl := congrArg List.length (Lp_flat s0 s1 s2 s3)
    have hBl := congrArg List.length (Lp_flat s0 s2 s1 s3)
    simp only [List.length_append, List.length_cons, List.length_nil] at hAl hBl
    refine CW.seq (fun K26 hK26 hE26 => ?_)
    refine CW.region_draw rfl (by kernel_rfl) ?_
    refine LR.v (Y.move rfl rfl) (Wd.u rfl) rfl rfl ?_
    refine LR.v (Y.owAddr ow (0) rfl Try.runUnderlying32 Try.sizeOf9 rfl rfl (by first | rfl | omega) (by simp)) (Wd.u rfl) rfl rfl ?_
    refine LR.v (Y.cast (v2 := Str s0) (Y.load1 (ow.pt (j := 0) (by simp)) rfl Try.isAgg9 rfl) (rfl)) (Wd.u rfl) rfl rfl ?_
    refine LR.v (Y.sadd rfl rfl rfl (by simp only [List.length_append, List.length_cons, List.length_nil]; omega)) (Wd.u rfl) rfl rfl ?_
    refine LR.v (Y.move rfl rfl) (Wd.u rfl) rfl rfl ?_
    refine LR.v (Y.owAddr ow (1) rfl Try.runUnderlying32 Try.sizeOf9 rfl rfl (by first | rfl | omega) (by simp)) (Wd.u rfl) rfl rfl ?_
    refine LR.v (Y.cast (v2 := Str s1) (Y.load1 (ow.pt (j := 1) (by simp)) rfl Try.isAgg9 rfl) (rfl)) (Wd.u rfl) rfl rfl ?_
    refine LR.v (Y.sadd rfl rfl rfl (by simp only [List.length_append, List.length_cons, List.length_nil]; omega)) (Wd.u rfl) rfl rfl ?_
    refine LR.v (Y.sadd rfl rfl rfl (by simp only [List.length_append, List.length_cons, List.length_nil]; omega)) (Wd.u rfl) rfl rfl ?_
    refine LR.v (Y.move rfl rfl) (Wd.u rfl) rfl rfl ?_
    refine LR.v (Y.owAddr ow (2) rfl Try.runUnderlying32 Try.sizeOf9 rfl rfl (by first | rfl | omega) (by simp)) (Wd.u rfl) rfl rfl ?_
    refine LR.v (Y.cast (v2 := Str s2) (Y.load1 (ow.pt (j := 2) (by simp)) rfl Try.isAgg9 rfl) (rfl)) (Wd.u rfl) rfl rfl ?_
    refine LR.v (Y.sadd rfl rfl rfl (by simp only [List.length_append, List.length_cons, List.length_nil]; omega)) (Wd.u rfl) rfl rfl ?_
    refine LR.v (Y.sadd rfl rfl rfl (by simp only [List.length_append, List.length_cons, List.length_nil]; omega)) (Wd.u rfl) rfl rfl ?_
    refine LR.v (Y.move rfl rfl) (Wd.u rfl) rfl rfl ?_
    refine LR.v (Y.owAddr ow (3) rfl Try.runUnderlying32 Try.sizeOf9 rfl rfl (by first | rfl | omega) (by simp)) (Wd.u rfl) rfl rfl ?_
    refine LR.v (Y.cast (v2 := Str s3) (Y.load1 (ow.pt (j := 3) (by simp)) rfl Try.isAgg9 rfl) (rfl)) (Wd.u rfl) rfl rfl ?_
    refine LR.v (Y.sadd rfl rfl rfl (by simp only [List.length_append, List.length_cons, List.length_nil]; omega)) (Wd.u rfl) rfl rfl ?_
    refine LR.v (Y.cast (v2 := Str (Lp s0 s1 s2 s3).flatten) (Y.sadd rfl rfl rfl (by simp only [List.length_append, List.length_cons, List.length_nil]; omega)) (by rw [Lp_flat])) (Wd.u rfl) rfl rfl ?_
    refine LR.v (Y.assign rfl rfl) (Wd.u rfl) rfl rfl ?_
    refine LR.nil ?_
    refine hK26 _ _ ?_
    refine CW.seq (fun K27 hK27 hE27 => ?_)
    refine CW.region_draw rfl (by kernel_rfl) ?_
    refine LR.v (Y.move rfl rfl) (Wd.u rfl) rfl rfl ?_
    refine LR.v (Y.owAddr ow (0) rfl Try.runUnderlying32 Try.sizeOf9 rfl rfl (by first | rfl | omega) (by simp)) (Wd.u rfl) rfl rfl ?_
    refine LR.v (Y.cast (v2 := Str s0) (Y.load1 (ow.pt (j := 0) (by simp)) rfl Try.isAgg9 rfl) (rfl)) (Wd.u rfl) rfl rfl ?_
    refine LR.v (Y.sadd rfl rfl rfl (by simp only [List.length_append, List.length_cons, List.length_nil]; omega)) (Wd.u rfl) rfl rfl ?_
    refine LR.v (Y.move rfl rfl) (Wd.u rfl) rfl rfl ?_
    refine LR.v (Y.owAddr ow (2) rfl Try.runUnderlying32 Try.sizeOf9 rfl rfl (by first | rfl | omega) (by simp)) (Wd.u rfl) rfl rfl ?_
    refine LR.v (Y.cast (v2 := Str s2) (Y.load1 (ow.pt (j := 2) (by simp)) rfl Try.isAgg9 rfl) (rfl)) (Wd.u rfl) rfl rfl ?_
    refine LR.v (Y.sadd rfl rfl rfl (by simp only [List.length_append, List.length_cons, List.length_nil]; omega)) (Wd.u rfl) rfl rfl ?_
    refine LR.v (Y.sadd rfl rfl rfl (by simp only [List.length_append, List.length_cons, List.length_nil]; omega)) (Wd.u rfl) rfl rfl ?_
    refine LR.v (Y.move rfl rfl) (Wd.u rfl) rfl rfl ?_
    refine LR.v (Y.owAddr ow (1) rfl Try.runUnderlying32 Try.sizeOf9 rfl rfl (by first | rfl | omega) (by simp)) (Wd.u rfl) rfl rfl ?_
    refine LR.v (Y.cast (v2 := Str s1) (Y.load1 (ow.pt (j := 1) (by simp)) rfl Try.isAgg9 rfl) (rfl)) (Wd.u rfl) rfl rfl ?_
    refine LR.v (Y.sadd rfl rfl rfl (by simp only [List.length_append, List.length_cons, List.length_nil]; omega)) (Wd.u rfl) rfl rfl ?_
    refine LR.v (Y.sadd rfl rfl rfl (by simp only [List.length_append, List.length_cons, List.length_nil]; omega)) (Wd.u rfl) rfl rfl ?_
    refine LR.v (Y.move rfl rfl) (Wd.u rfl) rfl rfl ?_
    refine LR.v (Y.owAddr ow (3) rfl Try.runUnderlying32 Try.sizeOf9 rfl rfl (by first | rfl | omega) (by simp)) (Wd.u rfl) rfl rfl ?_
    refine LR.v (Y.cast (v2 := Str s3) (Y.load1 (ow.pt (j := 3) (by simp)) rfl Try.isAgg9 rfl) (rfl)) (Wd.u rfl) rfl rfl ?_
    refine LR.v (Y.sadd rfl rfl rfl (by simp only [List.length_append, List.length_cons, List.length_nil]; omega)) (Wd.u rfl) rfl rfl ?_
    refine LR.v (Y.cast (v2 := Str (Lp s0 s2 s1 s3).flatten) (Y.sadd rfl rfl rfl (by simp only [List.length_append, List.length_cons, List.length_nil]; omega)) (by rw [Lp_flat])) (Wd.u rfl) rfl rfl ?_
    refine LR.v (Y.assign rfl rfl) (Wd.u rfl) rfl rfl ?_
    refine LR.nil ?_
    refine hK27 _ _ ?_
    refine CW.seq (fun K28 hK28 hE28 => ?_)
    refine CW.region ?_
    refine LR.v (Y.move rfl rfl) (Wd.u rfl) rfl rfl ?_
    refine LR.z (Z.strbw rfl Try.underlying9 Try.underlying22 Try.underlying5 rfl (by omega)) (Wd.u rfl) rfl rfl (fun v108 H108 r108 => ?_)
    obtain ⟨oa, hs108, hzs108⟩ := r108
    have nx6 : Nx 0 H0.size (Hcut0.size + 1) := Nx.new hm0.size
    replace hm0 := hm0.tr hs108
    have hz8 := hs108.size
    -- call selvage/rerere.Key
    refine LR.call rfl Try.call8 rfl (Wd.u rfl) rfl rfl (key_ct _ (Lp s0 s1 s2 s3).flatten w0 _ oa.rd.any (by omega)) (fun v109 H109 r109 => ?_)
    obtain ⟨rfl, hs109⟩ := r109
    replace oa := oa.nw hs109
    replace hm0 := hm0.tr hs109
    have hz9 := hs109.size
    refine LR.v (Y.move rfl rfl) (Wd.u rfl) rfl rfl ?_
    refine LR.v (Y.extract rfl rfl rfl) (Wd.u rfl) rfl rfl ?_
    refine LR.v (Y.extract rfl rfl rfl) (Wd.u rfl) rfl rfl ?_
    refine LR.z (Z.allocv rfl Try.zeroValue25) (Wd.u rfl) rfl rfl (fun v16 H16 r16 => ?_)
    obtain ⟨rfl, hv16, hs16, ob16, hH16⟩ := r16
    have hzs16 : H16.size = H109.size + 1 := by rw [hH16]; simp
    have dj7 : Dj (Hcut0.size + 1) (H109.size + 1) := Dj.new oa.le
    have nx8 : Nx 0 H0.size (H109.size + 1) := Nx.new hm0.size
    replace oa := oa.nw hs16
    replace hm0 := hm0.tr hs16
    have hz10 := hs16.size
    replace hv16 : Var 25 H16 H109.size (Z32.map V8) := hv16
    refine LR.s (S.var hv16 (((keyL (Lp s0 s1 s2 s3).flatten).1).map V8) (((keyL (Lp s0 s1 s2 s3).flatten).1).map V8) rfl rfl rfl rfl (by intro u hu; obtain ⟨x, _, rfl⟩ := List.mem_map.1 hu; rfl) Try.sizeOf25 (by simp [keyL_len, Z32_len]) (by simp [keyL_len, Z32_len]) (splice_all2 (by simp [keyL_len, Z32_len]))) (Wd.u rfl) rfl (fun H16_7 r16_7 => ?_)
    obtain ⟨hv16, hs16_7⟩ := r16_7
    replace hs16_7 := hs16_7.md1
    replace oa := oa.upL hs16_7 (DL.cons dj7 DL.nil)
    replace hm0 := (Mo.trL (ks := []) (hm0.mdn []) hs16_7 (MIL.cons (MI.app MI.z (nx8) (Nat.le_refl _)) MIL.nil)).nil
    have hz11 := hs16_7.size
    refine LR.v (Y.assign rfl rfl) (Wd.u rfl) rfl rfl ?_
    refine LR.nil ?_
    refine hK28 _ _ ?_
    refine CW.seq (fun K29 hK29 hE29 => ?_)
    refine CW.region ?_
    refine LR.v (Y.move rfl rfl) (Wd.u rfl) rfl rfl ?_
    refine LR.z (Z.strbw rfl Try.underlying9 Try.underlying22 Try.underlying5 rfl (by omega)) (Wd.u rfl) rfl rfl (fun v114 H114 r114 => ?_)
    obtain ⟨ob2, hs114, hzs114⟩ := r114
    have dj9 : Dj (H109.size + 1) (H16_7.size + 1) := Dj.new hv16.lt
    have nx10 : Nx 0 H0.size (H16_7.size + 1) := Nx.new hm0.size
    replace hv16 := hv16.nw hs114
    replace hm0 := hm0.tr hs114
    have hz12 := hs114.size
    -- call selvage/rerere.Key
    refine LR.call rfl Try.call8 rfl (Wd.u rfl) rfl rfl (key_ct _ (Lp s0 s2 s1 s3).flatten w0 _ ob2.rd.any (by omega)) (fun v115 H115 r115 => ?_)
    obtain ⟨rfl, hs115⟩ := r115
    replace hv16 := hv16.nw hs115
    replace ob2 := ob2.nw hs115
    replace hm0 := hm0.tr hs115
    have hz13 := hs115.size
    refine LR.v (Y.move rfl rfl) (Wd.u rfl) rfl rfl ?_
    refine LR.v (Y.extract rfl rfl rfl) (Wd.u rfl) rfl rfl ?_
    refine LR.v (Y.extract rfl rfl rfl) (Wd.u rfl) rfl rfl ?_
    refine LR.z (Z.allocv rfl Try.zeroValue25) (Wd.u rfl) rfl rfl (fun v18 H18 r18 => ?_)
    obtain ⟨rfl, hv18, hs18, ob18, hH18⟩ := r18
    have hzs18 : H18.size = H115.size + 1 := by rw [hH18]; simp
    have dj11 : Dj (H109.size + 1) (H115.size + 1) := Dj.new hv16.lt
    have dj12 : Dj (H16_7.size + 1) (H115.size + 1) := Dj.new ob2.le
    have nx13 : Nx 0 H0.size (H115.size + 1) := Nx.new hm0.size
    replace hv16 := hv16.nw hs18
    replace ob2 := ob2.nw hs18
    replace hm0 := hm0.tr hs18
    have hz14 := hs18.size
    replace hv18 : Var 25 H18 H115.size (Z32.map V8) := hv18
    refine LR.s (S.var hv18 (((keyL (Lp s0 s2 s1 s3).flatten).1).map V8) (((keyL (Lp s0 s2 s1 s3).flatten).1).map V8) rfl rfl rfl rfl (by intro u hu; obtain ⟨x, _, rfl⟩ := List.mem_map.1 hu; rfl) Try.sizeOf25 (by simp [keyL_len, Z32_len]) (by simp [keyL_len, Z32_len]) (splice_all2 (by simp [keyL_len, Z32_len]))) (Wd.u rfl) rfl (fun H17_7 r17_7 => ?_)
    obtain ⟨hv18, hs17_7⟩ := r17_7
    replace hs17_7 := hs17_7.md1
    replace hv16 := hv16.upL hs17_7 (DL.cons dj11 DL.nil)
    replace ob2 := ob2.upL hs17_7 (DL.cons dj12 DL.nil)
    replace hm0 := (Mo.trL (ks := []) (hm0.mdn []) hs17_7 (MIL.cons (MI.app MI.z (nx13) (Nat.le_refl _)) MIL.nil)).nil
    have hz15 := hs17_7.size
    refine LR.v (Y.assign rfl rfl) (Wd.u rfl) rfl rfl ?_
    refine LR.nil ?_
    refine hK29 _ _ ?_
    refine CW.seq (fun K30 hK30 hE30 => ?_)
    refine CW.region ?_
    refine LR.z (Z.litw _ (mkL) rfl inf32 rfl rfl rfl (by decide) (by decide) fS_len fS_one (rfl)) (Wd.u rfl) rfl rfl (fun v118 H118 r118 => ?_)
    obtain ⟨okm, hs118, ob118, hH118⟩ := r118
    have hzs118 : H118.size = H17_7.size + 1 := by rw [hH118]; simp
    have dj14 : Dj (H109.size + 1) (H17_7.size + 1) := Dj.new hv16.lt
    have dj15 : Dj (H115.size + 1) (H17_7.size + 1) := Dj.new hv18.lt
    have nx16 : Nx 0 H0.size (H17_7.size + 1) := Nx.new hm0.size
    replace hv16 := hv16.nw hs118
    replace hv18 := hv18.nw hs118
    replace hm0 := hm0.tr hs118
    have hz16 := hs118.size
    refine LR.v (Y.assign rfl rfl) (Wd.u rfl) rfl rfl ?_
    refine LR.nil ?_
    refine hK30 _ _ ?_
    refine CW.seq (fun K31 hK31 hE31 => ?_)
    refine CW.region ?_
    refine LR.v (Y.assign rfl rfl) (Wd.u rfl) rfl rfl ?_
    refine LR.nil ?_
    refine hK31 _ _ ?_
    refine CW.seq (fun K32 hK32 hE32 => ?_)
    refine CW.region ?_
    refine LR.v (Y.move rfl rfl) (Wd.u rfl) rfl rfl ?_
    refine LR.v (Y.move rfl rfl) (Wd.u rfl) rfl rfl ?_
    -- call selvage/selvagelaw19.within
    refine LR.call rfl Try.call14 rfl (Wd.u rfl) rfl rfl (within_ct wh 4 w0 _ (by decide) (by decide)) (fun v121 H121 r121 => ?_)
    obtain ⟨rfl, hs121⟩ := r121
    replace hv16 := hv16.nw hs121
    replace hv18 := hv18.nw hs121
    replace okm := okm.nw hs121
    replace hm0 := hm0.tr hs121
    have hz17 := hs121.size
    obtain ⟨n, hn, hn4⟩ := within4 wh
    obtain ⟨p, hp1, hp2, hp3, hp4, hp5⟩ := first_mark n0 n1 n2 n3 hn4
    have h8 : (mk n).length = 8 := (mk_mw hn4).2.2.2.2
    have hCl := congrArg List.length hp5
    rw [List.length_append, List.length_take, List.length_drop] at hCl
    have hk25 : (keyL (cutP s0 s1 s2 s3 n).flatten).2 = 25 := by rw [keyL, parse_cut n0 n1 n2 n3 hn4, keyC_bad (by decide)]
    refine LR.v (Y.owAddr okm (n) rfl Try.runUnderlying32 Try.sizeOf9 rfl rfl hn (by show n < 4; omega)) (Wd.u rfl) rfl rfl ?_
    refine LR.v (Y.cast (v2 := Str (mk n)) (Y.load1 (okm.pt (j := n) (by show n < 4; omega)) rfl Try.isAgg9 rfl) (by simp [mk, List.getD, show n < mkL.length from hn4])) (Wd.u rfl) rfl rfl ?_
    refine LR.v (Y.assign rfl rfl) (Wd.u rfl) rfl rfl ?_
    refine LR.nil ?_
    refine hK32 _ _ ?_
    refine CW.cut (fun (_ : Unit) => [(16, .pointer (some ⟨H109.size, 0, none⟩)), (17, .int .i64 (keyL (Lp s0 s1 s2 s3).flatten).2), (18, .pointer (some ⟨H115.size, 0, none⟩)), (19, .int .i64 (keyL (Lp s0 s2 s1 s3).flatten).2), (21, Str (cutP s0 s1 s2 s3 n).flatten)])
      (fun (_ : Unit) (H : Heap) => (True) ∧ Nw H121 H) (fun K33 hK33 hE33 => ?_) ?_
    ·
      have hcm33 : Nw H121 H121 := Mo.refl _ _
      refine CW.seq (fun K34 hK34 hE34 => ?_)
      refine CW.region ?_
      refine LR.v (Y.assign rfl rfl) (Wd.u rfl) rfl rfl ?_
      refine LR.nil ?_
      refine hK34 _ _ ?_
      refine CW.block (fun K35 hK35 hX35 hE35 => ?_)
      refine CW.loop (fun (i : (Nat)) => [(14, Str (Lp s0 s1 s2 s3).flatten), (16, .pointer (some ⟨H109.size, 0, none⟩)), (17, .int .i64 (keyL (Lp s0 s1 s2 s3).flatten).2), (18, .pointer (some ⟨H115.size, 0, none⟩)), (19, .int .i64 (keyL (Lp s0 s2 s1 s3).flatten).2), (21, Str ((Lp s0 s1 s2 s3).flatten.take i)), (22, Str (mk n)), (23, .int .i64 i)])
        (fun (i : (Nat)) (H : Heap) => (i ≤ p) ∧ Nw H121 H)
        (fun (i : (Nat)) => p + 1 - i) 0 ⟨rfl, rfl, rfl, rfl, rfl, rfl, rfl, rfl, trivial⟩ ?_ ?_
      ·
        exact ⟨(by omega), Mo.refl _ _⟩
      intro i HL3 hI3 K36 hN36 hE36
      obtain ⟨hi, hlm3⟩ := hI3
      replace hv16 := hv16.nw hlm3
      replace hv18 := hv18.nw hlm3
      replace hm0 := hm0.tr hlm3
      replace hcm33 := hcm33.tr hlm3
      have hz18 := hlm3.size
      refine CW.seq (fun K37 hK37 hE37 => ?_)
      refine CW.seq (fun K38 hK38 hE38 => ?_)
      refine CW.region ?_
      refine LR.v (Y.move rfl rfl) (Wd.u rfl) rfl rfl ?_
      refine LR.v (Y.move rfl rfl) (Wd.u rfl) rfl rfl ?_
      refine LR.v (Y.slen rfl Try.runUnderlying9 rfl) (Wd.u rfl) rfl rfl ?_
      refine LR.v (Y.lss rfl rfl rfl) (Wd.u rfl) rfl rfl ?_
      refine LR.nil ?_
      refine hK38 _ _ ?_
      refine CW.condp rfl (fun c127 => ?_) (fun c127 => ?_)
      ·
        refine CW.skip ?_
        refine hK37 _ _ ?_
        refine CW.seq (fun K39 hK39 hE39 => ?_)
        refine CW.block (fun K40 hK40 hX40 hE40 => ?_)
        refine CW.seq (fun K41 hK41 hE41 => ?_)
        refine CW.seq (fun K42 hK42 hE42 => ?_)
        refine CW.region ?_
        refine LR.v (Y.move rfl rfl) (Wd.u rfl) rfl rfl ?_
        refine LR.v (Y.move rfl rfl) (Wd.u rfl) rfl rfl ?_
        refine LR.v (Y.move rfl rfl) (Wd.u rfl) rfl rfl ?_
        refine LR.v (Y.cast (v2 := Str ((Lp s0 s1 s2 s3).flatten.take i)) (Y.sslice (0) (i) rfl Try.runUnderlying9 rfl (.inl ⟨rfl, rfl⟩) (.inr ⟨_, _, _, rfl, rfl, by first | rfl | omega⟩) (by omega) (by omega)) (by rw [List.drop_zero])) (Wd.u rfl) rfl rfl ?_
        refine LR.v ((Y.seql rfl rfl rfl).isT (rfl)) (Wd.u rfl) rfl rfl ?_
        refine LR.v (Y.move rfl rfl) (Wd.u rfl) rfl rfl ?_
        refine LR.v (Y.move rfl rfl) (Wd.g rfl rfl rfl) rfl rfl ?_
        refine LR.v (Y.slen rfl Try.runUnderlying9 rfl) (Wd.g rfl rfl rfl) rfl rfl ?_
        refine LR.v (Y.move rfl rfl) (Wd.g rfl rfl rfl) rfl rfl ?_
        refine LR.v (Y.subi rfl rfl rfl (by omega)) (Wd.g rfl rfl rfl) rfl rfl ?_
        refine LR.v (Y.move rfl rfl) (Wd.g rfl rfl rfl) rfl rfl ?_
        refine LR.v (Y.slen rfl Try.runUnderlying9 rfl) (Wd.g rfl rfl rfl) rfl rfl ?_
        refine LR.v (Y.geq rfl rfl rfl) (Wd.g rfl rfl rfl) rfl rfl ?_
        refine LR.v (Y.pick_t rfl rfl rfl) (Wd.u rfl) rfl rfl ?_
        refine LR.v (Y.move rfl rfl) (Wd.u rfl) rfl rfl ?_
        refine LR.splitp (d := 144) rfl (fun g144 => ?_) (fun g144 => ?_)
        ·
          refine LR.v (Y.move rfl rfl) (Wd.g rfl rfl rfl) rfl rfl ?_
          refine LR.v (Y.move rfl rfl) (Wd.g rfl rfl rfl) rfl rfl ?_
          refine LR.v (Y.move rfl rfl) (Wd.g rfl rfl rfl) rfl rfl ?_
          refine LR.v (Y.move rfl rfl) (Wd.g rfl rfl rfl) rfl rfl ?_
          refine LR.v (Y.slen rfl Try.runUnderlying9 rfl) (Wd.g rfl rfl rfl) rfl rfl ?_
          refine LR.v (Y.addi rfl rfl rfl (by omega)) (Wd.g rfl rfl rfl) rfl rfl ?_
          refine LR.v (Y.sslice (i) (i + (mk n).length) rfl Try.runUnderlying9 rfl (.inr ⟨_, _, _, rfl, rfl, by first | rfl | omega⟩) (.inr ⟨_, _, _, rfl, rfl, by first | rfl | omega⟩) (by omega) (by omega)) (Wd.g rfl rfl rfl) rfl rfl ?_
          refine LR.v (Y.move rfl rfl) (Wd.g rfl rfl rfl) rfl rfl ?_
          refine LR.v (Y.seql rfl rfl rfl) (Wd.g rfl rfl rfl) rfl rfl ?_
          refine LR.v (Y.pick_t rfl rfl rfl) (Wd.u rfl) rfl rfl ?_
          refine LR.v (Y.move rfl rfl) (Wd.u rfl) rfl rfl ?_
          refine LR.splitp (d := 155) rfl (fun g155 => ?_) (fun g155 => ?_)
          ·
            refine LR.v (Y.move rfl rfl) (Wd.g rfl rfl rfl) rfl rfl ?_
            refine LR.v (Y.eql rfl rfl rfl) (Wd.g rfl rfl rfl) rfl rfl ?_
            refine LR.v (Y.move rfl rfl) (Wd.g rfl rfl rfl) rfl rfl ?_
            refine LR.splitp (d := 158) rfl (fun g158 => ?_) (fun g158 => ?_)
            ·
              refine LR.gs rfl rfl rfl rfl rfl rfl ?_
              refine LR.gs rfl rfl rfl rfl rfl rfl ?_
              refine LR.gs rfl rfl rfl rfl rfl rfl ?_
              refine LR.gs rfl rfl rfl rfl rfl rfl ?_
              refine LR.gs rfl rfl rfl rfl rfl rfl ?_
              refine LR.v (Y.pick_t rfl rfl rfl) (Wd.g rfl rfl rfl) rfl rfl ?_
              refine LR.v (Y.pick_t rfl rfl rfl) (Wd.u rfl) rfl rfl ?_
              refine LR.nil ?_
              refine hK42 _ _ ?_
              refine CW.cond_t rfl ?_
              refine CW.seq (fun K43 hK43 hE43 => ?_)
              refine CW.region ?_
              refine LR.v (Y.move rfl rfl) (Wd.u rfl) rfl rfl ?_
              refine LR.v (Y.move rfl rfl) (Wd.u rfl) rfl rfl ?_
              refine LR.v (Y.move rfl rfl) (Wd.u rfl) rfl rfl ?_
              refine LR.v (Y.move rfl rfl) (Wd.u rfl) rfl rfl ?_
              refine LR.v (Y.slen rfl Try.runUnderlying9 rfl) (Wd.u rfl) rfl rfl ?_
              refine LR.v (Y.addi rfl rfl rfl (by omega)) (Wd.u rfl) rfl rfl ?_
              refine LR.v (Y.sslice (i + (mk n).length) ((Lp s0 s1 s2 s3).flatten.length) rfl Try.runUnderlying9 rfl (.inr ⟨_, _, _, rfl, rfl, by first | rfl | omega⟩) (.inl ⟨rfl, rfl⟩) (by omega) (by omega)) (Wd.u rfl) rfl rfl ?_
              refine LR.v (Y.sadd rfl rfl rfl (by simp only [List.length_take, List.length_drop]; omega)) (Wd.u rfl) rfl rfl ?_
              refine LR.v (Y.assign rfl rfl) (Wd.u rfl) rfl rfl ?_
              refine LR.nil ?_
              refine hK43 _ _ ?_
              refine CW.exit (hE41 (.exit 4) nofun _ _ (hE40 (.exit 4) nofun (by simp) _ _ (hE39 (.exit 4) nofun _ _ (hE36 (.exit 4) nofun _ _ (hX35 _ _ ?_)))))
              have hat : At8 (Lp s0 s1 s2 s3).flatten (mk n) i := ⟨by assumption, by first | (left; omega) | (right; exact (get_pred (by omega)).1 (by assumption))⟩
              have hip : i = p := Decidable.byContradiction (fun hne => hp4 i (by omega) hat)
              have hfin : (Lp s0 s1 s2 s3).flatten.take i ++ ((Lp s0 s1 s2 s3).flatten.take (Lp s0 s1 s2 s3).flatten.length).drop (i + (mk n).length) = (cutP s0 s1 s2 s3 n).flatten := by rw [h8, hip, List.take_length]; exact hp5
              refine QN.sub (hK33 () _ ?_) ⟨rfl, (iv (by omega)), rfl, (iv (by omega)), (congrArg (fun x => some (Str x)) hfin), trivial⟩
              exact ⟨trivial, hcm33⟩
            ·
              refine LR.v (Y.move rfl rfl) (Wd.g rfl rfl rfl) rfl rfl ?_
              refine LR.v (Y.move rfl rfl) (Wd.g rfl rfl rfl) rfl rfl ?_
              refine LR.v (Y.subi rfl rfl rfl (by omega)) (Wd.g rfl rfl rfl) rfl rfl ?_
              refine LR.v (Y.sindex (i - 1) rfl Try.runUnderlying9 rfl rfl (by omega) (by omega)) (Wd.g rfl rfl rfl) rfl rfl ?_
              refine LR.v (Y.eql rfl rfl rfl) (Wd.g rfl rfl rfl) rfl rfl ?_
              refine LR.v (Y.pick_f rfl rfl rfl) (Wd.g rfl rfl rfl) rfl rfl ?_
              refine LR.v (Y.pick_t rfl rfl rfl) (Wd.u rfl) rfl rfl ?_
              refine LR.nil ?_
              refine hK42 _ _ ?_
              refine CW.condp rfl (fun c165 => ?_) (fun c165 => ?_)
              ·
                refine CW.seq (fun K44 hK44 hE44 => ?_)
                refine CW.region ?_
                refine LR.v (Y.move rfl rfl) (Wd.u rfl) rfl rfl ?_
                refine LR.v (Y.move rfl rfl) (Wd.u rfl) rfl rfl ?_
                refine LR.v (Y.move rfl rfl) (Wd.u rfl) rfl rfl ?_
                refine LR.v (Y.move rfl rfl) (Wd.u rfl) rfl rfl ?_
                refine LR.v (Y.slen rfl Try.runUnderlying9 rfl) (Wd.u rfl) rfl rfl ?_
                refine LR.v (Y.addi rfl rfl rfl (by omega)) (Wd.u rfl) rfl rfl ?_
                refine LR.v (Y.sslice (i + (mk n).length) ((Lp s0 s1 s2 s3).flatten.length) rfl Try.runUnderlying9 rfl (.inr ⟨_, _, _, rfl, rfl, by first | rfl | omega⟩) (.inl ⟨rfl, rfl⟩) (by omega) (by omega)) (Wd.u rfl) rfl rfl ?_
                refine LR.v (Y.sadd rfl rfl rfl (by simp only [List.length_take, List.length_drop]; omega)) (Wd.u rfl) rfl rfl ?_
                refine LR.v (Y.assign rfl rfl) (Wd.u rfl) rfl rfl ?_
                refine LR.nil ?_
                refine hK44 _ _ ?_
                refine CW.exit (hE41 (.exit 4) nofun _ _ (hE40 (.exit 4) nofun (by simp) _ _ (hE39 (.exit 4) nofun _ _ (hE36 (.exit 4) nofun _ _ (hX35 _ _ ?_)))))
                have hat : At8 (Lp s0 s1 s2 s3).flatten (mk n) i := ⟨by assumption, by first | (left; omega) | (right; exact (get_pred (by omega)).1 (by assumption))⟩
                have hip : i = p := Decidable.byContradiction (fun hne => hp4 i (by omega) hat)
                have hfin : (Lp s0 s1 s2 s3).flatten.take i ++ ((Lp s0 s1 s2 s3).flatten.take (Lp s0 s1 s2 s3).flatten.length).drop (i + (mk n).length) = (cutP s0 s1 s2 s3 n).flatten := by rw [h8, hip, List.take_length]; exact hp5
                refine QN.sub (hK33 () _ ?_) ⟨rfl, (iv (by omega)), rfl, (iv (by omega)), (congrArg (fun x => some (Str x)) hfin), trivial⟩
                exact ⟨trivial, hcm33⟩
              ·
                refine CW.skip ?_
                refine hK41 _ _ ?_
                refine CW.region ?_
                refine LR.v (Y.move rfl rfl) (Wd.u rfl) rfl rfl ?_
                refine LR.v (Y.move rfl rfl) (Wd.u rfl) rfl rfl ?_
                refine LR.v (Y.move rfl rfl) (Wd.u rfl) rfl rfl ?_
                refine LR.v (Y.move rfl rfl) (Wd.u rfl) rfl rfl ?_
                refine LR.v (Y.addi rfl rfl rfl (by omega)) (Wd.u rfl) rfl rfl ?_
                refine LR.v (Y.sslice (i) (i + 1) rfl Try.runUnderlying9 rfl (.inr ⟨_, _, _, rfl, rfl, by first | rfl | omega⟩) (.inr ⟨_, _, _, rfl, rfl, by first | rfl | omega⟩) (by omega) (by omega)) (Wd.u rfl) rfl rfl ?_
                refine LR.v (Y.sadd rfl rfl rfl (by simp only [List.length_take, List.length_drop]; omega)) (Wd.u rfl) rfl rfl ?_
                refine LR.v (Y.assign rfl rfl) (Wd.u rfl) rfl rfl ?_
                refine LR.nil ?_
                refine hK40 _ _ ?_
                refine hK39 _ _ ?_
                refine CW.region ?_
                refine LR.v (Y.move rfl rfl) (Wd.u rfl) rfl rfl ?_
                refine LR.v (Y.addi rfl rfl rfl (by omega)) (Wd.u rfl) rfl rfl ?_
                refine LR.v (Y.assign rfl rfl) (Wd.u rfl) rfl rfl ?_
                refine LR.nil ?_
                have hne : i ≠ p := by
                  intro e
                  have h3 := hp3
                  rw [← e] at h3
                  first | omega | (exact absurd h3.1 (by assumption)) | (rcases h3.2 with h9 | h9; omega; exact absurd ((get_pred (by omega)).2 h9) (by assumption))
                have hst := take_one8 (x := (Lp s0 s1 s2 s3).flatten) (i := i) (by omega)
                refine QN.sub (hN36 (i + 1) _ ?_ ?_) ⟨rfl, rfl, (iv (by omega)), rfl, (iv (by omega)), (congrArg (fun x => some (Str x)) hst), rfl, (iv (by omega)), trivial⟩
                · exact ⟨(by omega), hlm3⟩
                · first | omega | (simp only; omega) | (simp; omega)
          ·
            refine LR.gs rfl rfl rfl rfl rfl rfl ?_
            refine LR.gs rfl rfl rfl rfl rfl rfl ?_
            refine LR.gs rfl rfl rfl rfl rfl rfl ?_
            refine LR.gsu rfl rfl rfl rfl rfl ?_
            refine LR.gsu rfl rfl rfl rfl rfl ?_
            refine LR.gsu rfl rfl rfl rfl rfl ?_
            refine LR.gsu rfl rfl rfl rfl rfl ?_
            refine LR.gsu rfl rfl rfl rfl rfl ?_
            refine LR.gs rfl rfl rfl rfl rfl rfl ?_
            refine LR.v (Y.pick_f rfl rfl rfl) (Wd.u rfl) rfl rfl ?_
            refine LR.nil ?_
            refine hK42 _ _ ?_
            refine CW.cond_f rfl ?_
            refine CW.skip ?_
            refine hK41 _ _ ?_
            refine CW.region ?_
            refine LR.v (Y.move rfl rfl) (Wd.u rfl) rfl rfl ?_
            refine LR.v (Y.move rfl rfl) (Wd.u rfl) rfl rfl ?_
            refine LR.v (Y.move rfl rfl) (Wd.u rfl) rfl rfl ?_
            refine LR.v (Y.move rfl rfl) (Wd.u rfl) rfl rfl ?_
            refine LR.v (Y.addi rfl rfl rfl (by omega)) (Wd.u rfl) rfl rfl ?_
            refine LR.v (Y.sslice (i) (i + 1) rfl Try.runUnderlying9 rfl (.inr ⟨_, _, _, rfl, rfl, by first | rfl | omega⟩) (.inr ⟨_, _, _, rfl, rfl, by first | rfl | omega⟩) (by omega) (by omega)) (Wd.u rfl) rfl rfl ?_
            refine LR.v (Y.sadd rfl rfl rfl (by simp only [List.length_take, List.length_drop]; omega)) (Wd.u rfl) rfl rfl ?_
            refine LR.v (Y.assign rfl rfl) (Wd.u rfl) rfl rfl ?_
            refine LR.nil ?_
            refine hK40 _ _ ?_
            refine hK39 _ _ ?_
            refine CW.region ?_
            refine LR.v (Y.move rfl rfl) (Wd.u rfl) rfl rfl ?_
            refine LR.v (Y.addi rfl rfl rfl (by omega)) (Wd.u rfl) rfl rfl ?_
            refine LR.v (Y.assign rfl rfl) (Wd.u rfl) rfl rfl ?_
            refine LR.nil ?_
            have hne : i ≠ p := by
              intro e
              have h3 := hp3
              rw [← e] at h3
              first | omega | (exact absurd h3.1 (by assumption)) | (rcases h3.2 with h9 | h9; omega; exact absurd ((get_pred (by omega)).2 h9) (by assumption))
            have hst := take_one8 (x := (Lp s0 s1 s2 s3).flatten) (i := i) (by omega)
            refine QN.sub (hN36 (i + 1) _ ?_ ?_) ⟨rfl, rfl, (iv (by omega)), rfl, (iv (by omega)), (congrArg (fun x => some (Str x)) hst), rfl, (iv (by omega)), trivial⟩
            · exact ⟨(by omega), hlm3⟩
            · first | omega | (simp only; omega) | (simp; omega)
        ·
          refine LR.gs rfl rfl rfl rfl rfl rfl ?_
          refine LR.gs rfl rfl rfl rfl rfl rfl ?_
          refine LR.gs rfl rfl rfl rfl rfl rfl ?_
          refine LR.gs rfl rfl rfl rfl rfl rfl ?_
          refine LR.gs rfl rfl rfl rfl rfl rfl ?_
          refine LR.gs rfl rfl rfl rfl rfl rfl ?_
          refine LR.gs rfl rfl rfl rfl rfl rfl ?_
          refine LR.gs rfl rfl rfl rfl rfl rfl ?_
          refine LR.gs rfl rfl rfl rfl rfl rfl ?_
          refine LR.v (Y.pick_f rfl rfl rfl) (Wd.u rfl) rfl rfl ?_
          refine LR.v (Y.move rfl rfl) (Wd.u rfl) rfl rfl ?_
          refine LR.gs rfl rfl rfl rfl rfl rfl ?_
          refine LR.gs rfl rfl rfl rfl rfl rfl ?_
          refine LR.gs rfl rfl rfl rfl rfl rfl ?_
          refine LR.gsu rfl rfl rfl rfl rfl ?_
          refine LR.gsu rfl rfl rfl rfl rfl ?_
          refine LR.gsu rfl rfl rfl rfl rfl ?_
          refine LR.gsu rfl rfl rfl rfl rfl ?_
          refine LR.gsu rfl rfl rfl rfl rfl ?_
          refine LR.gs rfl rfl rfl rfl rfl rfl ?_
          refine LR.v (Y.pick_f rfl rfl rfl) (Wd.u rfl) rfl rfl ?_
          refine LR.nil ?_
          refine hK42 _ _ ?_
          refine CW.cond_f rfl ?_
          refine CW.skip ?_
          refine hK41 _ _ ?_
          refine CW.region ?_
          refine LR.v (Y.move rfl rfl) (Wd.u rfl) rfl rfl ?_
          refine LR.v (Y.move rfl rfl) (Wd.u rfl) rfl rfl ?_
          refine LR.v (Y.move rfl rfl) (Wd.u rfl) rfl rfl ?_
          refine LR.v (Y.move rfl rfl) (Wd.u rfl) rfl rfl ?_
          refine LR.v (Y.addi rfl rfl rfl (by omega)) (Wd.u rfl) rfl rfl ?_
          refine LR.v (Y.sslice (i) (i + 1) rfl Try.runUnderlying9 rfl (.inr ⟨_, _, _, rfl, rfl, by first | rfl | omega⟩) (.inr ⟨_, _, _, rfl, rfl, by first | rfl | omega⟩) (by omega) (by omega)) (Wd.u rfl) rfl rfl ?_
          refine LR.v (Y.sadd rfl rfl rfl (by simp only [List.length_take, List.length_drop]; omega)) (Wd.u rfl) rfl rfl ?_
          refine LR.v (Y.assign rfl rfl) (Wd.u rfl) rfl rfl ?_
          refine LR.nil ?_
          refine hK40 _ _ ?_
          refine hK39 _ _ ?_
          refine CW.region ?_
          refine LR.v (Y.move rfl rfl) (Wd.u rfl) rfl rfl ?_
          refine LR.v (Y.addi rfl rfl rfl (by omega)) (Wd.u rfl) rfl rfl ?_
          refine LR.v (Y.assign rfl rfl) (Wd.u rfl) rfl rfl ?_
          refine LR.nil ?_
          have hne : i ≠ p := by
            intro e
            have h3 := hp3
            rw [← e] at h3
            first | omega | (exact absurd h3.1 (by assumption)) | (rcases h3.2 with h9 | h9; omega; exact absurd ((get_pred (by omega)).2 h9) (by assumption))
          have hst := take_one8 (x := (Lp s0 s1 s2 s3).flatten) (i := i) (by omega)
          refine QN.sub (hN36 (i + 1) _ ?_ ?_) ⟨rfl, rfl, (iv (by omega)), rfl, (iv (by omega)), (congrArg (fun x => some (Str x)) hst), rfl, (iv (by omega)), trivial⟩
          · exact ⟨(by omega), hlm3⟩
          · first | omega | (simp only; omega) | (simp; omega)
      ·
        exfalso; omega
    ·
      intro _ Hcut4 hIcut4
      obtain ⟨htr, hlmcut4⟩ := hIcut4
      replace hv16 := hv16.nw hlmcut4
      replace hv18 := hv18.nw hlmcut4
      replace hm0 := hm0.tr hlmcut4
      have hz19 := hlmcut4.size
      refine CW.seq (fun K45 hK45 hE45 => ?_)
      refine CW.region ?_
      refine LR.v (Y.move rfl rfl) (Wd.u rfl) rfl rfl ?_
      refine LR.z (Z.strbw rfl Try.underlying9 Try.underlying22 Try.underlying5 rfl (by omega)) (Wd.u rfl) rfl rfl (fun v183 H183 r183 => ?_)
      obtain ⟨oc, hs183, hzs183⟩ := r183
      have dj17 : Dj (H109.size + 1) (Hcut4.size + 1) := Dj.new hv16.lt
      have dj18 : Dj (H115.size + 1) (Hcut4.size + 1) := Dj.new hv18.lt
      have nx19 : Nx 0 H0.size (Hcut4.size + 1) := Nx.new hm0.size
      replace hv16 := hv16.nw hs183
      replace hv18 := hv18.nw hs183
      replace hm0 := hm0.tr hs183
      have hz20 := hs183.size
      -- call selvage/rerere.Key
      refine LR.call rfl Try.call8 rfl (Wd.u rfl) rfl rfl (key_ct _ (cutP s0 s1 s2 s3 n).flatten w0 _ oc.rd.any (by omega)) (fun v184 H184 r184 => ?_)
      obtain ⟨rfl, hs184⟩ := r184
      replace hv16 := hv16.nw hs184
      replace hv18 := hv18.nw hs184
      replace oc := oc.nw hs184
      replace hm0 := hm0.tr hs184
      have hz21 := hs184.size
      refine LR.v (Y.move rfl rfl) (Wd.u rfl) rfl rfl ?_
      refine LR.v (Y.extract rfl rfl rfl) (Wd.u rfl) rfl rfl ?_
      refine LR.v (Y.extract rfl rfl rfl) (Wd.u rfl) rfl rfl ?_
      refine LR.z (Z.allocv rfl Try.zeroValue25) (Wd.u rfl) rfl rfl (fun v24 H24 r24 => ?_)
      obtain ⟨rfl, hv24, hs24, ob24, hH24⟩ := r24
      have hzs24 : H24.size = H184.size + 1 := by rw [hH24]; simp
      have dj20 : Dj (H109.size + 1) (H184.size + 1) := Dj.new hv16.lt
      have dj21 : Dj (H115.size + 1) (H184.size + 1) := Dj.new hv18.lt
      have dj22 : Dj (Hcut4.size + 1) (H184.size + 1) := Dj.new oc.le
      have nx23 : Nx 0 H0.size (H184.size + 1) := Nx.new hm0.size
      replace hv16 := hv16.nw hs24
      replace hv18 := hv18.nw hs24
      replace oc := oc.nw hs24
      replace hm0 := hm0.tr hs24
      have hz22 := hs24.size
      replace hv24 : Var 25 H24 H184.size (Z32.map V8) := hv24
      refine LR.s (S.var hv24 (((keyL (cutP s0 s1 s2 s3 n).flatten).1).map V8) (((keyL (cutP s0 s1 s2 s3 n).flatten).1).map V8) rfl rfl rfl rfl (by intro u hu; obtain ⟨x, _, rfl⟩ := List.mem_map.1 hu; rfl) Try.sizeOf25 (by simp [keyL_len, Z32_len]) (by simp [keyL_len, Z32_len]) (splice_all2 (by simp [keyL_len, Z32_len]))) (Wd.u rfl) rfl (fun H27_7 r27_7 => ?_)
      obtain ⟨hv24, hs27_7⟩ := r27_7
      replace hs27_7 := hs27_7.md1
      replace hv16 := hv16.upL hs27_7 (DL.cons dj20 DL.nil)
      replace hv18 := hv18.upL hs27_7 (DL.cons dj21 DL.nil)
      replace oc := oc.upL hs27_7 (DL.cons dj22 DL.nil)
      replace hm0 := (Mo.trL (ks := []) (hm0.mdn []) hs27_7 (MIL.cons (MI.app MI.z (nx23) (Nat.le_refl _)) MIL.nil)).nil
      have hz23 := hs27_7.size
      refine LR.v (Y.assign rfl rfl) (Wd.u rfl) rfl rfl ?_
      refine LR.nil ?_
      refine hK45 _ _ ?_
      refine CW.seq (fun K46 hK46 hE46 => ?_)
      refine CW.region ?_
      refine LR.v (Y.move rfl rfl) (Wd.u rfl) rfl rfl ?_
      refine LR.v ((Y.eql rfl rfl rfl).isT ((key_P n0 n1 n2 n3).1)) (Wd.u rfl) rfl rfl ?_
      refine LR.v (Y.move rfl rfl) (Wd.u rfl) rfl rfl ?_
      refine LR.v (Y.move rfl rfl) (Wd.g rfl rfl rfl) rfl rfl ?_
      refine LR.v ((Y.eql rfl rfl rfl).isT (by rw [(key_P n0 n1 n2 n3).2]; exact (key_P n0 n1 n2 n3).1)) (Wd.g rfl rfl rfl) rfl rfl ?_
      refine LR.v (Y.pick_t rfl rfl rfl) (Wd.u rfl) rfl rfl ?_
      refine LR.v (Y.move rfl rfl) (Wd.u rfl) rfl rfl ?_
      refine LR.v (Y.cast (v2 := idV (keyL (Lp s0 s1 s2 s3).flatten).1) (Y.loadN hv16.pt rfl Try.isAgg25 Try.sizeOf25 (by simp [keyL_len]) rfl) (rfl)) (Wd.g rfl rfl rfl) rfl rfl ?_
      refine LR.v (Y.cast (v2 := idV (keyL (Lp s0 s2 s1 s3).flatten).1) (Y.loadN hv18.pt rfl Try.isAgg25 Try.sizeOf25 (by simp [keyL_len]) rfl) (rfl)) (Wd.g rfl rfl rfl) rfl rfl ?_
      refine LR.v ((Y.aeql rfl Try.eqGuardType25 (fun w => run_equalIn_id 9998 Try.underlying25 Try.underlying5 Try.sizeOf5 Try.isAgg5 (keyL_len _) (keyL_len _) w) rfl rfl).isT (by rw [(key_P n0 n1 n2 n3).2])) (Wd.g rfl rfl rfl) rfl rfl ?_
      refine LR.v (Y.pick_t rfl rfl rfl) (Wd.u rfl) rfl rfl ?_
      refine LR.v (Y.move rfl rfl) (Wd.u rfl) rfl rfl ?_
      refine LR.v (Y.move rfl rfl) (Wd.g rfl rfl rfl) rfl rfl ?_
      refine LR.v ((Y.eql rfl rfl rfl).isT (hk25)) (Wd.g rfl rfl rfl) rfl rfl ?_
      refine LR.v (Y.pick_t rfl rfl rfl) (Wd.u rfl) rfl rfl ?_
      refine LR.v (Y.assign rfl rfl) (Wd.u rfl) rfl rfl ?_
      refine LR.nil ?_
      refine hK46 _ _ ?_
      refine CW.ret (hret .ret (.inr rfl) _ _ _ (res1 rfl rfl) ?_)
      exact ⟨rfl, hm0⟩

end Go.Proofs.Ytegfnfhdgbcjbaa.RerE
