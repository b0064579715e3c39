/-
  A merge is read again: the laws.
-/
import Derived.Test.YtegfnfhdgbcjbaaMerM
namespace Go.Proofs.Ytegfnfhdgbcjbaa.MerP
open Go.Proofs.Ytegfnfhdgbcjbaa.E Go.RowKit Go.Proofs.Ytegfnfhdgbcjbaa.LinM Go.Proofs.Ytegfnfhdgbcjbaa.LinA Go.Proofs.Ytegfnfhdgbcjbaa.LinC Go.Proofs.Ytegfnfhdgbcjbaa.LinF Go.Proofs.Ytegfnfhdgbcjbaa.LinL Go.Proofs.Ytegfnfhdgbcjbaa.LinN Go.Proofs.Ytegfnfhdgbcjbaa.MerA Go.Proofs.Ytegfnfhdgbcjbaa.MerB Go.Proofs.Ytegfnfhdgbcjbaa.MerC Go.Proofs.Ytegfnfhdgbcjbaa.MerD Go.Proofs.Ytegfnfhdgbcjbaa.MerE Go.Proofs.Ytegfnfhdgbcjbaa.MerF Go.Proofs.Ytegfnfhdgbcjbaa.MerG Go.Proofs.Ytegfnfhdgbcjbaa.MerH Go.Proofs.Ytegfnfhdgbcjbaa.MerI Go.Proofs.Ytegfnfhdgbcjbaa.MerL Go.Proofs.Ytegfnfhdgbcjbaa.MerM
set_option maxRecDepth 20000
set_option linter.unusedVariables false
set_option linter.unusedSimpArgs false
set_option linter.unusedSectionVars false

/-- a line with its only line feed at its end -/
def Eol (s : List UInt8) : Prop := ∃ p : List UInt8, s = p ++ [10] ∧ (10 : UInt8) ∉ p
theorem splitL_line : ∀ (p cur r : List UInt8), (10 : UInt8) ∉ p → splitL cur (p ++ 10 :: r) = (cur ++ p ++ [10]) :: splitL [] r := by
  intro p
  induction p with
  | nil => intro cur r _; simp [splitL]
  | cons x p ih =>
    intro cur r h
    have hx : x ≠ 10 := fun e => h (by rw [e]; simp)
    rw [List.cons_append, splitL, if_neg (by simpa using hx), ih _ _ (fun e => h (List.mem_cons_of_mem _ e))]
    simp
theorem split_eol : ∀ (l : LL), (∀ s ∈ l, Eol s) → splitL [] l.flatten = l
  | [], _ => by simp [splitL]
  | s :: l, h => by
    obtain ⟨p, e, hp⟩ := h s (List.mem_cons_self)
    subst e
    rw [List.flatten_cons, List.append_assoc, List.singleton_append, splitL_line p [] _ hp, split_eol l (fun x hx => h x (List.mem_cons_of_mem _ hx))]
    simp
theorem last_eol (l : LL) (h : ∀ s ∈ l, Eol s) : l.flatten.getLastD 10 = 10 := by
  rcases List.eq_nil_or_concat l with rfl | ⟨l0, y, rfl⟩
  · rfl
  · rw [List.concat_eq_append] at *
    obtain ⟨p, e, _⟩ := h y (by simp)
    subst e
    simp
theorem endL_eol (l : LL) (h : ∀ s ∈ l, Eol s) : endL l.flatten = l.flatten := by rw [endL, if_pos (last_eol l h)]
/-- a line without line feeds, and one -/
def nlS (s : List UInt8) : List UInt8 := s.filter (fun c => decide (c ≠ 10)) ++ [10]
theorem nl_eol (s : List UInt8) : Eol (nlS s) := ⟨_, rfl, fun h => by have := (List.mem_filter.1 h).2; simp at this⟩
theorem nl_all (l : LL) : ∀ s ∈ l.map nlS, Eol s := fun s hs => by obtain ⟨x, _, rfl⟩ := List.mem_map.1 hs; exact nl_eol x
theorem nl_len : ∀ (l : LL), (l.map nlS).flatten.length ≤ l.flatten.length + l.length
  | [] => by simp
  | s :: l => by
    have h1 := nl_len l
    have h2 : (s.filter (fun c => decide (c ≠ 10))).length ≤ s.length := List.length_filter_le _ _
    simp only [List.map_cons, List.flatten_cons, List.length_append, List.length_cons, nlS, List.length_nil]
    omega
/-! lines of what is rendered -/
def sideC (c : Cn) : LL := if c.1 = 0 then c.2.1 else if c.1 = 1 ∨ c.1 = 3 then c.2.2.1 else c.2.2.2
def linesC (c : Cn) : LL := if c.1 = 4 then mk 0 :: c.2.2.1 ++ mk 1 :: c.2.1 ++ mk 2 :: c.2.2.2 ++ [mk 3] else sideC c
/-- each of a chunk's lines meets p -/
def AllC (p : List UInt8 → Prop) (c : Cn) : Prop := (∀ s ∈ c.2.1, p s) ∧ (∀ s ∈ c.2.2.1, p s) ∧ (∀ s ∈ c.2.2.2, p s)
theorem mk_eol {n : Nat} (h : n < 4) : Eol (mk n) := by
  match n, h with
  | 0, _ => exact ⟨mw0, rfl, by decide⟩
  | 1, _ => exact ⟨mw1, rfl, by decide⟩
  | 2, _ => exact ⟨mw2, rfl, by decide⟩
  | 3, _ => exact ⟨mw3, rfl, by decide⟩
theorem side_all2 {p : List UInt8 → Prop} {c : Cn} (h : AllC p c) : ∀ s ∈ sideC c, p s := by
  unfold sideC
  split
  · exact h.1
  · split
    · exact h.2.1
    · exact h.2.2
theorem lines_eol {c : Cn} (h : AllC Eol c) : ∀ s ∈ linesC c, Eol s := by
  unfold linesC
  split
  · intro s hs
    simp only [List.mem_append, List.mem_cons, List.mem_singleton, List.cons_append, List.not_mem_nil, or_false] at hs
    rcases hs with rfl | (((hs | rfl | hs) | rfl | hs) | rfl)
    · exact mk_eol (by decide)
    · exact h.2.1 s hs
    · exact mk_eol (by decide)
    · exact h.1 s hs
    · exact mk_eol (by decide)
    · exact h.2.2 s hs
    · exact mk_eol (by decide)
  · exact side_all2 h
theorem rend_lines {c : Cn} (h : AllC Eol c) (hk : 0 ≤ c.1 ∧ c.1 ≤ 4) : rend1 c = (linesC c).flatten := by
  unfold linesC sideC
  by_cases h4 : c.1 = 4
  · rw [if_pos h4, r1_4 h4, endL_eol _ h.1, endL_eol _ h.2.1, endL_eol _ h.2.2]; simp
  · rw [if_neg h4]
    by_cases h0 : c.1 = 0
    · rw [if_pos h0, r1_0 h0]
    · rw [if_neg h0]
      by_cases h1 : c.1 = 1 ∨ c.1 = 3
      · rw [if_pos h1, r1_1 h1]
      · rw [if_neg h1, r1_2 (by omega)]
theorem rendL_lines {cs : List Cn} (h : ∀ c ∈ cs, AllC Eol c ∧ 0 ≤ c.1 ∧ c.1 ≤ 4) : rendL cs = ((cs.map linesC).flatten).flatten := by
  unfold rendL
  rw [List.flatten_flatten, List.map_map]
  congr 1
  exact List.map_congr_left (fun c hc => rend_lines (h c hc).1 (h c hc).2)
theorem split_rend {cs : List Cn} (h : ∀ c ∈ cs, AllC Eol c ∧ 0 ≤ c.1 ∧ c.1 ≤ 4) : splitL [] (rendL cs) = (cs.map linesC).flatten := by
  rw [rendL_lines h, split_eol]
  intro s hs
  obtain ⟨l, hl, hs⟩ := List.mem_flatten.1 hs
  obtain ⟨c, hc, rfl⟩ := List.mem_map.1 hl
  exact lines_eol (h c hc).1 s hs
/-! read again -/
abbrev stp : Option PS → List UInt8 → Option PS := fun o s => o.bind (fun x => pstp x s)
theorem run_plain (L : LL) (h : ∀ s ∈ L, markL s < 0) : ∀ (o : List Cn) (a b c d : LL), L.foldl stp (some (o, a, b, c, d, 3)) = some (o, a, b, c, d ++ L, 3) ∧ L.foldl stp (some (o, a, b, c, d, 0)) = some (o, a ++ L, b, c, d, 0) ∧ L.foldl stp (some (o, a, b, c, d, 1)) = some (o, a, b ++ L, c, d, 1) ∧ L.foldl stp (some (o, a, b, c, d, 2)) = some (o, a, b, c ++ L, d, 2) := by
  induction L with
  | nil => intro o a b c d; simp
  | cons s L ih =>
    intro o a b c d
    have hs := h s (List.mem_cons_self)
    have ih2 := ih (fun x hx => h x (List.mem_cons_of_mem _ hx))
    simp only [List.foldl_cons, stp, Option.bind_some, pstp_no hs, psN]
    refine ⟨?_, ?_, ?_, ?_⟩
    · have := (ih2 o a b c (d ++ [s])).1; simpa using this
    · have := (ih2 o (a ++ [s]) b c d).2.1; simpa using this
    · have := (ih2 o a (b ++ [s]) c d).2.2.1; simpa using this
    · have := (ih2 o a b (c ++ [s]) d).2.2.2; simpa using this
theorem mark_mk {n : Nat} (h : n < 4) : markL (mk n) = n ∧ sfx (mk n) [10] = true := by
  obtain ⟨e1, _, _, e4, _⟩ := mk_mw h
  exact ⟨mark_n h (trim_eq.2 (.inl e1)), e4⟩
theorem stp_mk {x : PS} {n : Nat} (h : n < 4) (h2 : n = (x.2.2.2.2.2 + 1) % 4) : stp (some x) (mk n) = some (psM x n) := by
  obtain ⟨e1, e2⟩ := mark_mk h
  exact pstp_go e1 h2 e2
theorem run_clash {b o t : LL} (hb : ∀ s ∈ b, markL s < 0) (ho : ∀ s ∈ o, markL s < 0) (ht : ∀ s ∈ t, markL s < 0) (out : List Cn) (d : LL) :
    (mk 0 :: o ++ mk 1 :: b ++ mk 2 :: t ++ [mk 3]).foldl stp (some (out, [], [], [], d, 3)) = some (out ++ plainC d ++ [(4, b, o, t)], [], [], [], [], 3) := by
  have e1 : stp (some (out, [], [], [], d, 3)) (mk 0) = some (out ++ plainC d, [], [], [], [], 0) := stp_mk (by decide) (by show 0 = (3 + 1) % 4; rfl)
  have e2 := (run_plain o ho (out ++ plainC d) [] [] [] []).2.1
  have e3 : stp (some (out ++ plainC d, o, [], [], [], 0)) (mk 1) = some (out ++ plainC d, o, [], [], [], 1) := stp_mk (by decide) rfl
  have e4 := (run_plain b hb (out ++ plainC d) o [] [] []).2.2.1
  have e5 : stp (some (out ++ plainC d, o, b, [], [], 1)) (mk 2) = some (out ++ plainC d, o, b, [], [], 2) := stp_mk (by decide) rfl
  have e6 := (run_plain t ht (out ++ plainC d) o b [] []).2.2.2
  have e7 : stp (some (out ++ plainC d, o, b, t, [], 2)) (mk 3) = some (out ++ plainC d ++ [(4, b, o, t)], [], [], [], [], 3) := stp_mk (by decide) rfl
  simp only [List.nil_append] at e2 e4 e6
  rw [List.cons_append, List.cons_append, List.cons_append, List.foldl_cons, e1, List.foldl_append, List.foldl_append, List.foldl_append, e2]
  rw [List.foldl_cons (l := b), e3, e4, List.foldl_cons (l := t), e5, e6, List.foldl_cons (l := []), e7]
  rfl
/-- what is read again of chunks, with lines ahead -/
def pcs : List Cn → LL → List Cn
  | [], acc => plainC acc
  | c :: cs, acc => if c.1 = 4 then plainC acc ++ c :: pcs cs [] else pcs cs (acc ++ sideC c)
theorem run_pcs : ∀ (cs : List Cn) (out : List Cn) (acc : LL), (∀ c ∈ cs, AllC (fun s => markL s < 0) c) → pend (((cs.map linesC).flatten).foldl stp (some (out, [], [], [], acc, 3))) = (out ++ pcs cs acc, 0)
  | [], out, acc, _ => rfl
  | c :: cs, out, acc, h => by
    have hc := h c (List.mem_cons_self)
    have ih := fun o a => run_pcs cs o a (fun x hx => h x (List.mem_cons_of_mem _ hx))
    rw [List.map_cons, List.flatten_cons, List.foldl_append, pcs]
    by_cases h4 : c.1 = 4
    · rw [if_pos h4, linesC, if_pos h4, run_clash hc.1 hc.2.1 hc.2.2, ih]
      have e : ((4, c.2.1, c.2.2.1, c.2.2.2) : Cn) = c := by rw [← h4]
      rw [e]; simp
    · rw [if_neg h4, linesC, if_neg h4, (run_plain (sideC c) (side_all2 hc) out [] [] [] acc).1, ih]
theorem parse_rend {cs : List Cn} (h : ∀ c ∈ cs, AllC Eol c ∧ 0 ≤ c.1 ∧ c.1 ≤ 4) (hm : ∀ c ∈ cs, AllC (fun s => markL s < 0) c) : parseL (rendL cs) = (pcs cs [], 0) := by
  rw [parseL, split_rend h]
  exact run_pcs cs [] [] hm
theorem rend_plain (l : LL) : rendL (plainC l) = l.flatten := by
  unfold plainC
  split
  · rename_i h; rw [List.eq_nil_of_length_eq_zero h]; rfl
  · simp [rendL, rend1]
theorem rendL_app (a b : List Cn) : rendL (a ++ b) = rendL a ++ rendL b := by simp [rendL]
theorem rend_pcs : ∀ (cs : List Cn) (acc : LL), (∀ c ∈ cs, AllC Eol c ∧ 0 ≤ c.1 ∧ c.1 ≤ 4) → rendL (pcs cs acc) = acc.flatten ++ rendL cs
  | [], acc, _ => by rw [pcs, rend_plain]; simp [rendL]
  | c :: cs, acc, h => by
    have hc := h c (List.mem_cons_self)
    have ih := fun a => rend_pcs cs a (fun x hx => h x (List.mem_cons_of_mem _ hx))
    have e : ∀ y, rendL (c :: y) = rend1 c ++ rendL y := fun y => by simp [rendL]
    rw [pcs, e]
    by_cases h4 : c.1 = 4
    · rw [if_pos h4, rendL_app, rend_plain, e, ih]; simp
    · rw [if_neg h4, ih, rend_lines hc.1 hc.2, linesC, if_neg h4]; simp
theorem filt_plain (l : LL) : (plainC l).filter (fun c => decide (c.1 = 4)) = [] := by unfold plainC; split <;> simp
theorem filt_pcs : ∀ (cs : List Cn) (acc : LL), (pcs cs acc).filter (fun c => decide (c.1 = 4)) = cs.filter (fun c => decide (c.1 = 4))
  | [], acc => filt_plain acc
  | c :: cs, acc => by
    rw [pcs]
    by_cases h4 : c.1 = 4
    · rw [if_pos h4, List.filter_append, filt_plain, List.nil_append, List.filter_cons_of_pos (by simpa using h4), List.filter_cons_of_pos (by simpa using h4), filt_pcs cs []]
    · rw [if_neg h4, List.filter_cons_of_neg (by simpa using h4), filt_pcs cs _]
theorem marks_rend {cs : List Cn} (h : ∀ c ∈ cs, AllC Eol c ∧ 0 ≤ c.1 ∧ c.1 ≤ 4) (hm : ∀ c ∈ cs, AllC (fun s => markL s < 0) c) : marksL (rendL cs) = !cleanL cs := by
  rw [marksL, split_rend h, cleanL]
  cases hc : cs.all (fun c => decide (c.1 ≠ 4)) with
  | true =>
    rw [Bool.not_true, List.any_eq_false]
    intro s hs
    obtain ⟨l, hl, hs⟩ := List.mem_flatten.1 hs
    obtain ⟨c, hcm, rfl⟩ := List.mem_map.1 hl
    have h4 : c.1 ≠ 4 := by simpa using List.all_eq_true.1 hc c hcm
    rw [linesC, if_neg h4] at hs
    have := side_all2 (hm c hcm) s hs
    simp; omega
  | false =>
    obtain ⟨c, hcm, hk⟩ := List.all_eq_false.1 hc
    have h4 : c.1 = 4 := by simpa using hk
    rw [Bool.not_false, List.any_eq_true]
    refine ⟨mk 0, List.mem_flatten.2 ⟨linesC c, List.mem_map.2 ⟨c, hcm, rfl⟩, ?_⟩, ?_⟩
    · rw [linesC, if_pos h4]; simp
    · rw [(mark_mk (n := 0) (by decide)).1]; decide
/-! of three texts -/
theorem part_mem {g : Cn → LL} {cs : List Cn} {l : LL} (h : (cs.map g).flatten = l) {c : Cn} (hc : c ∈ cs) {s : List UInt8} (hs : s ∈ g c) : s ∈ l := by
  rw [← h]; exact List.mem_flatten.2 ⟨g c, List.mem_map.2 ⟨c, hc, rfl⟩, hs⟩
theorem chunks_allc {p : List UInt8 → Prop} {a o t : LL} (ha : ∀ s ∈ a, p s) (ho : ∀ s ∈ o, p s) (ht : ∀ s ∈ t, p s) : ∀ c ∈ chunksL a o t, AllC p c := by
  obtain ⟨c1, c2, c3⟩ := chunks_cat a o t
  exact fun c hc => ⟨fun s hs => ha s (part_mem (g := fun c => c.2.1) c1 hc hs), fun s hs => ho s (part_mem (g := fun c => c.2.2.1) c2 hc hs), fun s hs => ht s (part_mem (g := fun c => c.2.2.2) c3 hc hs)⟩
theorem kind_bd (b o t : LL) : 0 ≤ kindL b o t ∧ kindL b o t ≤ 4 := by unfold kindL kB; split <;> (try split) <;> (try split) <;> (try split) <;> decide
theorem chunks_ok4 {a o t : LL} (ha : ∀ s ∈ a, Eol s) (ho : ∀ s ∈ o, Eol s) (ht : ∀ s ∈ t, Eol s) : ∀ c ∈ chunksL a o t, AllC Eol c ∧ 0 ≤ c.1 ∧ c.1 ≤ 4 := fun c hc => by
  obtain ⟨g1, _⟩ := chunks_good a o t c hc
  exact ⟨chunks_allc ha ho ht c hc, by rw [g1]; exact kind_bd _ _ _⟩
theorem mch_eol {a o t : LL} (ha : ∀ s ∈ a, Eol s) (ho : ∀ s ∈ o, Eol s) (ht : ∀ s ∈ t, Eol s) : mchL a.flatten o.flatten t.flatten = chunksL a o t := by rw [mchL, split_eol a ha, split_eol o ho, split_eol t ht]
theorem nomark {l : LL} (he : ∀ s ∈ l, Eol s) (h : marksL l.flatten = false) : ∀ s ∈ l, markL s < 0 := by
  rw [marksL, split_eol l he, List.any_eq_false] at h
  intro s hs
  have := h s hs
  simpa using this
theorem rendL_le2 : ∀ (cs : List Cn), (rendL cs).length ≤ ((cs.map (fun c => c.2.1)).flatten).flatten.length + ((cs.map (fun c => c.2.2.1)).flatten).flatten.length + ((cs.map (fun c => c.2.2.2)).flatten).flatten.length + 35 * cs.length
  | [] => by simp [rendL]
  | c :: cs => by
    have ih := rendL_le2 cs
    have h : (rend1 c).length ≤ c.2.1.flatten.length + c.2.2.1.flatten.length + c.2.2.2.flatten.length + 35 := by
      have e1 := endL_le c.2.1.flatten
      have e2 := endL_le c.2.2.1.flatten
      have e3 := endL_le c.2.2.2.flatten
      unfold rend1
      split
      · omega
      · split
        · omega
        · split
          · omega
          · split
            · simp only [List.length_append, mk, mkL, List.getD, List.getElem?_cons_zero, List.getElem?_cons_succ, Option.getD_some, List.length_cons, List.length_nil]; omega
            · simp
    have e : rendL (c :: cs) = rend1 c ++ rendL cs := by simp [rendL]
    rw [e]
    simp only [List.map_cons, List.flatten_cons, List.flatten_append, List.length_append, List.length_cons]
    omega
theorem rend_le3 (a o t : LL) : (rendL (chunksL a o t)).length ≤ a.flatten.length + o.flatten.length + t.flatten.length + 70 * a.length + 35 := by
  have h := rendL_le2 (chunksL a o t)
  obtain ⟨c1, c2, c3⟩ := chunks_cat a o t
  rw [c1, c2, c3] at h
  have := chunks_len a o t
  omega
/-- each chunk is plain, or a clash -/
def PC (c : Cn) : Prop := (c.1 = 0 ∧ c.2.2.1 = c.2.1 ∧ c.2.2.2 = c.2.1) ∨ c.1 = 4
theorem plain_pc (l : LL) : ∀ c ∈ plainC l, PC c := by
  unfold plainC
  split
  · intro c hc; cases hc
  · intro c hc; rw [List.mem_singleton] at hc; subst hc; exact .inl ⟨rfl, rfl, rfl⟩
theorem pcs_pc : ∀ (cs : List Cn) (acc : LL), ∀ c ∈ pcs cs acc, PC c
  | [], acc => plain_pc acc
  | c :: cs, acc => by
    rw [pcs]
    split
    · rename_i h4
      intro y hy
      rcases List.mem_append.1 hy with hy | hy
      · exact plain_pc _ y hy
      · rcases List.mem_cons.1 hy with rfl | hy
        · exact .inr h4
        · exact pcs_pc cs [] y hy
    · exact pcs_pc cs _
theorem pcs_len : ∀ (cs : List Cn) (acc : LL), (pcs cs acc).length ≤ 2 * cs.length + 1
  | [], acc => plain_len acc
  | c :: cs, acc => by
    rw [pcs]
    split
    · have h1 := plain_len acc
      have h2 := pcs_len cs []
      simp only [List.length_append, List.length_cons]; omega
    · have := pcs_len cs (acc ++ sideC c); simp only [List.length_cons]; omega
theorem rend_mem {cs : List Cn} {c : Cn} (h : c ∈ cs) : (rend1 c).length ≤ (rendL cs).length := by
  unfold rendL
  exact (List.sublist_flatten_of_mem (List.mem_map.2 ⟨c, h, rfl⟩)).length_le
theorem pc_bd {cs : List Cn} {n : Nat} (h : ∀ c ∈ cs, PC c) (hn : (rendL cs).length ≤ n) (h2 : n ≤ 1048576) : ∀ c ∈ cs, BdC c := by
  intro c hc
  have h3 := rend_mem hc
  have hge : ∀ f : List UInt8, f.length ≤ (endL f).length := by intro f; unfold endL; split <;> simp
  rcases h c hc with ⟨e1, e2, e3⟩ | e1
  · rw [r1_0 e1] at h3
    refine ⟨by omega, ?_, ?_⟩
    · rw [e2]; omega
    · rw [e3]; omega
  · rw [r1_4 e1] at h3
    have q1 := hge c.2.1.flatten
    have q2 := hge c.2.2.1.flatten
    have q3 := hge c.2.2.2.flatten
    simp only [List.length_append] at h3
    exact ⟨by omega, by omega, by omega⟩

end Go.Proofs.Ytegfnfhdgbcjbaa.MerP
