/-
  Keys of merges: the laws.
-/
import Derived.Test.YtegfnfhdgbcjbaaRerB
import Derived.Test.YtegfnfhdgbcjbaaMerP
namespace Go.Proofs.Ytegfnfhdgbcjbaa.RerC
open Go.Proofs.Ytegfnfhdgbcjbaa.E Go.RowKit Go.Proofs.Ytegfnfhdgbcjbaa.LinM Go.Proofs.Ytegfnfhdgbcjbaa.LinA Go.Proofs.Ytegfnfhdgbcjbaa.LinC Go.Proofs.Ytegfnfhdgbcjbaa.LinF Go.Proofs.Ytegfnfhdgbcjbaa.LinL Go.Proofs.Ytegfnfhdgbcjbaa.LinN Go.Proofs.Ytegfnfhdgbcjbaa.MerA Go.Proofs.Ytegfnfhdgbcjbaa.MerB Go.Proofs.Ytegfnfhdgbcjbaa.MerC Go.Proofs.Ytegfnfhdgbcjbaa.MerD Go.Proofs.Ytegfnfhdgbcjbaa.MerE Go.Proofs.Ytegfnfhdgbcjbaa.MerF Go.Proofs.Ytegfnfhdgbcjbaa.MerG Go.Proofs.Ytegfnfhdgbcjbaa.MerH Go.Proofs.Ytegfnfhdgbcjbaa.MerI Go.Proofs.Ytegfnfhdgbcjbaa.MerL Go.Proofs.Ytegfnfhdgbcjbaa.MerM Go.Proofs.Ytegfnfhdgbcjbaa.MerP Go.Proofs.Ytegfnfhdgbcjbaa.SumA Go.Proofs.Ytegfnfhdgbcjbaa.SumB Go.Proofs.Ytegfnfhdgbcjbaa.SumC Go.Proofs.Ytegfnfhdgbcjbaa.SumD Go.Proofs.Ytegfnfhdgbcjbaa.SumE Go.Proofs.Ytegfnfhdgbcjbaa.SumF Go.Proofs.Ytegfnfhdgbcjbaa.SumG Go.Proofs.Ytegfnfhdgbcjbaa.SumK Go.Proofs.Ytegfnfhdgbcjbaa.SumL Go.Proofs.Ytegfnfhdgbcjbaa.DelA Go.Proofs.Ytegfnfhdgbcjbaa.RerA Go.Proofs.Ytegfnfhdgbcjbaa.RerB
set_option maxRecDepth 20000
set_option linter.unusedVariables false
set_option linter.unusedSimpArgs false
set_option linter.unusedSectionVars false

/-- bytes that end with a line feed, or none -/
def Cl (f : List UInt8) : Prop := f.getLastD 10 = 10
theorem split_cat : ∀ (f cur g : List UInt8), (f = [] → cur = []) → Cl f → splitL cur (f ++ g) = splitL cur f ++ splitL [] g
  | [], cur, g, h, _ => by rw [h rfl]; simp [splitL]
  | x :: f, cur, g, _, hc => by
    have hcf : f ≠ [] → Cl f := fun hf => by
      unfold Cl at *
      rcases List.eq_nil_or_concat f with rfl | ⟨l0, y, rfl⟩
      · exact absurd rfl hf
      · rw [List.concat_eq_append] at *
        have h9 : ((x :: l0) ++ [y]).getLastD 10 = 10 := hc
        rw [List.getLastD_concat] at h9 ⊢
        exact h9
    by_cases hx : x = 10
    · subst hx
      rw [List.cons_append, splitL, if_pos (by simp), splitL, if_pos (by simp), List.cons_append]
      by_cases hf : f = []
      · subst hf; simp [splitL]
      · rw [split_cat f [] g (fun e => rfl) (hcf hf)]
    · rw [List.cons_append, splitL, if_neg (by simpa using hx), splitL, if_neg (by simpa using hx)]
      by_cases hf : f = []
      · subst hf; unfold Cl at hc; simp at hc; exact absurd hc hx
      · exact split_cat f _ g (fun e => absurd e hf) (hcf hf)
/-- a line: its only line feed, if it has one, at its end -/
def NE (s : List UInt8) : Prop := s ≠ [] ∧ (Eol s ∨ (10 : UInt8) ∉ s)
/-- lines, of which the last one alone may lack its line feed -/
structure Tl (l : LL) : Prop where
  ne : ∀ s ∈ l, NE s
  eol : ∀ (p q : LL) (s : List UInt8), l = p ++ s :: q → q ≠ [] → Eol s
theorem Tl.tail {x : List UInt8} {l : LL} (h : Tl (x :: l)) : Tl l := ⟨fun s hs => h.ne s (List.mem_cons_of_mem _ hs), fun p q s e hq => h.eol (x :: p) q s (by rw [e]; rfl) hq⟩
theorem splitL_tl : ∀ (b cur : List UInt8), (10 : UInt8) ∉ cur → Tl (splitL cur b)
  | [], cur, hc => by
    rw [splitL]
    split
    · exact ⟨fun s hs => by simp at hs, fun p q s e => by simp at e⟩
    · rename_i hne
      exact ⟨fun s hs => by rw [List.mem_singleton] at hs; subst hs; exact ⟨hne, .inr hc⟩, fun p q s e hq => by
        have := congrArg List.length e
        simp at this
        exact absurd (List.eq_nil_of_length_eq_zero (by omega)) hq⟩
  | x :: b, cur, hc => by
    rw [splitL]
    by_cases hx : x = 10
    · rw [if_pos (by simpa using hx)]
      have ih := splitL_tl b [] (by simp)
      subst hx
      have he : Eol (cur ++ [10]) := ⟨cur, rfl, hc⟩
      refine ⟨fun s hs => ?_, fun p q s e hq => ?_⟩
      · rcases List.mem_cons.1 hs with rfl | hs
        · exact ⟨by simp, .inl he⟩
        · exact ih.ne s hs
      · cases p with
        | nil => rw [List.nil_append, List.cons.injEq] at e; rw [← e.1]; exact he
        | cons y p => rw [List.cons_append, List.cons.injEq] at e; exact ih.eol p q s e.2 hq
    · rw [if_neg (by simpa using hx)]
      exact splitL_tl b (cur ++ [x]) (fun h => by
        rcases List.mem_append.1 h with h | h
        · exact hc h
        · rw [List.mem_singleton] at h; exact hx h.symm)
theorem split_un {s : List UInt8} (h : (10 : UInt8) ∉ s) : ∀ cur, splitL cur s = if cur ++ s = [] then [] else [cur ++ s] := by
  induction s with
  | nil => intro cur; rw [splitL]; simp
  | cons x s ih =>
    intro cur
    rw [splitL, if_neg (by simpa using (fun e : x = 10 => h (by rw [e]; simp))), ih (fun e => h (List.mem_cons_of_mem _ e))]
    simp
theorem split_tl : ∀ (l : LL), Tl l → splitL [] l.flatten = l
  | [], _ => by simp [splitL]
  | s :: l, h => by
    obtain ⟨hne, he⟩ := h.ne s (List.mem_cons_self)
    by_cases hl : l = []
    · subst hl
      rcases he with he | he
      · exact split_eol [s] (fun x hx => by rw [List.mem_singleton] at hx; rw [hx]; exact he)
      · rw [List.flatten_cons, List.flatten_nil, List.append_nil, split_un he, List.nil_append, if_neg hne]
    · have he2 := h.eol [] l s rfl hl
      obtain ⟨p, rfl, hp⟩ := he2
      rw [List.flatten_cons, List.append_assoc, List.singleton_append, splitL_line p [] _ hp, split_tl l h.tail]; simp
theorem Tl.mid {a p m q : LL} (h : Tl a) (e : a = p ++ m ++ q) : Tl m := by
  subst e
  exact ⟨fun s hs => h.ne s (by simp [hs]), fun p2 q2 s e2 hq => h.eol (p ++ p2) (q2 ++ q) s (by rw [e2]; simp) (by simp [hq])⟩
theorem Tl.mid_eol {a p m q : LL} (h : Tl a) (e : a = p ++ m ++ q) (hq : q ≠ []) : ∀ s ∈ m, Eol s := by
  subst e
  intro s hs
  obtain ⟨m1, m2, rfl⟩ := List.append_of_mem hs
  exact h.eol (p ++ m1) (m2 ++ q) s (by simp) (by simp [hq])
/-- no line is a mark, not with its line feed either -/
def NM (s : List UInt8) : Prop := markL s < 0
theorem nm_end {s : List UInt8} (h : markL s < 0) (hn : (10 : UInt8) ∉ s) : markL (s ++ [10]) < 0 := by
  have e1 : trimS (s ++ [10]) [10] = s := trim_eq.2 (.inl rfl)
  have hs : sfx s [10] = false := by
    cases hh : sfx s [10] with
    | false => rfl
    | true => obtain ⟨p, rfl⟩ := sfx_iff.1 hh; exact absurd (by simp) hn
  have e2 : trimS s [10] = s := trim_eq.2 (.inr ⟨rfl, hs⟩)
  unfold markL at h ⊢
  rw [e2] at h
  rwa [e1]
theorem endL_cl (f : List UInt8) : Cl (endL f) := by
  unfold endL Cl
  split
  · assumption
  · simp
/-- the lines of a side, ended -/
theorem end_nm {l : LL} (ht : Tl l) (hm : ∀ s ∈ l, markL s < 0) : ∀ s ∈ splitL [] (endL l.flatten), markL s < 0 := by
  unfold endL
  split
  · rw [split_tl l ht]; exact hm
  · rename_i hl
    rcases List.eq_nil_or_concat l with rfl | ⟨l0, y, rfl⟩
    · simp at hl
    · rw [List.concat_eq_append] at *
      have hy : (10 : UInt8) ∉ y := by
        obtain ⟨hne, he | he⟩ := ht.ne y (by simp)
        · obtain ⟨p, rfl, _⟩ := he
          simp at hl
        · exact he
      have h0 : ∀ s ∈ l0, Eol s := ht.mid_eol (p := []) (m := l0) (q := [y]) (by simp) (by simp)
      have e : splitL [] ((l0 ++ [y]).flatten ++ [10]) = l0 ++ [y ++ [10]] := by
        have := split_eol (l0 ++ [y ++ [10]]) (fun s hs => by
          rcases List.mem_append.1 hs with hs | hs
          · exact h0 s hs
          · rw [List.mem_singleton] at hs; subst hs; exact ⟨y, rfl, hy⟩)
        rw [← this]; simp
      rw [e]
      intro s hs
      rcases List.mem_append.1 hs with hs | hs
      · exact hm s (by simp [hs])
      · rw [List.mem_singleton] at hs; subst hs; exact nm_end (hm y (by simp)) hy
/-- a chunk whose lines are such -/
structure CT (c : Cn) : Prop where
  b : Tl c.2.1
  o : Tl c.2.2.1
  t : Tl c.2.2.2
  m : AllC (fun s => markL s < 0) c
  k : 0 ≤ c.1 ∧ c.1 ≤ 4
def linesD (c : Cn) : LL := if c.1 = 4 then mk 0 :: splitL [] (endL c.2.2.1.flatten) ++ mk 1 :: splitL [] (endL c.2.1.flatten) ++ mk 2 :: splitL [] (endL c.2.2.2.flatten) ++ [mk 3] else sideC c
theorem split_mk {n : Nat} (h : n < 4) (g : List UInt8) : splitL [] (mk n ++ g) = mk n :: splitL [] g := by
  obtain ⟨p, e, hp⟩ := mk_eol h
  rw [e, List.append_assoc, List.singleton_append, splitL_line p [] g hp]; simp
theorem side_tl {c : Cn} (h : CT c) : Tl (sideC c) := by
  unfold sideC
  split
  · exact h.b
  · split
    · exact h.o
    · exact h.t
theorem rend_side {c : Cn} (h : CT c) (h4 : c.1 ≠ 4) : rend1 c = (sideC c).flatten := by
  unfold sideC
  by_cases h0 : c.1 = 0
  · rw [if_pos h0, r1_0 h0]
  · rw [if_neg h0]
    by_cases h1 : c.1 = 1 ∨ c.1 = 3
    · rw [if_pos h1, r1_1 h1]
    · rw [if_neg h1, r1_2 (by have := h.k; omega)]
theorem split_one {c : Cn} (h : CT c) : splitL [] (rend1 c) = linesD c := by
  unfold linesD
  by_cases h4 : c.1 = 4
  · rw [if_pos h4, r1_4 h4]
    simp only [List.append_assoc]
    rw [split_mk (by decide), split_cat _ [] _ (fun _ => rfl) (endL_cl _), split_mk (by decide), split_cat _ [] _ (fun _ => rfl) (endL_cl _), split_mk (by decide), split_cat _ [] _ (fun _ => rfl) (endL_cl _)]
    have e := split_mk (n := 3) (by decide) []
    rw [List.append_nil] at e
    rw [e]
    simp [splitL]
  · rw [if_neg h4, rend_side h h4, split_tl _ (side_tl h)]
/-- all but the last chunk end with a line feed -/
def ClAll : List Cn → Prop
  | [] => True
  | [_] => True
  | c :: d :: cs => Cl (rend1 c) ∧ ClAll (d :: cs)
theorem split_all : ∀ (cs : List Cn), (∀ c ∈ cs, CT c) → ClAll cs → splitL [] (rendL cs) = (cs.map linesD).flatten
  | [], _, _ => by simp [rendL, splitL]
  | [c], h, _ => by
    have := split_one (h c (List.mem_cons_self))
    simpa [rendL] using this
  | c :: d :: cs, h, hc => by
    have ih := split_all (d :: cs) (fun x hx => h x (List.mem_cons_of_mem _ hx)) hc.2
    have e : rendL (c :: d :: cs) = rend1 c ++ rendL (d :: cs) := by simp [rendL]
    rw [e, split_cat _ [] _ (fun _ => rfl) hc.1, ih, split_one (h c (List.mem_cons_self))]
    simp
/-- what is read again -/
def pcd : List Cn → LL → List Cn
  | [], acc => plainC acc
  | c :: cs, acc => if c.1 = 4 then plainC acc ++ (4, splitL [] (endL c.2.1.flatten), splitL [] (endL c.2.2.1.flatten), splitL [] (endL c.2.2.2.flatten)) :: pcd cs [] else pcd cs (acc ++ sideC c)
theorem run_pcd : ∀ (cs : List Cn) (out : List Cn) (acc : LL), (∀ c ∈ cs, CT c) → pend (((cs.map linesD).flatten).foldl stp (some (out, [], [], [], acc, 3))) = (out ++ pcd cs acc, 0)
  | [], out, acc, _ => rfl
  | c :: cs, out, acc, h => by
    have hc := h c (List.mem_cons_self)
    have ih := fun o a => run_pcd cs o a (fun x hx => h x (List.mem_cons_of_mem _ hx))
    rw [List.map_cons, List.flatten_cons, List.foldl_append, pcd]
    by_cases h4 : c.1 = 4
    · rw [if_pos h4, linesD, if_pos h4, run_clash (end_nm hc.b hc.m.1) (end_nm hc.o hc.m.2.1) (end_nm hc.t hc.m.2.2), ih]
      simp
    · rw [if_neg h4, linesD, if_neg h4, (run_plain (sideC c) (side_all2 hc.m) out [] [] [] acc).1, ih]
theorem parse_pcd {cs : List Cn} (h : ∀ c ∈ cs, CT c) (hc : ClAll cs) : parseL (rendL cs) = (pcd cs [], 0) := by
  rw [parseL, split_all cs h hc]
  exact run_pcd cs [] [] h
theorem some_plain (l : LL) : someC (plainC l) = false := by unfold plainC; split <;> simp [someC]
theorem someC_app (a b : List Cn) : someC (a ++ b) = (someC a || someC b) := by simp [someC]
theorem some_pcd : ∀ (cs : List Cn) (acc : LL), someC (pcd cs acc) = !cleanL cs
  | [], acc => some_plain acc
  | c :: cs, acc => by
    rw [pcd]
    by_cases h4 : c.1 = 4
    · rw [if_pos h4, someC_app, some_plain]
      simp [someC, cleanL, h4]
    · rw [if_neg h4, some_pcd cs _]
      simp [cleanL, h4]
theorem keyB_app (a b : List Cn) : keyB (a ++ b) = keyB a ++ keyB b := by simp [keyB]
theorem bl_asymm : ∀ a b : List UInt8, Op.bytesLess a b = true → Op.bytesLess b a = false := by
  intro a b h
  cases hh : Op.bytesLess b a with
  | false => rfl
  | true =>
    have h1 := (cmp_pos b a).2 h
    have h2 := (cmp_less b a).2 hh
    omega
theorem bl_total : ∀ a b : List UInt8, Op.bytesLess a b = false → Op.bytesLess b a = false → a = b
  | [], [], _, _ => rfl
  | [], _ :: _, h, _ => by simp [Op.bytesLess] at h
  | _ :: _, [], _, h => by simp [Op.bytesLess] at h
  | x :: a, y :: b, h1, h2 => by
    simp only [Op.bytesLess] at h1 h2
    by_cases e1 : x < y
    · simp [e1] at h1
    · by_cases e2 : y < x
      · simp [e2] at h2
      · have : x = y := by apply UInt8.toNat.inj; rw [UInt8.lt_iff_toNat_lt] at e1 e2; omega
        subst this
        rw [bl_total a b (by simpa using h1) (by simpa using h2)]
theorem rowL_congr {a b : LL} (h : a.flatten = b.flatten) : rowL a = rowL b := by rw [rowL, rowL, h]
/-- a clash's sides changed about give the same -/
theorem key1_sw (b o t : LL) : key1 (4, b, t, o) = key1 (4, b, o, t) := by
  have n4 : (4 : Int) ≠ 0 := by decide
  by_cases h1 : swapB t o = true
  · have h2 : ¬ swapB o t = true := by
      have := bl_asymm _ _ (show Op.bytesLess o.flatten t.flatten = true from h1)
      unfold swapB; rw [this]; simp
    rw [key1_T (c := (4, b, t, o)) n4 h1, key1_F (c := (4, b, o, t)) n4 h2]
  · by_cases h2 : swapB o t = true
    · rw [key1_F (c := (4, b, t, o)) n4 h1, key1_T (c := (4, b, o, t)) n4 h2]
    · have e := bl_total o.flatten t.flatten (by unfold swapB at h1; simpa using h1) (by unfold swapB at h2; simpa using h2)
      rw [key1_F (c := (4, b, t, o)) n4 h1, key1_F (c := (4, b, o, t)) n4 h2]
      simp only
      rw [rowL_congr e]
theorem kc2 {k : Int} {b o t : LL} (h : k = kindL b o t) : (k = 0 → o = b ∧ t = b) ∧ (k = 1 → ¬ o = b ∧ t = b) ∧ (k = 2 → o = b ∧ ¬ t = b) ∧ (k = 3 → o = t ∧ ¬ o = b) ∧ (k = 4 → ¬ o = b ∧ ¬ t = b ∧ ¬ o = t) ∧ 0 ≤ k ∧ k ≤ 4 := by
  subst h
  by_cases h1 : o = b
  · by_cases h2 : t = b
    · rw [kd0 h1 h2]; simp [h1, h2]
    · by_cases h3 : o = t
      · exact absurd (h3.symm.trans h1) h2
      · rw [kd2 h3 h2 h1]; simp [h1, h2]
  · by_cases h3 : o = t
    · rw [kd3 (fun e => h1 e.1) h3]; simp [h1, h3]; exact fun e => h1 (h3.trans e)
    · by_cases h2 : t = b
      · rw [kd1 h3 h2]; simp [h1, h2]
      · rw [kd4 h3 h2 h1]; simp [h1, h2, h3]
theorem side_sw {c : Cn} (hg : GoodC c) (h : c.1 ≠ 4) : sideC (swC c) = sideC c := by
  obtain ⟨k, b, o, t⟩ := c
  obtain ⟨g, _⟩ := hg
  obtain ⟨q0, q1, q2, q3, q4, q5, q6⟩ := kc2 g
  simp only at h g q0 q1 q2 q3 q4 q5 q6
  rcases (show k = 0 ∨ k = 1 ∨ k = 2 ∨ k = 3 by omega) with rfl | rfl | rfl | rfl
  · rfl
  · rfl
  · rfl
  · simp only [sideC, swC, swk]; simp [(q3 rfl).1]
theorem key_pcd_sw : ∀ (cs : List Cn) (acc : LL), (∀ c ∈ cs, GoodC c) → keyB (pcd (cs.map swC) acc) = keyB (pcd cs acc)
  | [], acc, _ => rfl
  | c :: cs, acc, h => by
    have hc := h c (List.mem_cons_self)
    have ih := fun a => key_pcd_sw cs a (fun x hx => h x (List.mem_cons_of_mem _ hx))
    have hz : ∀ k : Int, swk k = 4 ↔ k = 4 := by intro k; unfold swk; split <;> (try split) <;> omega
    have one : ∀ (x : Cn) (y : List Cn), keyB (x :: y) = key1 x ++ keyB y := fun x y => by simp [keyB]
    rw [List.map_cons, pcd, pcd]
    by_cases h4 : c.1 = 4
    · rw [if_pos (by simp only [swC, hz]; exact h4), if_pos h4, keyB_app, keyB_app, one, one, ih]
      simp only [swC]
      rw [key1_sw]
    · rw [if_neg (by simp only [swC, hz]; exact h4), if_neg h4, side_sw hc h4, ih]
/-! kinds that are not 0 do not stand beside one another -/
def NZK (ks : List Int) : Prop := ∀ (i : Nat) (x y : Int), ks[i]? = some x → ks[i + 1]? = some y → x = 0 ∨ y = 0
theorem nz_snoc {ks : List Int} {k : Int} (h : NZK ks) (hk : ks = [] ∨ k = 0 ∨ ks.getLastD 0 = 0) : NZK (ks ++ [k]) := by
  intro i x y h1 h2
  by_cases hi : i + 1 < ks.length
  · rw [List.getElem?_append_left (by omega)] at h1
    rw [List.getElem?_append_left hi] at h2
    exact h i x y h1 h2
  · by_cases hi2 : i + 1 = ks.length
    · rw [List.getElem?_append_left (by omega)] at h1
      rw [List.getElem?_append_right (by omega), hi2] at h2
      simp at h2
      rcases hk with rfl | hk | hk
      · simp at h1
      · right; omega
      · rcases List.eq_nil_or_concat ks with rfl | ⟨l0, z, rfl⟩
        · simp at h1
        · rw [List.concat_eq_append] at h1 hk hi2
          rw [List.getLastD_concat] at hk
          simp at hi2
          subst hi2
          simp at h1
          left; omega
    · rw [List.getElem?_append_right (by omega)] at h2
      have h3 := (List.getElem?_eq_some_iff.1 h2).1
      simp at h3
      omega
theorem kinds_addG {cs : List Cn} {b o t : LL} : (addG cs b o t).map (fun c => c.1) = cs.map (fun c => c.1) ∧ (b.length + o.length + t.length = 0 ∨ (kindL b o t = 0 ∧ (cs.map (fun c => c.1)).getLastD 0 = 0 ∧ cs ≠ [])) ∨ (addG cs b o t).map (fun c => c.1) = cs.map (fun c => c.1) ++ [kindL b o t] ∧ (cs = [] ∨ kindL b o t ≠ 0 ∨ (cs.map (fun c => c.1)).getLastD 0 ≠ 0) := by
  have hlast : (cs.map (fun c => c.1)).getLastD 0 = (lastC cs).1 := by
    rcases List.eq_nil_or_concat cs with rfl | ⟨l0, z, rfl⟩
    · rfl
    · rw [List.concat_eq_append, List.map_append, List.map_cons, List.map_nil, List.getLastD_concat]; simp [lastC]
  rw [hlast]
  unfold addG addC
  split
  · rename_i h0; exact .inl ⟨rfl, .inl h0⟩
  · split
    · rename_i hh
      refine .inr ⟨by simp, ?_⟩
      rcases hh with hh | hh | hh
      · exact .inl (List.eq_nil_of_length_eq_zero hh)
      · exact .inr (.inl hh)
      · exact .inr (.inr hh)
    · rename_i hh
      refine .inl ⟨?_, .inr ⟨by omega, by omega, fun e => hh (.inl (by rw [e]; rfl))⟩⟩
      have e2 := congrArg (List.map (fun c : Cn => c.1)) (snocC (cs := cs) (by omega))
      simp only [List.map_append, List.map_cons, List.map_nil] at e2 ⊢
      exact e2
def NZ0 (cs : List Cn) : Prop := NZK (cs.map (fun c => c.1)) ∧ (cs = [] ∨ (cs.map (fun c => c.1)).getLastD 0 = 0)
theorem nz_gap {cs : List Cn} {b o t : LL} (h : NZ0 cs) : NZK ((addG cs b o t).map (fun c => c.1)) := by
  rcases kinds_addG (cs := cs) (b := b) (o := o) (t := t) with ⟨e, _⟩ | ⟨e, _⟩
  · rw [e]; exact h.1
  · rw [e]
    refine nz_snoc h.1 ?_
    rcases h.2 with h2 | h2
    · left; rw [h2]; rfl
    · exact .inr (.inr h2)
theorem nz_anchor {cs : List Cn} {b : LL} (h : NZK (cs.map (fun c => c.1))) (hb : b.length ≠ 0) : NZ0 (addG cs b b b) := by
  have k0 : kindL b b b = 0 := kind0.2 ⟨rfl, rfl⟩
  rcases kinds_addG (cs := cs) (b := b) (o := b) (t := b) with ⟨e, h0 | ⟨_, h1, _⟩⟩ | ⟨e, _⟩
  · omega
  · exact ⟨by rw [e]; exact h, .inr (by rw [e]; exact h1)⟩
  · rw [k0] at e
    exact ⟨by rw [e]; exact nz_snoc h (.inr (.inl rfl)), .inr (by rw [e, List.getLastD_concat])⟩
theorem chunks_nz (a o t : LL) : NZK ((chunksL a o t).map (fun c => c.1)) := by
  have key : ∀ k, k ≤ a.length → NZ0 (chS a o t (parts a o) (parts a t) k).1 := by
    intro k
    induction k with
    | zero => intro _; exact ⟨fun i x y h => by simp [chS] at h, .inl rfl⟩
    | succ k ih =>
      intro hk
      have ih := ih (by omega)
      by_cases hng : (parts a o).getD k 0 < 0 ∨ (parts a t).getD k 0 < 0
      · rw [chS_skip hng]; exact ih
      · obtain ⟨x, y, hx, hy, hxl, hyl, _, _, _, e1, e2⟩ := chS_at (parts_al a o) (parts_al a t) (by omega) hng
        rw [chS_go hx hy]
        simp only
        rw [sl_one e1 hxl (by omega), sl_one e2 hyl (by omega)]
        exact nz_anchor (nz_gap ih) (by unfold slL; simp; omega)
  rw [chunksL, chF]
  exact nz_gap (key _ (Nat.le_refl _))
theorem cl_eol {l : LL} (h : ∀ s ∈ l, Eol s) : Cl l.flatten := last_eol l h
theorem clAll_of : ∀ (cs : List Cn), (∀ (p q : List Cn) (c d : Cn), cs = p ++ c :: d :: q → Cl (rend1 c)) → ClAll cs
  | [], _ => trivial
  | [_], _ => trivial
  | c :: d :: cs, h => ⟨h [] cs c d rfl, clAll_of (d :: cs) (fun p q x y e => h (c :: p) q x y (by rw [e]; rfl))⟩
theorem cat_mid {g : Cn → LL} {cs p q : List Cn} {c d : Cn} {a : LL} (e : cs = p ++ c :: d :: q) (h : (cs.map g).flatten = a) : a = (p.map g).flatten ++ g c ++ (g d ++ (q.map g).flatten) := by
  rw [← h, e]; simp
theorem cat_mid1 {g : Cn → LL} {cs : List Cn} {c : Cn} {a : LL} (hc : c ∈ cs) (h : (cs.map g).flatten = a) : ∃ p q, a = p ++ g c ++ q := by
  obtain ⟨p, q, rfl⟩ := List.append_of_mem hc
  exact ⟨(p.map g).flatten, (q.map g).flatten, by rw [← h]; simp⟩
theorem chunks_cl {a o t : LL} (ha : Tl a) (ho : Tl o) (ht : Tl t) : ClAll (chunksL a o t) := by
  obtain ⟨c1, c2, c3⟩ := chunks_cat a o t
  refine clAll_of _ (fun p q c d e => ?_)
  have hb := cat_mid (g := fun c => c.2.1) e c1
  have hoo := cat_mid (g := fun c => c.2.2.1) e c2
  have htt := cat_mid (g := fun c => c.2.2.2) e c3
  have eb : d.2.1 ≠ [] → ∀ s ∈ c.2.1, Eol s := fun h => ha.mid_eol hb (by simp [h])
  have eo : d.2.2.1 ≠ [] → ∀ s ∈ c.2.2.1, Eol s := fun h => ho.mid_eol hoo (by simp [h])
  have et : d.2.2.2 ≠ [] → ∀ s ∈ c.2.2.2, Eol s := fun h => ht.mid_eol htt (by simp [h])
  obtain ⟨gc, _⟩ := chunks_good a o t c (by rw [e]; simp)
  obtain ⟨gd, gd2⟩ := chunks_good a o t d (by rw [e]; simp)
  obtain ⟨q0, q1, q2, q3, q4, q5, q6⟩ := kc2 gc
  obtain ⟨r0, _, _, _, _, _, _⟩ := kc2 gd
  have hnz := chunks_nz a o t p.length c.1 d.1 (by rw [e]; simp) (by rw [e]; simp)
  rcases (show c.1 = 0 ∨ c.1 = 1 ∨ c.1 = 2 ∨ c.1 = 3 ∨ c.1 = 4 by omega) with h | h | h | h | h
  · rw [r1_0 h]
    obtain ⟨z1, z2⟩ := q0 h
    refine cl_eol ?_
    by_cases h1 : d.2.1 = []
    · by_cases h2 : d.2.2.1 = []
      · by_cases h3 : d.2.2.2 = []
        · rw [h1, h2, h3] at gd2; exact absurd rfl gd2
        · have := et h3; rwa [z2] at this
      · have := eo h2; rwa [z1] at this
    · exact eb h1
  · rw [r1_1 (.inl h)]
    have hd : d.1 = 0 := by omega
    obtain ⟨z1, z2⟩ := r0 hd
    refine cl_eol (eo (fun h2 => gd2 ?_))
    rw [z2, ← z1, h2]; rfl
  · rw [r1_2 h]
    have hd : d.1 = 0 := by omega
    obtain ⟨z1, z2⟩ := r0 hd
    refine cl_eol (et (fun h2 => gd2 ?_))
    rw [z1, ← z2, h2]; rfl
  · rw [r1_1 (.inr h)]
    have hd : d.1 = 0 := by omega
    obtain ⟨z1, z2⟩ := r0 hd
    refine cl_eol (eo (fun h2 => gd2 ?_))
    rw [z2, ← z1, h2]; rfl
  · rw [r1_4 h]
    unfold Cl
    rw [mk_eq.2.2.2, ← List.append_assoc, List.getLastD_concat]
theorem chunks_ct4 {a o t : LL} (ha : Tl a) (ho : Tl o) (ht : Tl t) (ma : ∀ s ∈ a, markL s < 0) (mo : ∀ s ∈ o, markL s < 0) (mt : ∀ s ∈ t, markL s < 0) : ∀ c ∈ chunksL a o t, CT c := by
  obtain ⟨c1, c2, c3⟩ := chunks_cat a o t
  intro c hc
  obtain ⟨g, _⟩ := chunks_good a o t c hc
  obtain ⟨_, _, _, _, _, q5, q6⟩ := kc2 g
  obtain ⟨p1, q1, e1⟩ := cat_mid1 (g := fun c => c.2.1) hc c1
  obtain ⟨p2, q2, e2⟩ := cat_mid1 (g := fun c => c.2.2.1) hc c2
  obtain ⟨p3, q3, e3⟩ := cat_mid1 (g := fun c => c.2.2.2) hc c3
  exact ⟨ha.mid e1, ho.mid e2, ht.mid e3, chunks_allc ma mo mt c hc, q5, q6⟩
theorem nomark2 {b : List UInt8} (h : marksL b = false) : ∀ s ∈ splitL [] b, markL s < 0 := by
  rw [marksL, List.any_eq_false] at h
  intro s hs
  have := h s hs
  simpa using this
/-- the keys of a merge, from both sides -/
theorem merge_keys {a o t : List UInt8} (ha : marksL a = false) (ho : marksL o = false) (ht : marksL t = false) :
    (cleanL (mchL a o t) = true → keyL (rendL (mchL a o t)) = (Z32, 2)) ∧ (cleanL (mchL a o t) = false → (keyL (rendL (mchL a o t))).2 = 0) ∧ keyL (rendL (mchL a t o)) = keyL (rendL (mchL a o t)) := by
  have hc := chunks_ct4 (splitL_tl a [] (by simp)) (splitL_tl o [] (by simp)) (splitL_tl t [] (by simp)) (nomark2 ha) (nomark2 ho) (nomark2 ht)
  have hc2 := chunks_ct4 (splitL_tl a [] (by simp)) (splitL_tl t [] (by simp)) (splitL_tl o [] (by simp)) (nomark2 ha) (nomark2 ht) (nomark2 ho)
  have hl := chunks_cl (splitL_tl a [] (by simp)) (splitL_tl o [] (by simp)) (splitL_tl t [] (by simp))
  have hl2 := chunks_cl (splitL_tl a [] (by simp)) (splitL_tl t [] (by simp)) (splitL_tl o [] (by simp))
  have e1 : parseL (rendL (mchL a o t)) = (pcd (mchL a o t) [], 0) := parse_pcd hc hl
  have e2 : parseL (rendL (mchL a t o)) = (pcd (mchL a t o) [], 0) := parse_pcd hc2 hl2
  have hsw : mchL a t o = (mchL a o t).map swC := chunks_sw _ _ _
  have hg : ∀ c ∈ mchL a o t, GoodC c := chunks_good _ _ _
  have s1 := some_pcd (mchL a o t) []
  have s2 := some_pcd (mchL a t o) []
  rw [hsw, clean_sw, ← hsw] at s2
  have hkk : keyB (pcd (mchL a t o) []) = keyB (pcd (mchL a o t) []) := by rw [hsw]; exact key_pcd_sw _ [] hg
  unfold keyL
  rw [e1, e2]
  cases hcl : cleanL (mchL a o t) with
  | true =>
    rw [hcl] at s1 s2
    rw [keyC_none s1, keyC_none s2]
    exact ⟨fun _ => rfl, (fun h => by cases h), rfl⟩
  | false =>
    rw [hcl] at s1 s2
    rw [keyC_sum s1, keyC_sum s2, hkk]
    exact ⟨(fun h => by cases h), fun _ => rfl, rfl⟩

end Go.Proofs.Ytegfnfhdgbcjbaa.RerC
