/-
  The disk: the library's functions on texts; what a path is, and its directory.
-/
import Derived.Lib.SplitLaws
import Derived.Test.YtfbfjhppppoilaaDoorShelf
import Derived.Test.YtfbfjhppppoilaaDoorMcl
import Derived.Test.YtfbfjhppppoilaaDoorClo
import Derived.Test.YtfbfjhppppoilaaDoorCmp
import Derived.Test.YtfbfjhppppoilaaDoorExt
import Derived.Test.YtfbfjhppppoilaaDoorDk
import Derived.Test.YtfbfjhppppoilaaDoorRf
import Derived.Test.YtfbfjhppppoilaaDoorKl
namespace Go.Proofs.YtfbfjhppppoilaaDoor.SimA
open Go.Proofs.YtfbfjhppppoilaaDoor.E Go.RowKit
set_option maxRecDepth 20000
set_option linter.unusedVariables false
set_option linter.unusedSimpArgs false
set_option linter.unusedSectionVars false

/-! ### contracts of the library's, as this engine's -/
theorem Ct.still {P : Program} {w0 : World} {f : FuncId} {args : Array Value} {H : Heap} {v : Value} (h : ∀ w, At w0 H w → Calls P f args w fun e w' => e = .returned v ∧ w' = w) : Ct P w0 f args H (fun r H2 => r = v ∧ Nw H H2) :=
  fun w ha => (h w ha).mono (fun e w' ⟨he, hw⟩ => ⟨v, H, he, by rw [hw]; exact ha, rfl, Nw.refl _⟩)
/-- the library's variable holds some number -/
abbrev MX (m : Int) (H : Heap) : Prop := PtF (fun b => b = 0) H ⟨0, 0, none⟩ [.int .i64 m]
theorem MX.cell {m : Int} {H : Heap} {w0 w : World} (h : MX m H) (ha : At w0 H w) : w.cell? ⟨0, 0, none⟩ = some (.int .i64 m) := by
  have := h.pt.cells 0 (.int .i64 m) rfl
  rw [ha.cell]; exact this
theorem contains_ct (s sub : List UInt8) (mx_ : Int) (w0 : World) (H0 : Heap) (mx : MX mx_ H0) (hs : s.length < 4294967281) : Ct Tryd.prog w0 32 #[Str s, Str sub] H0 (fun r H2 => r = .bool (Lib.contains s sub) ∧ Nw H0 H2) :=
  Ct.still (fun w ha => by
    have h : Calls Tryd.prog 32 #[Str s, Str sub] w fun e w' => e = .returned (.bool (Lib.contains s sub)) ∧ w' = w := Any.strings_Contains Tryd.lays144 ⟨s.toArray⟩ ⟨sub.toArray⟩ mx_ w (by simpa [ByteArray.size] using hs) (mx.cell ha)
    exact h)

theorem idx_ct (s : List UInt8) (c : UInt8) (w0 : World) (H0 : Heap) : Ct Tryd.prog w0 33 #[Str s, .int .u8 c.toNat] H0 (fun r H2 => r = .int .i64 (Lib.indexByte s c) ∧ Nw H0 H2) :=
  Ct.still (fun w ha => by
    have h : Calls Tryd.prog 33 #[Str s, .int .u8 c.toNat] w fun e w' => e = .returned (.int .i64 (Lib.indexByte s ((c.toNat : Int)).toNat.toUInt8)) ∧ w' = w := Any.strings_IndexByte Tryd.lays137 ⟨s.toArray⟩ c.toNat w
    have e : ((c.toNat : Int)).toNat.toUInt8 = c := by simp
    rw [e] at h; exact h)

/-- a path's last name -/
def lastL (p : List UInt8) : List UInt8 := (p.reverse.takeWhile (fun c => c ≠ 47)).reverse
theorem lastL_at {p : List UInt8} {j : Nat} (hj : j ≤ p.length) (h1 : ∀ q (h : q < p.length), j ≤ q → p[q] ≠ 47) (h2 : ∀ h : 0 < j, p[j - 1]'(by omega) = 47) : lastL p = p.drop j := by
  have e : p.reverse = (p.drop j).reverse ++ (p.take j).reverse := by rw [← List.reverse_append, List.take_append_drop]
  have hd : ∀ c ∈ (p.drop j).reverse, (decide (c ≠ 47)) = true := by
    intro c hc
    rw [List.mem_reverse, List.mem_iff_getElem] at hc
    obtain ⟨q, hq, rfl⟩ := hc
    rw [List.getElem_drop]
    simpa using h1 (j + q) (by simpa using (by rw [List.length_drop] at hq; omega)) (by omega)
  unfold lastL
  rw [e, List.takeWhile_append_of_pos hd]
  rcases Nat.eq_zero_or_pos j with h0 | h0
  · subst h0; simp
  · have e2 : (p.take j).reverse = 47 :: (p.take (j - 1)).reverse := by
      have : p.take j = p.take (j - 1) ++ [47] := by
        have h3 := List.take_succ_eq_append_getElem (l := p) (i := j - 1) (by omega)
        rw [show j - 1 + 1 = j by omega, h2 h0] at h3
        exact h3
      rw [this]; simp
    rw [e2, List.takeWhile_cons]; simp


theorem Ct.still2 {P : Program} {w0 : World} {f : FuncId} {args : Array Value} {H : Heap} {v : Value} (h : ∀ w, At w0 H w → Calls P f args w fun e w' => e = .returned v ∧ (w' = w ∨ w' = w.drew)) : Ct P w0 f args H (fun r H2 => r = v ∧ Nw H H2) :=
  fun w ha => (h w ha).mono (fun e w' ⟨he, hw⟩ => by
    rcases hw with rfl | rfl
    · exact ⟨v, H, he, ha, rfl, Nw.refl _⟩
    · exact ⟨v, H, he, ha.drew, rfl, Nw.refl _⟩)
theorem trim_ct (s : List UInt8) (w0 : World) (H0 : Heap) (hs : s.length ≤ 9223372036854775807) : Ct Tryd.prog w0 31 #[Str s, Str [47]] H0 (fun r H2 => r = Str (Lib.trimB s 47) ∧ Nw H0 H2) :=
  Ct.still2 (fun w ha => by
    have h : Calls Tryd.prog 31 #[Str s, Str [47]] w fun e w' => e = .returned (.string ⟨(Lib.trimB (⟨s.toArray⟩ : ByteArray).data.toList 47).toArray⟩) ∧ (w' = w ∨ w' = w.drew) := Any.strings_Trim_one Tryd.lays160 ⟨s.toArray⟩ 47 (by decide) w (by simpa [ByteArray.size] using hs)
    exact h)
def dd : List UInt8 → Bool
  | [] => false
  | [_] => false
  | a :: b :: l => (a == 47 && b == 47) || dd (b :: l)
theorem dd_index : ∀ s : List UInt8, (0 ≤ Lib.index s [47, 47]) ↔ dd s = true
  | [] => by simp [Lib.index, dd]
  | [a] => by simp [Lib.index, dd, List.isPrefixOf]
  | a :: b :: l => by
    have ih := dd_index (b :: l)
    have hg := Lib.index_ge (b :: l) [47, 47]
    rw [Lib.index]
    by_cases h : a = 47 ∧ b = 47
    · obtain ⟨rfl, rfl⟩ := h
      simp [List.isPrefixOf, dd]
    · have hp : ([47, 47] : List UInt8).isPrefixOf (a :: b :: l) = false := by
        simp only [List.isPrefixOf, Bool.and_true, Bool.and_eq_false_iff, beq_eq_false_iff_ne]
        by_cases h1 : a = 47
        · exact .inr (fun e => h ⟨h1, e.symm⟩)
        · exact .inl (fun e => h1 e.symm)
      have hd : dd (a :: b :: l) = dd (b :: l) := by
        rw [dd]
        have : (a == 47 && b == 47) = false := by
          rw [Bool.and_eq_false_iff, beq_eq_false_iff_ne, beq_eq_false_iff_ne]
          by_cases h1 : a = 47
          · exact .inr (fun e => h ⟨h1, e⟩)
          · exact .inl h1
        rw [this, Bool.false_or]
      rw [hp, hd, ← ih]
      simp only [Bool.false_eq_true, if_false]
      by_cases hm : Lib.index (b :: l) [47, 47] = -1
      · simp [hm]
      · simp [hm]; omega
theorem dd_iff : ∀ s : List UInt8, dd s = true ↔ ∃ i, i + 1 < s.length ∧ s.getD i 0 = 47 ∧ s.getD (i + 1) 0 = 47
  | [] => by simp [dd]
  | [a] => by simp [dd]
  | a :: b :: l => by
    rw [dd, Bool.or_eq_true, dd_iff (b :: l), Bool.and_eq_true, beq_iff_eq, beq_iff_eq]
    constructor
    · rintro (⟨h1, h2⟩ | ⟨i, h1, h2, h3⟩)
      · exact ⟨0, by simp, by simpa using h1, by simpa using h2⟩
      · exact ⟨i + 1, by simp at h1 ⊢; omega, by simpa using h2, by simpa using h3⟩
    · rintro ⟨i, h1, h2, h3⟩
      cases i with
      | zero => exact .inl ⟨by simpa using h2, by simpa using h3⟩
      | succ i => exact .inr ⟨i, by simp at h1 ⊢; omega, by simpa using h2, by simpa using h3⟩
theorem slk_iff {p : List UInt8} (h0 : 1 ≤ p.length) : slk p = true ↔ p.getD 0 0 ≠ 47 ∧ p.getD (p.length - 1) 0 ≠ 47 ∧ dd p = false := by
  unfold slk
  rw [List.all_eq_true]
  simp only [List.mem_range, Bool.not_eq_true', Bool.and_eq_false_iff, beq_eq_false_iff_ne, Bool.or_eq_false_iff]
  constructor
  · intro h
    refine ⟨?_, ?_, ?_⟩
    · rcases h 0 (by omega) with h | h
      · exact h
      · exact absurd rfl h.1.1
    · rcases h (p.length - 1) (by omega) with h | h
      · exact h
      · exact absurd rfl h.1.2
    · cases hd : dd p with
      | false => rfl
      | true =>
        obtain ⟨i, h1, h2, h3⟩ := (dd_iff p).1 hd
        rcases h (i + 1) h1 with h | h
        · exact absurd h3 h
        · exact absurd h2 (by simpa using h.2)
  · rintro ⟨h1, h2, h3⟩ i hi
    by_cases e : p.getD i 0 = 47
    · refine .inr ⟨⟨fun e0 => ?_, fun e0 => ?_⟩, fun e0 => ?_⟩
      · subst e0; exact h1 e
      · subst e0; exact h2 e
      · have : dd p = true := (dd_iff p).2 ⟨i - 1, by
          rcases Nat.eq_zero_or_pos i with h | h
          · subst h; exact absurd e h1
          · omega, e0, by
          rcases Nat.eq_zero_or_pos i with h | h
          · subst h; exact absurd e h1
          · rw [show i - 1 + 1 = i by omega]; exact e⟩
        rw [h3] at this; cases this
    · exact .inl e
theorem trimB_iff {p : List UInt8} (h0 : 1 ≤ p.length) : Lib.trimB p 47 = p ↔ p.getD 0 0 ≠ 47 ∧ p.getD (p.length - 1) 0 ≠ 47 := by
  have hL : ∀ q : List UInt8, (Lib.trimLeftB q 47).length ≤ q.length := fun q => (List.dropWhile_suffix _).length_le
  have hR : ∀ q : List UInt8, (Lib.trimRightB q 47).length ≤ q.length := fun q => by unfold Lib.trimRightB; rw [List.length_reverse]; have := (List.dropWhile_suffix (l := q.reverse) (fun x : UInt8 => x == 47)).length_le; rwa [List.length_reverse] at this
  have hl1 : ∀ q : List UInt8, 1 ≤ q.length → (Lib.trimLeftB q 47 = q ↔ q.getD 0 0 ≠ 47) := by
    intro q hq
    cases q with
    | nil => simp at hq
    | cons a l =>
      unfold Lib.trimLeftB
      rw [List.dropWhile_cons]
      by_cases ha : a = 47
      · have : (List.dropWhile (fun x : UInt8 => x == 47) l).length ≤ l.length := (List.dropWhile_suffix _).length_le
        simp only [ha, beq_self_eq_true, if_true, List.getD_cons_zero, ne_eq, not_true, iff_false]
        intro e
        rw [e] at this
        simp only [List.length_cons] at this
        omega
      · simp [ha]
  have hr1 : Lib.trimRightB p 47 = p ↔ p.getD (p.length - 1) 0 ≠ 47 := by
    have h := hl1 p.reverse (by rw [List.length_reverse]; omega)
    have e1 : p.reverse.getD 0 0 = p.getD (p.length - 1) 0 := by
      simp [List.getD, List.getElem?_reverse (show 0 < p.length by omega)]
    rw [← e1, ← h]
    unfold Lib.trimRightB Lib.trimLeftB
    constructor
    · intro h; have := congrArg List.reverse h; rwa [List.reverse_reverse] at this
    · intro h; rw [h, List.reverse_reverse]
  unfold Lib.trimB
  constructor
  · intro h
    have e : Lib.trimRightB p 47 = p := by
      refine (List.IsPrefix.eq_of_length_le ?_ ?_)
      · unfold Lib.trimRightB
        rw [← List.reverse_suffix, List.reverse_reverse]
        exact List.dropWhile_suffix _
      · have h1 := congrArg List.length h
        have h2 := hL (Lib.trimRightB p 47)
        omega
    rw [e] at h
    exact ⟨(hl1 p h0).1 h, hr1.1 e⟩
  · rintro ⟨h1, h2⟩
    rw [hr1.2 h2]; exact (hl1 p h0).2 h1
theorem name_iff (p : List UInt8) : nameB p = true ↔ p ≠ [] ∧ p.length ≤ 100 ∧ Lib.trimB p 47 = p ∧ Lib.contains p [47, 47] = false ∧ ∀ i (h : i < p.length), okc p[i] = true := by
  have hc : Lib.contains p [47, 47] = dd p := by
    unfold Lib.contains
    rw [Bool.eq_iff_iff, decide_eq_true_iff]; exact dd_index p
  unfold nameB
  simp only [Bool.and_eq_true, decide_eq_true_eq, List.all_eq_true]
  rw [hc]
  constructor
  · rintro ⟨⟨⟨h1, h2⟩, h3⟩, h4⟩
    have h5 := (slk_iff h1).1 h4
    exact ⟨fun e => by rw [e] at h1; simp at h1, h2, (trimB_iff h1).2 ⟨h5.1, h5.2.1⟩, h5.2.2, fun i h => h3 _ (List.getElem_mem h)⟩
  · rintro ⟨h1, h2, h3, h4, h5⟩
    have h0 : 1 ≤ p.length := by cases p with
      | nil => exact absurd rfl h1
      | cons a l => simp
    have h6 := (trimB_iff h0).1 h3
    refine ⟨⟨⟨h0, h2⟩, fun x hx => ?_⟩, (slk_iff h0).2 ⟨h6.1, h6.2, h4⟩⟩
    obtain ⟨i, hi, rfl⟩ := List.mem_iff_getElem.1 hx
    exact h5 i hi
theorem nameF {p : List UInt8} (h : ¬ (p ≠ [] ∧ p.length ≤ 100 ∧ Lib.trimB p 47 = p ∧ Lib.contains p [47, 47] = false ∧ ∀ i (h : i < p.length), okc p[i] = true)) : nameB p = false := by
  cases hn : nameB p with
  | false => rfl
  | true => exact absurd ((name_iff p).1 hn) h
theorem okc_iff (c : UInt8) : okc c = true ↔ (97 ≤ c.toNat ∧ c.toNat ≤ 122) ∨ (48 ≤ c.toNat ∧ c.toNat ≤ 57) ∨ 0 ≤ Lib.indexByte [46, 95, 45, 47] c := by
  have h : ∀ n : Fin 256, (okc (UInt8.ofNat n.val) = decide ((97 ≤ n.val ∧ n.val ≤ 122) ∨ (48 ≤ n.val ∧ n.val ≤ 57) ∨ 0 ≤ Lib.indexByte [46, 95, 45, 47] (UInt8.ofNat n.val))) := by decide +kernel
  have := h ⟨c.toNat, c.toNat_lt⟩
  simp only [UInt8.ofNat_toNat] at this
  rw [this, decide_eq_true_iff]
theorem head_of {s : List UInt8} {j : Nat} (hj : j ≤ s.length) (h : lastL s = s.drop j) : headP s = s.take (j - 1) := by
  unfold headP
  have h1 := congrArg List.length h
  unfold lastL at h1
  rw [List.length_reverse, List.length_drop] at h1
  rw [h1]; congr 1; omega

theorem lix_ct0 (s : List UInt8) (w0 : World) (H0 : Heap)
    (hl : s.length ≤ 9223372036854775807) :
    Ct Tryd.prog w0 59 #[Str s, .int .u8 (47 : UInt8).toNat] H0 (fun r H2 => ∃ j : Nat, r = .int .i64 ((j : Int) - 1) ∧ (j ≤ s.length) ∧ (lastL s = s.drop j) ∧ Nw H0 H2) := by
  refine Ct.enter (args := [Str s, .int .u8 (47 : UInt8).toNat]) Tryd.func59 rfl rfl rfl ?_
  intro Q0 hret
  have hm0 : Nw H0 H0 := Mo.refl _ _
  refine CW.seq (fun K1 hK1 hE1 => ?_)
  refine CW.region ?_
  refine LR.v (Y.assign rfl rfl) (Wd.u rfl) rfl rfl ?_
  refine LR.nil ?_
  refine hK1 _ _ ?_
  refine CW.seq (fun K2 hK2 hE2 => ?_)
  refine CW.seq (fun K3 hK3 hE3 => ?_)
  refine CW.region ?_
  refine LR.v (Y.move rfl rfl) (Wd.u rfl) rfl rfl ?_
  refine LR.v (Y.slen rfl Tryd.runUnderlying9 rfl) (Wd.u rfl) rfl rfl ?_
  refine LR.v (Y.subi rfl rfl rfl (by omega)) (Wd.u rfl) rfl rfl ?_
  refine LR.v (Y.assign rfl rfl) (Wd.u rfl) rfl rfl ?_
  refine LR.nil ?_
  refine hK3 _ _ ?_
  refine CW.block (fun K4 hK4 hX4 hE4 => ?_)
  refine CW.loop (fun (j : (Nat)) => [(0, Str s), (1, .int .u8 (47 : UInt8).toNat), (5, .int .i64 ((j : Int) - 1))])
    (fun (j : (Nat)) (H : Heap) => (j ≤ s.length) ∧ (∀ q (h : q < s.length), j ≤ q → s[q] ≠ 47) ∧ Nw H0 H)
    (fun (j : (Nat)) => j) s.length ⟨rfl, rfl, rfl, trivial⟩ ?_ ?_
  ·
    exact ⟨(by omega), (fun q h h2 => absurd h2 (by omega)), Mo.refl _ _⟩
  intro j HL1 hI1 K5 hN5 hE5
  obtain ⟨hj, hno, hlm1⟩ := hI1
  replace hm0 := hm0.tr hlm1
  have hz1 := hlm1.size
  refine CW.seq (fun K6 hK6 hE6 => ?_)
  refine CW.seq (fun K7 hK7 hE7 => ?_)
  refine CW.region ?_
  refine LR.v (Y.move rfl rfl) (Wd.u rfl) rfl rfl ?_
  refine LR.v (Y.geq rfl rfl rfl) (Wd.u rfl) rfl rfl ?_
  refine LR.nil ?_
  refine hK7 _ _ ?_
  refine CW.condp rfl (fun c10 => ?_) (fun c10 => ?_)
  ·
    refine CW.skip ?_
    refine hK6 _ _ ?_
    refine CW.seq (fun K8 hK8 hE8 => ?_)
    refine CW.block (fun K9 hK9 hX9 hE9 => ?_)
    refine CW.seq (fun K10 hK10 hE10 => ?_)
    refine CW.region ?_
    refine LR.v (Y.move rfl rfl) (Wd.u rfl) rfl rfl ?_
    refine LR.v (Y.move rfl rfl) (Wd.u rfl) rfl rfl ?_
    refine LR.v (Y.sindex (j - 1) rfl Tryd.runUnderlying9 rfl rfl (by first | rfl | omega) (by omega)) (Wd.u rfl) rfl rfl ?_
    refine LR.v (Y.move rfl rfl) (Wd.u rfl) rfl rfl ?_
    refine LR.v (Y.eql rfl rfl rfl) (Wd.u rfl) rfl rfl ?_
    refine LR.nil ?_
    refine hK10 _ _ ?_
    refine CW.condp rfl (fun c17 => ?_) (fun c17 => ?_)
    ·
      refine CW.seq (fun K11 hK11 hE11 => ?_)
      refine CW.region ?_
      refine LR.v (Y.move rfl rfl) (Wd.u rfl) rfl rfl ?_
      refine LR.v (Y.assign rfl rfl) (Wd.u rfl) rfl rfl ?_
      refine LR.nil ?_
      refine hK11 _ _ ?_
      refine CW.ret (hE9 .ret nofun (by simp) _ _ (hE8 .ret nofun _ _ (hE5 .ret nofun _ _ (hE4 .ret nofun (by simp) _ _ (hE2 .ret nofun _ _ (hret .ret (.inr rfl) _ _ _ (res1 rfl rfl) ?_))))))
      exact ⟨j, rfl, (by omega), lastL_at hj hno (fun h => by apply UInt8.toNat_inj.1; have := c17; simp at this ⊢; omega), hm0⟩
    ·
      refine CW.skip ?_
      refine hK9 _ _ ?_
      refine hK8 _ _ ?_
      refine CW.region ?_
      refine LR.v (Y.move rfl rfl) (Wd.u rfl) rfl rfl ?_
      refine LR.v (Y.subi rfl rfl rfl (by omega)) (Wd.u rfl) rfl rfl ?_
      refine LR.v (Y.assign rfl rfl) (Wd.u rfl) rfl rfl ?_
      refine LR.nil ?_
      refine QN.sub (hN5 (j - 1) _ ?_ ?_) ⟨rfl, (iv (by omega)), (iv (by omega)), trivial⟩
      · exact ⟨(by omega), (fun q h h2 => by rcases Nat.lt_or_ge q j with h5 | h5; (obtain rfl : q = j - 1 := by omega); exact (fun e => c17 (by first | (rw [e]; done) | (rw [e]; rfl))); exact hno q h h5), hlm1⟩
      · first | omega | (simp only; omega) | (simp; omega)
  ·
    refine CW.exit (hE6 (.exit 0) nofun _ _ (hE5 (.exit 0) nofun _ _ (hX4 _ _ ?_)))
    refine hK2 _ _ ?_
    refine CW.seq (fun K12 hK12 hE12 => ?_)
    refine CW.region ?_
    refine LR.v (Y.assign rfl rfl) (Wd.u rfl) rfl rfl ?_
    refine LR.nil ?_
    refine hK12 _ _ ?_
    refine CW.ret (hret .ret (.inr rfl) _ _ _ (res1 rfl rfl) ?_)
    obtain rfl : j = 0 := by omega
    exact ⟨0, rfl, (by omega), lastL_at hj hno (fun h => absurd h (Nat.lt_irrefl _)), hm0⟩

theorem lix_ct (s : List UInt8) (w0 : World) (H0 : Heap)
    (hl : s.length ≤ 9223372036854775807) :
    Ct Tryd.prog w0 34 #[Str s, .int .u8 (47 : UInt8).toNat] H0 (fun r H2 => ∃ j : Nat, r = .int .i64 ((j : Int) - 1) ∧ (j ≤ s.length) ∧ (lastL s = s.drop j) ∧ Nw H0 H2) := by
  refine Ct.enter (args := [Str s, .int .u8 (47 : UInt8).toNat]) Tryd.func34 rfl rfl rfl ?_
  intro Q0 hret
  have hm0 : Nw H0 H0 := Mo.refl _ _
  refine CW.seq (fun K1 hK1 hE1 => ?_)
  refine CW.region ?_
  refine LR.v (Y.assign rfl rfl) (Wd.u rfl) rfl rfl ?_
  refine LR.nil ?_
  refine hK1 _ _ ?_
  refine CW.seq (fun K2 hK2 hE2 => ?_)
  refine CW.region ?_
  refine LR.v (Y.move rfl rfl) (Wd.u rfl) rfl rfl ?_
  refine LR.v (Y.move rfl rfl) (Wd.u rfl) rfl rfl ?_
  -- call internal/bytealg.LastIndexByteString
  refine LR.call rfl Tryd.call59 rfl (Wd.u rfl) rfl rfl (lix_ct0 s w0 _ hl) (fun v7 H7 r7 => ?_)
  obtain ⟨j7, rfl, hj7, hl7, hs7⟩ := r7
  replace hm0 := hm0.tr hs7
  have hz1 := hs7.size
  refine LR.v (Y.assign rfl rfl) (Wd.u rfl) rfl rfl ?_
  refine LR.nil ?_
  refine hK2 _ _ ?_
  refine CW.ret (hret .ret (.inr rfl) _ _ _ (res1 rfl rfl) ?_)
  exact ⟨j7, rfl, hj7, hl7, hm0⟩

theorem name_ct (mx_ : Int) (l : List UInt8) (w0 : World) (H0 : Heap)
    (mx : MX mx_ H0) (bf_mx : BF (fun b => b = 0) H0.size) (hl : l.length ≤ 4294967280) :
    Ct Tryd.prog w0 12 #[Str l] H0 (fun r H2 => r = .bool (nameB l) ∧ Nw H0 H2) := by
  refine Ct.enter (args := [Str l]) Tryd.func12 rfl rfl rfl ?_
  intro Q0 hret
  have hm0 : Nw H0 H0 := Mo.refl _ _
  refine CW.seq (fun K1 hK1 hE1 => ?_)
  refine CW.region ?_
  refine LR.v (Y.assign rfl rfl) (Wd.u rfl) rfl rfl ?_
  refine LR.nil ?_
  refine hK1 _ _ ?_
  refine CW.seq (fun K2 hK2 hE2 => ?_)
  refine CW.seq (fun K3 hK3 hE3 => ?_)
  refine CW.region ?_
  refine LR.v (Y.move rfl rfl) (Wd.u rfl) rfl rfl ?_
  refine LR.v (Y.seql rfl rfl rfl) (Wd.u rfl) rfl rfl ?_
  refine LR.v (Y.move rfl rfl) (Wd.u rfl) rfl rfl ?_
  refine LR.splitp (d := 7) rfl (fun g7 => ?_) (fun g7 => ?_)
  ·
    refine LR.gs rfl rfl rfl rfl rfl rfl ?_
    refine LR.gs rfl rfl rfl rfl rfl rfl ?_
    refine LR.gs rfl rfl rfl rfl rfl rfl ?_
    refine LR.v (Y.pick_t rfl rfl rfl) (Wd.u rfl) rfl rfl ?_
    refine LR.v (Y.move rfl rfl) (Wd.u rfl) rfl rfl ?_
    refine LR.gs rfl rfl rfl rfl rfl rfl ?_
    refine LR.gs rfl rfl rfl rfl rfl rfl ?_
    refine LR.gs rfl rfl rfl rfl rfl rfl ?_
    refine LR.gs rfl rfl rfl rfl rfl rfl ?_
    refine LR.v (Y.pick_t rfl rfl rfl) (Wd.u rfl) rfl rfl ?_
    refine LR.v (Y.move rfl rfl) (Wd.u rfl) rfl rfl ?_
    refine LR.gs rfl rfl rfl rfl rfl rfl ?_
    refine LR.gs rfl rfl rfl rfl rfl rfl ?_
    refine LR.v (Y.pick_t rfl rfl rfl) (Wd.u rfl) rfl rfl ?_
    refine LR.nil ?_
    refine hK3 _ _ ?_
    refine CW.cond_t rfl ?_
    refine CW.seq (fun K4 hK4 hE4 => ?_)
    refine CW.region ?_
    refine LR.v (Y.assign rfl rfl) (Wd.u rfl) rfl rfl ?_
    refine LR.nil ?_
    refine hK4 _ _ ?_
    refine CW.ret (hE2 .ret nofun _ _ (hret .ret (.inr rfl) _ _ _ (res1 rfl rfl) ?_))
    exact ⟨congrArg Value.bool (nameF (fun h => by obtain ⟨h1, h2, h3, h4, h5⟩ := h; first | exact h1 g7 | omega | exact g18 h3 | (rw [h4] at c21; cases c21))).symm, hm0⟩
  ·
    refine LR.v (Y.move rfl rfl) (Wd.g rfl rfl rfl) rfl rfl ?_
    refine LR.v (Y.slen rfl Tryd.runUnderlying9 rfl) (Wd.g rfl rfl rfl) rfl rfl ?_
    refine LR.v (Y.gtr rfl rfl rfl) (Wd.g rfl rfl rfl) rfl rfl ?_
    refine LR.v (Y.pick_f rfl rfl rfl) (Wd.u rfl) rfl rfl ?_
    refine LR.v (Y.move rfl rfl) (Wd.u rfl) rfl rfl ?_
    refine LR.splitp (d := 12) rfl (fun g12 => ?_) (fun g12 => ?_)
    ·
      refine LR.gs rfl rfl rfl rfl rfl rfl ?_
      refine LR.gs rfl rfl rfl rfl rfl rfl ?_
      refine LR.gs rfl rfl rfl rfl rfl rfl ?_
      refine LR.gs rfl rfl rfl rfl rfl rfl ?_
      refine LR.v (Y.pick_t rfl rfl rfl) (Wd.u rfl) rfl rfl ?_
      refine LR.v (Y.move rfl rfl) (Wd.u rfl) rfl rfl ?_
      refine LR.gs rfl rfl rfl rfl rfl rfl ?_
      refine LR.gs rfl rfl rfl rfl rfl rfl ?_
      refine LR.v (Y.pick_t rfl rfl rfl) (Wd.u rfl) rfl rfl ?_
      refine LR.nil ?_
      refine hK3 _ _ ?_
      refine CW.cond_t rfl ?_
      refine CW.seq (fun K5 hK5 hE5 => ?_)
      refine CW.region ?_
      refine LR.v (Y.assign rfl rfl) (Wd.u rfl) rfl rfl ?_
      refine LR.nil ?_
      refine hK5 _ _ ?_
      refine CW.ret (hE2 .ret nofun _ _ (hret .ret (.inr rfl) _ _ _ (res1 rfl rfl) ?_))
      exact ⟨congrArg Value.bool (nameF (fun h => by obtain ⟨h1, h2, h3, h4, h5⟩ := h; first | exact h1 g7 | omega | exact g18 h3 | (rw [h4] at c21; cases c21))).symm, hm0⟩
    ·
      refine LR.v (Y.move rfl rfl) (Wd.g rfl rfl rfl) rfl rfl ?_
      -- call strings.Trim
      refine LR.call rfl Tryd.call31 rfl (Wd.g rfl rfl rfl) rfl rfl (trim_ct l w0 _ (by omega)) (fun v14 H14 r14 => ?_)
      obtain ⟨rfl, hs14⟩ := r14
      replace mx := mx.nw hs14
      replace hm0 := hm0.tr hs14
      have hz1 := hs14.size
      refine LR.v (Y.move rfl rfl) (Wd.g rfl rfl rfl) rfl rfl ?_
      refine LR.v (Y.sneq rfl rfl rfl) (Wd.g rfl rfl rfl) rfl rfl ?_
      refine LR.v (Y.pick_f rfl rfl rfl) (Wd.u rfl) rfl rfl ?_
      refine LR.v (Y.move rfl rfl) (Wd.u rfl) rfl rfl ?_
      refine LR.splitp (d := 18) rfl (fun g18 => ?_) (fun g18 => ?_)
      ·
        refine LR.gs rfl rfl rfl rfl rfl rfl ?_
        refine LR.gs rfl rfl rfl rfl rfl rfl ?_
        refine LR.v (Y.pick_t rfl rfl rfl) (Wd.u rfl) rfl rfl ?_
        refine LR.nil ?_
        refine hK3 _ _ ?_
        refine CW.cond_t rfl ?_
        refine CW.seq (fun K6 hK6 hE6 => ?_)
        refine CW.region ?_
        refine LR.v (Y.assign rfl rfl) (Wd.u rfl) rfl rfl ?_
        refine LR.nil ?_
        refine hK6 _ _ ?_
        refine CW.ret (hE2 .ret nofun _ _ (hret .ret (.inr rfl) _ _ _ (res1 rfl rfl) ?_))
        exact ⟨congrArg Value.bool (nameF (fun h => by obtain ⟨h1, h2, h3, h4, h5⟩ := h; first | exact h1 g7 | omega | exact g18 h3 | (rw [h4] at c21; cases c21))).symm, hm0⟩
      ·
        refine LR.v (Y.move rfl rfl) (Wd.g rfl rfl rfl) rfl rfl ?_
        -- call strings.Contains
        refine LR.call rfl Tryd.call32 rfl (Wd.g rfl rfl rfl) rfl rfl (contains_ct l [47, 47] mx_ w0 _ mx (by omega)) (fun v20 H20 r20 => ?_)
        obtain ⟨rfl, hs20⟩ := r20
        replace mx := mx.nw hs20
        replace hm0 := hm0.tr hs20
        have hz2 := hs20.size
        refine LR.v (Y.pick_f rfl rfl rfl) (Wd.u rfl) rfl rfl ?_
        refine LR.nil ?_
        refine hK3 _ _ ?_
        refine CW.cond rfl (fun c21 => ?_) (fun c21 => ?_)
        ·
          refine CW.seq (fun K7 hK7 hE7 => ?_)
          refine CW.region ?_
          refine LR.v (Y.assign rfl rfl) (Wd.u rfl) rfl rfl ?_
          refine LR.nil ?_
          refine hK7 _ _ ?_
          refine CW.ret (hE2 .ret nofun _ _ (hret .ret (.inr rfl) _ _ _ (res1 rfl rfl) ?_))
          exact ⟨congrArg Value.bool (nameF (fun h => by obtain ⟨h1, h2, h3, h4, h5⟩ := h; first | exact h1 g7 | omega | exact g18 h3 | (rw [h4] at c21; cases c21))).symm, hm0⟩
        ·
          refine CW.skip ?_
          refine hK2 _ _ ?_
          refine CW.seq (fun K8 hK8 hE8 => ?_)
          refine CW.seq (fun K9 hK9 hE9 => ?_)
          refine CW.region ?_
          refine LR.v (Y.move rfl rfl) (Wd.u rfl) rfl rfl ?_
          refine LR.z (Z.strbw rfl Tryd.underlying9 Tryd.underlying25 Tryd.underlying5 rfl (by omega)) (Wd.u rfl) rfl rfl (fun v23 H23 r23 => ?_)
          obtain ⟨owb, hs23, hzs23⟩ := r23
          have df1 := (DF.new (bf_mx.mono hm0.size) : DF _ (H20.size + 1))
          have nx2 : Nx 0 H0.size (H20.size + 1) := Nx.new hm0.size
          replace mx := mx.nw hs23
          replace hm0 := hm0.tr hs23
          have hz3 := hs23.size
          refine LR.v (Y.len owb.rd rfl Tryd.runUnderlying25 rfl) (Wd.u rfl) rfl rfl ?_
          refine LR.v (Y.move rfl rfl) (Wd.u rfl) rfl rfl ?_
          refine LR.nil ?_
          refine hK9 _ _ ?_
          refine CW.block (fun K10 hK10 hX10 hE10 => ?_)
          refine CW.loop (fun (i : (Nat)) => [(23, v23), (24, .int .i64 l.length), (25, .int .i64 i)])
            (fun (i : (Nat)) (H : Heap) => (i ≤ l.length) ∧ (∀ q (h : q < l.length), q < i → okc l[q] = true) ∧ Nw H23 H)
            (fun (i : (Nat)) => l.length - i) 0 ⟨rfl, rfl, rfl, trivial⟩ ?_ ?_
          ·
            exact ⟨(by omega), (fun q h h2 => absurd h2 (by omega)), Mo.refl _ _⟩
          intro i HL1 hI1 K11 hN11 hE11
          obtain ⟨hi, hok, hlm1⟩ := hI1
          replace mx := mx.nw hlm1
          replace owb := owb.nw hlm1
          replace hm0 := hm0.tr hlm1
          have hz4 := hlm1.size
          refine CW.seq (fun K12 hK12 hE12 => ?_)
          refine CW.region ?_
          refine LR.v (Y.lss rfl rfl rfl) (Wd.u rfl) rfl rfl ?_
          refine LR.nil ?_
          refine hK12 _ _ ?_
          refine CW.seq (fun K13 hK13 hE13 => ?_)
          refine CW.condp rfl (fun c26 => ?_) (fun c26 => ?_)
          ·
            have hil : i < l.length := by omega
            refine CW.skip ?_
            refine hK13 _ _ ?_
            refine CW.cut (fun (_ : Unit) => [(23, v23), (24, .int .i64 l.length), (25, .int .i64 i)])
              (fun (_ : Unit) (H : Heap) => (okc l[i] = true) ∧ Nw HL1 H) (fun K14 hK14 hE14 => ?_) ?_
            ·
              have hcm14 : Nw HL1 HL1 := Mo.refl _ _
              refine CW.block (fun K15 hK15 hX15 hE15 => ?_)
              refine CW.seq (fun K16 hK16 hE16 => ?_)
              refine CW.region ?_
              refine LR.v (Y.owAddr owb (i) rfl Tryd.runUnderlying25 Tryd.sizeOf5 rfl rfl (by first | rfl | omega) (by first | omega | (simp; omega) | (simp; done))) (Wd.u rfl) rfl rfl ?_
              refine LR.v (Y.load1 (owb.pt (j := i) (by first | omega | (simp; omega) | (simp; done))) rfl Tryd.isAgg5 rfl) (Wd.u rfl) rfl rfl ?_
              refine LR.v (Y.assign rfl rfl) (Wd.u rfl) rfl rfl ?_
              refine LR.nil ?_
              refine hK16 _ _ ?_
              refine CW.seq (fun K17 hK17 hE17 => ?_)
              refine CW.region ?_
              refine LR.v (Y.move rfl rfl) (Wd.u rfl) rfl rfl ?_
              refine LR.v (Y.geq rfl rfl rfl) (Wd.u rfl) rfl rfl ?_
              refine LR.v (Y.move rfl rfl) (Wd.u rfl) rfl rfl ?_
              refine LR.splitp (d := 31) rfl (fun g31 => ?_) (fun g31 => ?_)
              ·
                refine LR.v (Y.move rfl rfl) (Wd.g rfl rfl rfl) rfl rfl ?_
                refine LR.v (Y.leq rfl rfl rfl) (Wd.g rfl rfl rfl) rfl rfl ?_
                refine LR.v (Y.pick_t rfl rfl rfl) (Wd.u rfl) rfl rfl ?_
                refine LR.v (Y.move rfl rfl) (Wd.u rfl) rfl rfl ?_
                refine LR.splitp (d := 35) rfl (fun g35 => ?_) (fun g35 => ?_)
                ·
                  refine LR.gs rfl rfl rfl rfl rfl rfl ?_
                  refine LR.gs rfl rfl rfl rfl rfl rfl ?_
                  refine LR.gs rfl rfl rfl rfl rfl rfl ?_
                  refine LR.gsu rfl rfl rfl rfl rfl ?_
                  refine LR.gsu rfl rfl rfl rfl rfl ?_
                  refine LR.gs rfl rfl rfl rfl rfl rfl ?_
                  refine LR.v (Y.pick_t rfl rfl rfl) (Wd.u rfl) rfl rfl ?_
                  refine LR.v (Y.move rfl rfl) (Wd.u rfl) rfl rfl ?_
                  refine LR.gs rfl rfl rfl rfl rfl rfl ?_
                  refine LR.gs rfl rfl rfl rfl rfl rfl ?_
                  refine LR.gs rfl rfl rfl rfl rfl rfl ?_
                  refine LR.v (Y.pick_t rfl rfl rfl) (Wd.u rfl) rfl rfl ?_
                  refine LR.v (Y.not rfl rfl) (Wd.u rfl) rfl rfl ?_
                  refine LR.nil ?_
                  refine hK17 _ _ ?_
                  refine CW.cond_f rfl ?_
                  refine CW.skip ?_
                  refine hK15 _ _ ?_
                  refine QN.sub (hK14 () _ ?_) ⟨rfl, (iv (by omega)), (iv (by omega)), trivial⟩
                  exact ⟨(okc_iff _).2 (by simp at *; omega), hcm14⟩
                ·
                  refine LR.v (Y.move rfl rfl) (Wd.g rfl rfl rfl) rfl rfl ?_
                  refine LR.v (Y.geq rfl rfl rfl) (Wd.g rfl rfl rfl) rfl rfl ?_
                  refine LR.v (Y.move rfl rfl) (Wd.g rfl rfl rfl) rfl rfl ?_
                  refine LR.splitp (d := 38) rfl (fun g38 => ?_) (fun g38 => ?_)
                  ·
                    refine LR.v (Y.move rfl rfl) (Wd.g rfl rfl rfl) rfl rfl ?_
                    refine LR.v (Y.leq rfl rfl rfl) (Wd.g rfl rfl rfl) rfl rfl ?_
                    refine LR.v (Y.pick_t rfl rfl rfl) (Wd.g rfl rfl rfl) rfl rfl ?_
                    refine LR.v (Y.pick_f rfl rfl rfl) (Wd.u rfl) rfl rfl ?_
                    refine LR.v (Y.move rfl rfl) (Wd.u rfl) rfl rfl ?_
                    refine LR.splitp (d := 43) rfl (fun g43 => ?_) (fun g43 => ?_)
                    ·
                      refine LR.gs rfl rfl rfl rfl rfl rfl ?_
                      refine LR.gs rfl rfl rfl rfl rfl rfl ?_
                      refine LR.gs rfl rfl rfl rfl rfl rfl ?_
                      refine LR.v (Y.pick_t rfl rfl rfl) (Wd.u rfl) rfl rfl ?_
                      refine LR.v (Y.not rfl rfl) (Wd.u rfl) rfl rfl ?_
                      refine LR.nil ?_
                      refine hK17 _ _ ?_
                      refine CW.cond_f rfl ?_
                      refine CW.skip ?_
                      refine hK15 _ _ ?_
                      refine QN.sub (hK14 () _ ?_) ⟨rfl, (iv (by omega)), (iv (by omega)), trivial⟩
                      exact ⟨(okc_iff _).2 (by simp at *; omega), hcm14⟩
                    ·
                      refine LR.v (Y.move rfl rfl) (Wd.g rfl rfl rfl) rfl rfl ?_
                      -- call strings.IndexByte
                      refine LR.call rfl Tryd.call33 rfl (Wd.g rfl rfl rfl) rfl rfl (idx_ct [46, 95, 45, 47] l[i] w0 _) (fun v45 H45 r45 => ?_)
                      obtain ⟨rfl, hs45⟩ := r45
                      replace mx := mx.nw hs45
                      replace owb := owb.nw hs45
                      replace hm0 := hm0.tr hs45
                      replace hlm1 := hlm1.tr hs45
                      replace hcm14 := hcm14.tr hs45
                      have hz5 := hs45.size
                      refine LR.v (Y.geq rfl rfl rfl) (Wd.g rfl rfl rfl) rfl rfl ?_
                      refine LR.v (Y.pick_f rfl rfl rfl) (Wd.u rfl) rfl rfl ?_
                      refine LR.v (Y.notp rfl rfl) (Wd.u rfl) rfl rfl ?_
                      refine LR.nil ?_
                      refine hK17 _ _ ?_
                      refine CW.condp rfl (fun c48 => ?_) (fun c48 => ?_)
                      ·
                        refine CW.seq (fun K18 hK18 hE18 => ?_)
                        refine CW.region ?_
                        refine LR.v (Y.assign rfl rfl) (Wd.u rfl) rfl rfl ?_
                        refine LR.nil ?_
                        refine hK18 _ _ ?_
                        refine CW.ret (hE15 .ret nofun (by simp) _ _ (hE14 .ret nofun _ _ (hE11 .ret nofun _ _ (hE10 .ret nofun (by simp) _ _ (hE8 .ret nofun _ _ (hret .ret (.inr rfl) _ _ _ (res1 rfl rfl) ?_))))))
                        exact ⟨congrArg Value.bool (nameF (fun h => by have h9 := (okc_iff _).1 (h.2.2.2.2 i hil); simp at *; omega)).symm, hm0⟩
                      ·
                        refine CW.skip ?_
                        refine hK15 _ _ ?_
                        refine QN.sub (hK14 () _ ?_) ⟨rfl, (iv (by omega)), (iv (by omega)), trivial⟩
                        exact ⟨(okc_iff _).2 (by simp at *; omega), hcm14⟩
                  ·
                    refine LR.gs rfl rfl rfl rfl rfl rfl ?_
                    refine LR.gs rfl rfl rfl rfl rfl rfl ?_
                    refine LR.v (Y.pick_f rfl rfl rfl) (Wd.g rfl rfl rfl) rfl rfl ?_
                    refine LR.v (Y.pick_f rfl rfl rfl) (Wd.u rfl) rfl rfl ?_
                    refine LR.v (Y.move rfl rfl) (Wd.u rfl) rfl rfl ?_
                    refine LR.v (Y.move rfl rfl) (Wd.g rfl rfl rfl) rfl rfl ?_
                    -- call strings.IndexByte
                    refine LR.call rfl Tryd.call33 rfl (Wd.g rfl rfl rfl) rfl rfl (idx_ct [46, 95, 45, 47] l[i] w0 _) (fun v45 H45 r45 => ?_)
                    obtain ⟨rfl, hs45⟩ := r45
                    replace mx := mx.nw hs45
                    replace owb := owb.nw hs45
                    replace hm0 := hm0.tr hs45
                    replace hlm1 := hlm1.tr hs45
                    replace hcm14 := hcm14.tr hs45
                    have hz6 := hs45.size
                    refine LR.v (Y.geq rfl rfl rfl) (Wd.g rfl rfl rfl) rfl rfl ?_
                    refine LR.v (Y.pick_f rfl rfl rfl) (Wd.u rfl) rfl rfl ?_
                    refine LR.v (Y.notp rfl rfl) (Wd.u rfl) rfl rfl ?_
                    refine LR.nil ?_
                    refine hK17 _ _ ?_
                    refine CW.condp rfl (fun c48 => ?_) (fun c48 => ?_)
                    ·
                      refine CW.seq (fun K19 hK19 hE19 => ?_)
                      refine CW.region ?_
                      refine LR.v (Y.assign rfl rfl) (Wd.u rfl) rfl rfl ?_
                      refine LR.nil ?_
                      refine hK19 _ _ ?_
                      refine CW.ret (hE15 .ret nofun (by simp) _ _ (hE14 .ret nofun _ _ (hE11 .ret nofun _ _ (hE10 .ret nofun (by simp) _ _ (hE8 .ret nofun _ _ (hret .ret (.inr rfl) _ _ _ (res1 rfl rfl) ?_))))))
                      exact ⟨congrArg Value.bool (nameF (fun h => by have h9 := (okc_iff _).1 (h.2.2.2.2 i hil); simp at *; omega)).symm, hm0⟩
                    ·
                      refine CW.skip ?_
                      refine hK15 _ _ ?_
                      refine QN.sub (hK14 () _ ?_) ⟨rfl, (iv (by omega)), (iv (by omega)), trivial⟩
                      exact ⟨(okc_iff _).2 (by simp at *; omega), hcm14⟩
              ·
                refine LR.gs rfl rfl rfl rfl rfl rfl ?_
                refine LR.gs rfl rfl rfl rfl rfl rfl ?_
                refine LR.v (Y.pick_f rfl rfl rfl) (Wd.u rfl) rfl rfl ?_
                refine LR.v (Y.move rfl rfl) (Wd.u rfl) rfl rfl ?_
                refine LR.v (Y.move rfl rfl) (Wd.g rfl rfl rfl) rfl rfl ?_
                refine LR.v (Y.geq rfl rfl rfl) (Wd.g rfl rfl rfl) rfl rfl ?_
                refine LR.v (Y.move rfl rfl) (Wd.g rfl rfl rfl) rfl rfl ?_
                refine LR.splitp (d := 38) rfl (fun g38 => ?_) (fun g38 => ?_)
                ·
                  refine LR.v (Y.move rfl rfl) (Wd.g rfl rfl rfl) rfl rfl ?_
                  refine LR.v (Y.leq rfl rfl rfl) (Wd.g rfl rfl rfl) rfl rfl ?_
                  refine LR.v (Y.pick_t rfl rfl rfl) (Wd.g rfl rfl rfl) rfl rfl ?_
                  refine LR.v (Y.pick_f rfl rfl rfl) (Wd.u rfl) rfl rfl ?_
                  refine LR.v (Y.move rfl rfl) (Wd.u rfl) rfl rfl ?_
                  refine LR.splitp (d := 43) rfl (fun g43 => ?_) (fun g43 => ?_)
                  ·
                    refine LR.gs rfl rfl rfl rfl rfl rfl ?_
                    refine LR.gs rfl rfl rfl rfl rfl rfl ?_
                    refine LR.gs rfl rfl rfl rfl rfl rfl ?_
                    refine LR.v (Y.pick_t rfl rfl rfl) (Wd.u rfl) rfl rfl ?_
                    refine LR.v (Y.not rfl rfl) (Wd.u rfl) rfl rfl ?_
                    refine LR.nil ?_
                    refine hK17 _ _ ?_
                    refine CW.cond_f rfl ?_
                    refine CW.skip ?_
                    refine hK15 _ _ ?_
                    refine QN.sub (hK14 () _ ?_) ⟨rfl, (iv (by omega)), (iv (by omega)), trivial⟩
                    exact ⟨(okc_iff _).2 (by simp at *; omega), hcm14⟩
                  ·
                    refine LR.v (Y.move rfl rfl) (Wd.g rfl rfl rfl) rfl rfl ?_
                    -- call strings.IndexByte
                    refine LR.call rfl Tryd.call33 rfl (Wd.g rfl rfl rfl) rfl rfl (idx_ct [46, 95, 45, 47] l[i] w0 _) (fun v45 H45 r45 => ?_)
                    obtain ⟨rfl, hs45⟩ := r45
                    replace mx := mx.nw hs45
                    replace owb := owb.nw hs45
                    replace hm0 := hm0.tr hs45
                    replace hlm1 := hlm1.tr hs45
                    replace hcm14 := hcm14.tr hs45
                    have hz7 := hs45.size
                    refine LR.v (Y.geq rfl rfl rfl) (Wd.g rfl rfl rfl) rfl rfl ?_
                    refine LR.v (Y.pick_f rfl rfl rfl) (Wd.u rfl) rfl rfl ?_
                    refine LR.v (Y.notp rfl rfl) (Wd.u rfl) rfl rfl ?_
                    refine LR.nil ?_
                    refine hK17 _ _ ?_
                    refine CW.condp rfl (fun c48 => ?_) (fun c48 => ?_)
                    ·
                      refine CW.seq (fun K20 hK20 hE20 => ?_)
                      refine CW.region ?_
                      refine LR.v (Y.assign rfl rfl) (Wd.u rfl) rfl rfl ?_
                      refine LR.nil ?_
                      refine hK20 _ _ ?_
                      refine CW.ret (hE15 .ret nofun (by simp) _ _ (hE14 .ret nofun _ _ (hE11 .ret nofun _ _ (hE10 .ret nofun (by simp) _ _ (hE8 .ret nofun _ _ (hret .ret (.inr rfl) _ _ _ (res1 rfl rfl) ?_))))))
                      exact ⟨congrArg Value.bool (nameF (fun h => by have h9 := (okc_iff _).1 (h.2.2.2.2 i hil); simp at *; omega)).symm, hm0⟩
                    ·
                      refine CW.skip ?_
                      refine hK15 _ _ ?_
                      refine QN.sub (hK14 () _ ?_) ⟨rfl, (iv (by omega)), (iv (by omega)), trivial⟩
                      exact ⟨(okc_iff _).2 (by simp at *; omega), hcm14⟩
                ·
                  refine LR.gs rfl rfl rfl rfl rfl rfl ?_
                  refine LR.gs rfl rfl rfl rfl rfl rfl ?_
                  refine LR.v (Y.pick_f rfl rfl rfl) (Wd.g rfl rfl rfl) rfl rfl ?_
                  refine LR.v (Y.pick_f rfl rfl rfl) (Wd.u rfl) rfl rfl ?_
                  refine LR.v (Y.move rfl rfl) (Wd.u rfl) rfl rfl ?_
                  refine LR.v (Y.move rfl rfl) (Wd.g rfl rfl rfl) rfl rfl ?_
                  -- call strings.IndexByte
                  refine LR.call rfl Tryd.call33 rfl (Wd.g rfl rfl rfl) rfl rfl (idx_ct [46, 95, 45, 47] l[i] w0 _) (fun v45 H45 r45 => ?_)
                  obtain ⟨rfl, hs45⟩ := r45
                  replace mx := mx.nw hs45
                  replace owb := owb.nw hs45
                  replace hm0 := hm0.tr hs45
                  replace hlm1 := hlm1.tr hs45
                  replace hcm14 := hcm14.tr hs45
                  have hz8 := hs45.size
                  refine LR.v (Y.geq rfl rfl rfl) (Wd.g rfl rfl rfl) rfl rfl ?_
                  refine LR.v (Y.pick_f rfl rfl rfl) (Wd.u rfl) rfl rfl ?_
                  refine LR.v (Y.notp rfl rfl) (Wd.u rfl) rfl rfl ?_
                  refine LR.nil ?_
                  refine hK17 _ _ ?_
                  refine CW.condp rfl (fun c48 => ?_) (fun c48 => ?_)
                  ·
                    refine CW.seq (fun K21 hK21 hE21 => ?_)
                    refine CW.region ?_
                    refine LR.v (Y.assign rfl rfl) (Wd.u rfl) rfl rfl ?_
                    refine LR.nil ?_
                    refine hK21 _ _ ?_
                    refine CW.ret (hE15 .ret nofun (by simp) _ _ (hE14 .ret nofun _ _ (hE11 .ret nofun _ _ (hE10 .ret nofun (by simp) _ _ (hE8 .ret nofun _ _ (hret .ret (.inr rfl) _ _ _ (res1 rfl rfl) ?_))))))
                    exact ⟨congrArg Value.bool (nameF (fun h => by have h9 := (okc_iff _).1 (h.2.2.2.2 i hil); simp at *; omega)).symm, hm0⟩
                  ·
                    refine CW.skip ?_
                    refine hK15 _ _ ?_
                    refine QN.sub (hK14 () _ ?_) ⟨rfl, (iv (by omega)), (iv (by omega)), trivial⟩
                    exact ⟨(okc_iff _).2 (by simp at *; omega), hcm14⟩
            ·
              intro _ Hcut1 hIcut1
              obtain ⟨hci, hlmcut1⟩ := hIcut1
              replace mx := mx.nw hlmcut1
              replace owb := owb.nw hlmcut1
              replace hm0 := hm0.tr hlmcut1
              replace hlm1 := hlm1.tr hlmcut1
              have hz9 := hlmcut1.size
              refine CW.region ?_
              refine LR.v (Y.addi rfl rfl rfl (by omega)) (Wd.u rfl) rfl rfl ?_
              refine LR.v (Y.move rfl rfl) (Wd.u rfl) rfl rfl ?_
              refine LR.nil ?_
              refine QN.sub (hN11 (i + 1) _ ?_ ?_) ⟨rfl, (iv (by omega)), (iv (by omega)), trivial⟩
              · exact ⟨(by omega), (fun q h h2 => by rcases Nat.lt_or_ge q i with h5 | h5; exact hok q h h5; (obtain rfl : q = i := by omega); exact hci), hlm1⟩
              · first | omega | (simp only; omega) | (simp; omega)
          ·
            refine CW.exit (hE13 (.exit 0) nofun _ _ (hE11 (.exit 0) nofun _ _ (hX10 _ _ ?_)))
            refine hK8 _ _ ?_
            refine CW.seq (fun K22 hK22 hE22 => ?_)
            refine CW.region ?_
            refine LR.v (Y.assign rfl rfl) (Wd.u rfl) rfl rfl ?_
            refine LR.nil ?_
            refine hK22 _ _ ?_
            refine CW.ret (hret .ret (.inr rfl) _ _ _ (res1 rfl rfl) ?_)
            obtain rfl : i = l.length := by omega
            exact ⟨congrArg Value.bool ((name_iff l).2 ⟨g7, by omega, by simpa using g18, by simpa using c21, fun i h => hok i h h⟩).symm, hm0⟩

theorem dir_ct (mx_ : Int) (l : List UInt8) (w0 : World) (H0 : Heap)
    (mx : MX mx_ H0) (bf_mx : BF (fun b => b = 0) H0.size) (hl : l.length ≤ 4294967280) :
    Ct Tryd.prog w0 14 #[Str l] H0 (fun r H2 => r = Str (dirP l) ∧ Nw H0 H2) := by
  refine Ct.enter (args := [Str l]) Tryd.func14 rfl rfl rfl ?_
  intro Q0 hret
  have hm0 : Nw H0 H0 := Mo.refl _ _
  refine CW.seq (fun K1 hK1 hE1 => ?_)
  refine CW.region ?_
  refine LR.v (Y.assign rfl rfl) (Wd.u rfl) rfl rfl ?_
  refine LR.nil ?_
  refine hK1 _ _ ?_
  refine CW.seq (fun K2 hK2 hE2 => ?_)
  refine CW.seq (fun K3 hK3 hE3 => ?_)
  refine CW.region ?_
  refine LR.v (Y.move rfl rfl) (Wd.u rfl) rfl rfl ?_
  -- call selvage/simfs.Name
  refine LR.call rfl Tryd.call12 rfl (Wd.u rfl) rfl rfl (name_ct mx_ l w0 _ mx (bf_mx.mono (by omega)) hl) (fun v4 H4 r4 => ?_)
  obtain ⟨rfl, hs4⟩ := r4
  replace mx := mx.nw hs4
  replace hm0 := hm0.tr hs4
  have hz1 := hs4.size
  refine LR.v (Y.not rfl rfl) (Wd.u rfl) rfl rfl ?_
  refine LR.nil ?_
  refine hK3 _ _ ?_
  refine CW.cond rfl (fun c5 => ?_) (fun c5 => ?_)
  ·
    refine CW.seq (fun K4 hK4 hE4 => ?_)
    refine CW.region ?_
    refine LR.v (Y.assign rfl rfl) (Wd.u rfl) rfl rfl ?_
    refine LR.nil ?_
    refine hK4 _ _ ?_
    refine CW.ret (hE2 .ret nofun _ _ (hret .ret (.inr rfl) _ _ _ (res1 rfl rfl) ?_))
    exact ⟨by rw [dirP, if_neg (by simpa using c5)]; rfl, hm0⟩
  ·
    refine CW.skip ?_
    refine hK2 _ _ ?_
    refine CW.seq (fun K5 hK5 hE5 => ?_)
    refine CW.region ?_
    refine LR.v (Y.move rfl rfl) (Wd.u rfl) rfl rfl ?_
    refine LR.v (Y.move rfl rfl) (Wd.u rfl) rfl rfl ?_
    -- call strings.LastIndexByte
    refine LR.call rfl Tryd.call34 rfl (Wd.u rfl) rfl rfl (lix_ct l w0 _ (by omega)) (fun v8 H8 r8 => ?_)
    obtain ⟨j8, rfl, hj8, hl8, hs8⟩ := r8
    replace mx := mx.nw hs8
    replace hm0 := hm0.tr hs8
    have hz2 := hs8.size
    refine LR.v (Y.cast (v2 := .int .i64 ((j8 - 1 : Nat) : Int)) (Y.maxi rfl rfl rfl) (ivv (by omega))) (Wd.u rfl) rfl rfl ?_
    refine LR.v (Y.sslice (0) (j8 - 1) rfl Tryd.runUnderlying9 rfl (.inl ⟨rfl, rfl⟩) (.inr ⟨_, _, _, rfl, rfl, by first | rfl | omega⟩) (by omega) (by omega)) (Wd.u rfl) rfl rfl ?_
    refine LR.v (Y.assign rfl rfl) (Wd.u rfl) rfl rfl ?_
    refine LR.nil ?_
    refine hK5 _ _ ?_
    refine CW.ret (hret .ret (.inr rfl) _ _ _ (res1 rfl rfl) ?_)
    exact ⟨by rw [dirP, if_pos (by simpa using c5), head_of hj8 hl8]; simp, hm0⟩

end Go.Proofs.YtfbfjhppppoilaaDoor.SimA
